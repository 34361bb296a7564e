/- Texts of one proof, laid together. -/
import Derived.Test.YtpldopoeopjcoaaGreatDoorK17
import Derived.Test.YtpldopoeopjcoaaGreatDoorK06
import Derived.Test.YtpldopoeopjcoaaGreatDoorK18
import Derived.Test.YtpldopoeopjcoaaGreatDoorK09
/- An expression is read back from its text: plain. -/
namespace Go.Proofs.YtpldopoeopjcoaaGreatDoor
open Go.RowKit
def Stop (p : UInt8 → Bool) (r : List UInt8) : Prop := ∀ c r', r = c :: r' → p c = false
theorem runL_app (p : UInt8 → Bool) : ∀ {l r : List UInt8}, l.all p = true → Stop p r → runL p (l ++ r) = l.length
  | [], [], _, _ => rfl
  | [], c :: r, _, h => by
    show runL p (c :: r) = 0
    unfold runL
    rw [h c r rfl]; rfl
  | a :: l, r, hl, h => by
    rw [List.all_cons, Bool.and_eq_true] at hl
    show runL p (a :: (l ++ r)) = _
    unfold runL
    rw [if_pos hl.1, runL_app p hl.2 h]; rfl
theorem dig_nma {c : UInt8} (h : c.toNat < 97) : nma c = false := by
  unfold nma
  rw [decide_eq_false (by omega)]; rfl
theorem cut_word {a : UInt8} {t r : List UInt8} (ha : nma a = true) (ht : t.all nmd = true) (hr : Stop nmd r) : cutL ((a :: t) ++ r) = some (⟨1, ⟨(a :: t).toArray⟩, 0⟩, (a :: t).length) := by
  rw [List.cons_append, cutL_eq, if_pos ha]
  have h := runL_app nmd (l := a :: t) (r := r) (by rw [List.all_cons, nma_nmd ha, ht]; rfl) hr
  rw [List.cons_append] at h
  rw [h, ← List.cons_append, List.take_left]
theorem cut_num {m : Int} {r : List UInt8} (h : I64 m) (hr : Stop dig38 r) : cutL (Lib.itoa m ++ r) = some (⟨2, ⟨#[]⟩, m⟩, (Lib.itoa m).length) := by
  have hd : ∀ u, (Lib.decDigits u).all dig38 = true := fun u => (dec_props u).2.1
  obtain ⟨c, t, e, hc, ht⟩ : ∃ c t, Lib.itoa m = c :: t ∧ (c.toNat = 45 ∨ (48 ≤ c.toNat ∧ c.toNat ≤ 57)) ∧ t.all dig38 = true := by
    unfold Lib.itoa
    split
    · exact ⟨45, _, rfl, .inl rfl, hd _⟩
    · obtain ⟨c, t, e, h1, h2⟩ := dec_head m.toNat
      refine ⟨c, t, e, .inr ⟨h1, h2⟩, ?_⟩
      have := hd m.toNat
      rw [e, List.all_cons, Bool.and_eq_true] at this
      exact this.2
  have hit := atoi_itoa m h
  rw [e] at hit ⊢
  rw [List.cons_append, cutL_eq, if_neg (by rw [dig_nma (by omega)]; exact Bool.false_ne_true), if_pos (by unfold dig38; rcases hc with h | h <;> simp [h]), runL_app dig38 ht hr]
  have et : (c :: (t ++ r)).take (1 + t.length) = c :: t := by
    rw [← List.cons_append, show 1 + t.length = (c :: t).length by simp; omega, List.take_left]
  rw [et, hit]
  simp only
  rw [if_pos e, Nat.add_comm]
  rfl
theorem okc_in {t : List UInt8} (h : safeB t = true) : t.all inTx = true := by
  unfold safeB at h
  refine List.all_eq_true.2 fun c hc => ?_
  have := List.all_eq_true.1 h c hc
  unfold okc at this
  unfold inTx
  simp only [Bool.and_eq_true, decide_eq_true_eq, Bool.not_eq_true', decide_eq_false_iff_not] at this ⊢
  exact this
theorem cut_text {t r : List UInt8} (h : safeB t = true) : cutL ((34 :: (t ++ [34])) ++ r) = some (⟨3, ⟨t.toArray⟩, 0⟩, (34 :: (t ++ [34])).length) := by
  rw [List.cons_append, cutL_eq, if_neg (by decide), if_neg (by decide), if_pos (by decide)]
  have e : t ++ [34] ++ r = t ++ (34 :: r) := by simp
  have hs : Stop inTx (34 :: r) := fun c r' he => by injection he with he _; subst he; decide
  rw [e, runL_app inTx (okc_in h) hs]
  have eg : (34 :: (t ++ 34 :: r))[1 + t.length]? = some (34 : UInt8) := by
    rw [Nat.add_comm, List.getElem?_cons_succ, List.getElem?_append_right (Nat.le_refl _), Nat.sub_self]; rfl
  rw [if_pos eg, List.take_left]
  congr 2
  simp; omega
theorem cut_sign {k : Nat} (hk : k ∈ [1, 2, 3, 4, 5, 6, 7]) {c : UInt8} {r : List UInt8} (hc : c ≠ 61) : cutL ((sgN k).data.toList ++ c :: r) = some (⟨4, sgN k, 0⟩, (sgN k).data.toList.length) := by
  have h1 : (61 == c) = false := by simpa using fun e => hc e.symm
  simp only [List.mem_cons, List.not_mem_nil, or_false] at hk
  rcases hk with rfl | rfl | rfl | rfl | rfl | rfl | rfl
  all_goals
    show cutL (_ :: _) = _
    rw [cutL_eq, if_neg (by decide), if_neg (by decide), if_neg (by decide)]
    simp [signAt, sgL, Lib.hasPrefix, List.isPrefixOf, h1, sgN]
    try rfl
theorem cut_open (r : List UInt8) : cutL (40 :: r) = some (⟨4, ⟨#[40]⟩, 0⟩, 1) := by
  rw [cutL_eq, if_neg (by decide), if_neg (by decide), if_neg (by decide)]
  simp [signAt, sgL, Lib.hasPrefix, List.isPrefixOf]
  rfl
theorem cut_close (r : List UInt8) : cutL (41 :: r) = some (⟨4, ⟨#[41]⟩, 0⟩, 1) := by
  rw [cutL_eq, if_neg (by decide), if_neg (by decide), if_neg (by decide)]
  simp [signAt, sgL, Lib.hasPrefix, List.isPrefixOf]
  rfl
theorem scan_step {a : UInt8} {b r : List UInt8} {t : Tk} (ha : a ≠ 32) (hc : cutL ((a :: b) ++ r) = some (t, (a :: b).length)) : scanE ((a :: b) ++ r) = (scanE r).map (t :: ·) := by
  have e : Lib.trimLeftB ((a :: b) ++ r) 32 = (a :: b) ++ r := by
    unfold Lib.trimLeftB
    rw [List.cons_append, List.dropWhile_cons, if_neg (by simpa using ha)]
  rw [scanE_eq, e, scanR_some hc, List.drop_left]
  rfl
theorem scan_sp (r : List UInt8) : scanE (32 :: r) = scanE r := by
  rw [scanE_eq, scanE_eq]
  unfold Lib.trimLeftB
  rw [List.dropWhile_cons, if_pos (by decide)]
def EndOk (r : List UInt8) : Prop := r = [] ∨ ∃ c r', r = c :: r' ∧ (c = 32 ∨ c = 41)
theorem EndOk.stop {r : List UInt8} (h : EndOk r) {p : UInt8 → Bool} (h1 : p 32 = false) (h2 : p 41 = false) : Stop p r := fun c r' e => by
  rcases h with h | ⟨d, r2, h, hd⟩
  · rw [h] at e; cases e
  · rw [h] at e; injection e with e _; subst e
    rcases hd with rfl | rfl
    · exact h1
    · exact h2
theorem scan_word {a : UInt8} {t r : List UInt8} (ha : nma a = true) (ht : t.all nmd = true) (hr : Stop nmd r) : scanE ((a :: t) ++ r) = (scanE r).map ((⟨1, ⟨(a :: t).toArray⟩, 0⟩ : Tk) :: ·) :=
  scan_step (fun e => by subst e; revert ha; decide) (cut_word ha ht hr)
theorem map_map_app {α : Type} (o : Option (List α)) (a b : List α) : (o.map (a ++ ·)).map (b ++ ·) = o.map ((b ++ a) ++ ·) := by cases o <;> simp
theorem map_cons_app {α : Type} (o : Option (List α)) (a : List α) (t : α) : (o.map (a ++ ·)).map (t :: ·) = o.map ((t :: a) ++ ·) := by cases o <;> rfl
theorem map_cons_one {α : Type} (o : Option (List α)) (t : α) : o.map (t :: ·) = o.map ([t] ++ ·) := by cases o <;> rfl
theorem hit_eq (t : Tk) (r : List Tk) (kd : Int) (tx : ByteArray) : hitB (t :: r) kd tx = (t.kd == kd && t.tx.toList == tx.toList) := rfl
/-- The tokens T are those of the text b, and mean x. -/
def ScanOk (b : List UInt8) (T : List Tk) : Prop := ∀ r, EndOk r → scanE (b ++ r) = (scanE r).map (T ++ ·)
def FacOk (x : Ex) (T : List Tk) : Prop := ∀ n r, T.length ≤ n → facE n (T ++ r) = some (x, r)
def AndOk (x : Ex) (T : List Tk) : Prop := ∀ n r, T.length ≤ n → hitB r 1 sAnd = false → andE n (T ++ r) = some (x, r)
def OrOk (x : Ex) (T : List Tk) : Prop := ∀ n r, T.length ≤ n → hitB r 1 sAnd = false → hitB r 1 sOr = false → orE n (T ++ r) = some (x, r)
theorem FacOk.and {x : Ex} {T : List Tk} (h : FacOk x T) : AndOk x T := fun n r hn ha => by
  unfold andE listE
  rw [h n r hn]
  simp only
  rw [moreE_no ha]
  rfl
theorem AndOk.or {x : Ex} {T : List Tk} (h : AndOk x T) : OrOk x T := fun n r hn ha ho => by
  unfold orE listE
  rw [h n r hn ha]
  simp only
  rw [moreE_no ho]
  rfl
structure RdX (x : Ex) (T : List Tk) : Prop where
  scan : ScanOk (fmtT x).data.toList T
  fac : opX x ≠ 1 → opX x ≠ 2 → FacOk x T
  and_ : opX x ≠ 2 → AndOk x T
  or_ : OrOk x T
theorem kids_pair {Q : Ex → List Tk → Prop} : ∀ {ls : List Ex}, (∀ y ∈ ls, ∃ T, Q y T) → ∃ P : List (Ex × List Tk), P.map Prod.fst = ls ∧ ∀ p ∈ P, Q p.1 p.2
  | [], _ => ⟨[], rfl, fun _ h => by cases h⟩
  | y :: ls, h => by
    obtain ⟨T, hT⟩ := h y (List.mem_cons_self ..)
    obtain ⟨P, e, hP⟩ := kids_pair (Q := Q) (ls := ls) (fun z hz => h z (List.mem_cons_of_mem _ hz))
    refine ⟨(y, T) :: P, by rw [List.map_cons, e], fun p hp => ?_⟩
    rcases List.mem_cons.1 hp with hp | hp
    · subst hp; exact hT
    · exact hP p hp
theorem ba_app (a b : ByteArray) : (a ++ b).data.toList = a.data.toList ++ b.data.toList := by
  rw [ByteArray.data_append, Array.toList_append]
/-- A part, with its brackets. -/
theorem kid_scan {op : Int} {y : Ex} {T : List Tk} (h : ScanOk (fmtT y).data.toList T) : ScanOk (kidT op y).data.toList (if wrapB op y = true then ⟨4, ⟨#[40]⟩, 0⟩ :: (T ++ [⟨4, ⟨#[41]⟩, 0⟩]) else T) := fun r hr => by
  unfold kidT wrapS
  by_cases hw : wrapB op y = true
  · rw [if_pos hw, if_pos hw, ba_app, ba_app, List.append_assoc, List.append_assoc]
    show scanE ([40] ++ _) = _
    rw [scan_step (a := 40) (b := []) (by decide) (cut_open _)]
    show Option.map _ (scanE (_ ++ ([41] ++ r))) = _
    rw [h ([41] ++ r) (.inr ⟨41, r, rfl, .inr rfl⟩), scan_step (a := 41) (b := []) (by decide) (cut_close _)]
    cases scanE r <;> simp
  · rw [if_neg hw, if_neg hw]
    exact h r hr
theorem kid_fac {op : Int} (ho : op = 1 ∨ op = 3) {y : Ex} {T : List Tk} (h : RdX y T) : FacOk y (if wrapB op y = true then ⟨4, ⟨#[40]⟩, 0⟩ :: (T ++ [⟨4, ⟨#[41]⟩, 0⟩]) else T) := by
  by_cases hw : wrapB op y = true
  · rw [if_pos hw]
    intro n r hn
    obtain ⟨m, rfl⟩ : ∃ m, n = m + 1 := ⟨n - 1, by simp at hn; omega⟩
    rw [List.cons_append, facE_succ, if_neg (by rw [hit_eq]; decide +kernel), if_neg (by rw [hit_eq]; decide +kernel), if_pos (by rw [hit_eq]; decide +kernel)]
    show parE (orE m (T ++ [_] ++ r)) = _
    rw [List.append_assoc, h.or_ m _ (by simp at hn; omega) (by rw [List.singleton_append, hit_eq]; decide +kernel) (by rw [List.singleton_append, hit_eq]; decide +kernel)]
    unfold parE
    simp only
    rw [List.singleton_append, if_pos (by rw [hit_eq]; decide +kernel)]
    rfl
  · rw [if_neg hw]
    unfold wrapB at hw
    simp only [Bool.or_eq_true, Bool.and_eq_true, beq_iff_eq, bne_iff_ne, ne_eq, not_or, not_and] at hw
    refine h.fac (fun e => ?_) hw.1
    have := hw.2 e
    rcases ho with rfl | rfl <;> exact this (by decide)
theorem kid_and {y : Ex} {T : List Tk} (h : RdX y T) : AndOk y (if wrapB 2 y = true then ⟨4, ⟨#[40]⟩, 0⟩ :: (T ++ [⟨4, ⟨#[41]⟩, 0⟩]) else T) := by
  by_cases hw : wrapB 2 y = true
  · have hw1 : wrapB 1 y = true := by
      unfold wrapB at hw ⊢
      simp only [Bool.or_eq_true, Bool.and_eq_true, beq_iff_eq, bne_iff_ne, ne_eq] at hw ⊢
      rcases hw with hw | hw
      · exact .inl hw
      · exact absurd trivial hw.2
    have := kid_fac (op := 1) (.inl rfl) h
    rw [if_pos hw1] at this
    rw [if_pos hw]
    exact this.and
  · rw [if_neg hw]
    refine h.and_ (fun e => hw ?_)
    unfold wrapB
    rw [e]; rfl
theorem more_join {f : List Tk → Option (Ex × List Tk)} (hf : ∀ ts, Less (f ts) ts.length) {G : List Tk → Prop} {wd : ByteArray} (hG : ∀ r, G ((⟨1, wd, 0⟩ : Tk) :: r)) {r : List Tk} (hr : G r) (hh : hitB r 1 wd = false) :
    ∀ (P : List (Ex × List Tk)), (∀ p ∈ P, ∀ s, G s → f (p.2 ++ s) = some (p.1, s)) →
    moreE f wd ((P.flatMap fun p => (⟨1, wd, 0⟩ : Tk) :: p.2) ++ r).length ((P.flatMap fun p => (⟨1, wd, 0⟩ : Tk) :: p.2) ++ r) = some (P.map Prod.fst, r)
  | [], _ => by
    show moreE f wd r.length r = _
    rw [moreE_no hh]; rfl
  | p :: P, h => by
    have ih := more_join hf hG hr hh P (fun q hq => h q (List.mem_cons_of_mem _ hq))
    have hp := h p (List.mem_cons_self ..)
    rw [more_step hf, List.flatMap_cons, List.cons_append, List.cons_append]
    have h1 : hitB ((⟨1, wd, 0⟩ : Tk) :: (p.2 ++ (P.flatMap fun p => (⟨1, wd, 0⟩ : Tk) :: p.2) ++ r)) 1 wd = true := by
      unfold hitB
      simp
    rw [if_pos h1, List.tail_cons, List.append_assoc]
    have hg : G ((P.flatMap fun p => (⟨1, wd, 0⟩ : Tk) :: p.2) ++ r) := by
      cases P with
      | nil => exact hr
      | cons q P => rw [List.flatMap_cons, List.cons_append, List.cons_append]; exact hG _
    rw [hp _ hg]
    simp only
    rw [ih]
    rfl
/-- The tokens of parts with a word between them. -/
def joinK (wd : ByteArray) : List (List Tk) → List Tk
  | [] => []
  | K :: Ks => K ++ Ks.flatMap fun k => (⟨1, wd, 0⟩ : Tk) :: k
theorem list_join {f : List Tk → Option (Ex × List Tk)} (hf : ∀ ts, Less (f ts) ts.length) {G : List Tk → Prop} {wd : ByteArray} (hG : ∀ r, G ((⟨1, wd, 0⟩ : Tk) :: r)) {r : List Tk} (hr : G r) (hh : hitB r 1 wd = false) (op : Int)
    (P : List (Ex × List Tk)) (h2 : 2 ≤ P.length) (h : ∀ p ∈ P, ∀ s, G s → f (p.2 ++ s) = some (p.1, s)) :
    listE f op wd (joinK wd (P.map Prod.snd) ++ r) = some (.mk op 0 0 0 ⟨#[]⟩ ⟨#[]⟩ (P.map Prod.fst), r) := by
  match P, h2, h with
  | p :: q :: P, _, h =>
    have hm := more_join hf hG hr hh (q :: P) (fun x hx => h x (List.mem_cons_of_mem _ hx))
    have hp := h p (List.mem_cons_self ..)
    have e : (((q :: P).map Prod.snd).flatMap fun k => (⟨1, wd, 0⟩ : Tk) :: k) = (q :: P).flatMap fun p => (⟨1, wd, 0⟩ : Tk) :: p.2 := by rw [List.flatMap_map]
    show listE f op wd ((p.2 ++ _) ++ r) = _
    rw [e, List.append_assoc]
    unfold listE
    rw [hp _ (by rw [List.flatMap_cons, List.cons_append, List.cons_append]; exact hG _)]
    simp only
    rw [hm]
    rfl
theorem scan_join {wd : ByteArray} {a : UInt8} {t : List UInt8} (hw : wd.data.toList = a :: t) (ha : nma a = true) (ht : t.all nmd = true) : ∀ (B : List (List UInt8 × List Tk)), B ≠ [] → (∀ b ∈ B, ScanOk b.1 b.2) →
    ScanOk (Lib.join (B.map Prod.fst) (32 :: (wd.data.toList ++ [32]))) (joinK wd (B.map Prod.snd))
  | [], h, _ => absurd rfl h
  | b :: B, _, h => by
    have hb := h b (List.mem_cons_self ..)
    have hB : ∀ c ∈ B, ScanOk c.1 c.2 := fun c hc => h c (List.mem_cons_of_mem _ hc)
    intro r hr
    rw [List.map_cons, List.map_cons, Lib.join_cons]
    show _ = Option.map (fun x => (b.2 ++ (B.map Prod.snd).flatMap fun k => (⟨1, wd, 0⟩ : Tk) :: k) ++ x) _
    have tail : ∀ (B : List (List UInt8 × List Tk)), (∀ c ∈ B, ScanOk c.1 c.2) → EndOk (Lib.joinTail (32 :: (wd.data.toList ++ [32])) (B.map Prod.fst) ++ r) ∧ scanE (Lib.joinTail (32 :: (wd.data.toList ++ [32])) (B.map Prod.fst) ++ r) = (scanE r).map (((B.map Prod.snd).flatMap fun k => (⟨1, wd, 0⟩ : Tk) :: k) ++ ·) := fun B => by
      induction B with
      | nil =>
        intro _
        refine ⟨hr, ?_⟩
        show scanE r = Option.map (fun x => [] ++ x) _
        cases scanE r <;> rfl
      | cons c B ih =>
        intro hB
        obtain ⟨i1, i2⟩ := ih (fun d hd => hB d (List.mem_cons_of_mem _ hd))
        have hc := hB c (List.mem_cons_self ..)
        have e : Lib.joinTail (32 :: (wd.data.toList ++ [32])) ((c :: B).map Prod.fst) ++ r = 32 :: ((a :: t) ++ (32 :: (c.1 ++ (Lib.joinTail (32 :: (wd.data.toList ++ [32])) (B.map Prod.fst) ++ r)))) := by
          unfold Lib.joinTail
          rw [hw]
          simp
        have ew : (⟨(a :: t).toArray⟩ : ByteArray) = wd := bytes_ext (by rw [hw])
        rw [e]
        refine ⟨.inr ⟨_, _, rfl, .inl rfl⟩, ?_⟩
        rw [scan_sp, scan_word ha ht (fun c r' e => by injection e with e _; subst e; decide), scan_sp, hc _ i1, i2, ew]
        cases scanE r <;> simp
    obtain ⟨i1, i2⟩ := tail B hB
    rw [List.append_assoc, hb _ i1, i2]
    cases scanE r <;> simp
end Go.Proofs.YtpldopoeopjcoaaGreatDoor
/- An expression is read back from its text: each kind. -/
namespace Go.Proofs.YtpldopoeopjcoaaGreatDoor
open Go.RowKit
theorem nam_parts {nm : ByteArray} (h : nam38 nm = true) : keyB nm = false ∧ ∃ a t, nm.data.toList = a :: t ∧ nma a = true ∧ t.all nmd = true := by
  unfold nam38 at h
  rw [Bool.and_eq_true] at h
  obtain ⟨h1, h2⟩ := h
  refine ⟨by simpa using h2, ?_⟩
  unfold nameBv at h1
  cases hl : nm.data.toList with
  | nil => rw [hl] at h1; cases h1
  | cons a t =>
    rw [hl] at h1
    simp only [Bool.and_eq_true, decide_eq_true_eq] at h1
    exact ⟨a, t, rfl, h1.1.2, h1.2⟩
theorem key_parts {nm : ByteArray} (h : keyB nm = false) : (nm.toList == sNot.toList) = false ∧ (nm.toList == sHas.toList) = false := by
  unfold keyB at h
  simp only [Bool.or_eq_false_iff] at h
  exact ⟨by have := h.1.2; rwa [show sNot.toList = [110, 111, 116] by rw [bs_tl]; rfl], by have := h.2; rwa [show sHas.toList = [104, 97, 115] by rw [bs_tl]; rfl]⟩
theorem scan_nm {nm : ByteArray} (h : nam38 nm = true) {r : List UInt8} (hr : Stop nmd r) : scanE (nm.data.toList ++ r) = (scanE r).map ((⟨1, nm, 0⟩ : Tk) :: ·) := by
  obtain ⟨_, a, t, e, ha, ht⟩ := nam_parts h
  have ew : (⟨(a :: t).toArray⟩ : ByteArray) = nm := bytes_ext (by rw [e])
  rw [e, scan_word ha ht hr, ew]
theorem scan_sHas {r : List UInt8} : scanE (sHas.data.toList ++ 32 :: r) = (scanE (32 :: r)).map ((⟨1, sHas, 0⟩ : Tk) :: ·) :=
  scan_word (a := 104) (t := [97, 115]) (by decide) (by decide) (fun c r' e => by injection e with e _; subst e; decide)
theorem scan_sNot {r : List UInt8} : scanE (sNot.data.toList ++ 32 :: r) = (scanE (32 :: r)).map ((⟨1, sNot, 0⟩ : Tk) :: ·) :=
  scan_word (a := 110) (t := [111, 116]) (by decide) (by decide) (fun c r' e => by injection e with e _; subst e; decide)
theorem empty_of {b : ByteArray} (h : b.toList.isEmpty = true) : b = ⟨#[]⟩ := by
  rw [bs_tl] at h
  exact bytes_ext (List.isEmpty_iff.1 h)
theorem hex_nmd (t : List UInt8) : (hexL t).all nmd = true := by
  have hd : ∀ n, n < 16 → nmd (hexd n) = true := by decide +kernel
  unfold hexL
  refine List.all_eq_true.2 fun c hc => ?_
  obtain ⟨d, _, hd2⟩ := List.mem_flatMap.1 hc
  have := d.toNat_lt
  unfold hex2 at hd2
  simp only [List.mem_cons, List.not_mem_nil, or_false] at hd2
  rcases hd2 with rfl | rfl
  · exact hd _ (by omega)
  · exact hd _ (by omega)
/-- The token of a value. -/
theorem scan_val {kd nu : Int} {tx : ByteArray} (hk : kd = 1 ∧ tx = ⟨#[]⟩ ∧ I64 nu ∨ kd = 2 ∧ nu = 0 ∧ tx.size ≤ 128) : ∃ t : Tk, ∃ a b, (if kd = 1 then numS nu else quoteS tx).data.toList = a :: b ∧ a ≠ 61 ∧ (∀ r, EndOk r → scanE ((a :: b) ++ r) = (scanE r).map (t :: ·)) ∧ ∀ nm cm r, valE nm cm (t :: r) = some (.mk 4 cm kd nu nm tx [], r) := by
  rcases hk with ⟨rfl, rfl, hn⟩ | ⟨rfl, rfl, ht⟩
  · obtain ⟨c, t, e, hc⟩ := itoa_head nu
    have e2 : (if (1 : Int) = 1 then numS nu else quoteS ⟨#[]⟩).data.toList = Lib.itoa nu := by rw [if_pos rfl, numS_list]
    refine ⟨⟨2, ⟨#[]⟩, nu⟩, c, t, by rw [e2, e], fun h => by subst h; revert hc; decide, fun r hr => ?_, fun nm cm r => by rw [valE_cons, if_pos rfl]⟩
    have h := cut_num (r := r) hn (hr.stop (by decide) (by decide))
    rw [e] at h
    exact scan_step (fun h => by subst h; revert hc; decide) h
  · have hl : tx.data.toList.length = tx.size := Array.length_toList
    have e2 : (if (2 : Int) = 1 then numS 0 else quoteS tx).data.toList = quoteL tx.data.toList := by
      rw [if_neg (by decide)]
      unfold quoteS
      rw [if_neg (by omega)]
    have et : (⟨tx.data.toList.toArray⟩ : ByteArray) = tx := rfl
    rw [e2]
    cases hs : safeB tx.data.toList with
    | true =>
      have e3 : quoteL tx.data.toList = 34 :: (tx.data.toList ++ [34]) := by unfold quoteL; rw [hs]; rfl
      refine ⟨⟨3, tx, 0⟩, 34, _, e3, by decide, fun r hr => ?_, fun nm cm r => by rw [valE_cons, if_neg (show ¬ (3 : Int) = 2 by decide), if_pos rfl]⟩
      have h := cut_text (r := r) hs
      exact scan_step (by decide) h
    | false =>
      have e3 : quoteL tx.data.toList = 120 :: hexL tx.data.toList := by unfold quoteL; rw [hs]; rfl
      have hu : unqO (120 :: hexL tx.data.toList) = some tx.data.toList := unqO_of ⟨e3, by omega⟩
      refine ⟨⟨1, ⟨(120 :: hexL tx.data.toList).toArray⟩, 0⟩, 120, _, e3, by decide, fun r hr => ?_, fun nm cm r => ?_⟩
      · exact scan_word (by decide) (hex_nmd _) (hr.stop (by decide) (by decide))
      · rw [valE_cons, if_neg (show ¬ (1 : Int) = 2 by decide), if_neg (show ¬ (1 : Int) = 3 by decide), if_pos rfl]
        show (match unqO (120 :: hexL tx.data.toList) with | some u => _ | none => _) = _
        rw [hu]
theorem sgn_head : ∀ k ∈ [1, 2, 3, 4, 5, 6, 7], ∃ a b, (sgN k).data.toList = a :: b ∧ nmd a = false ∧ a ≠ 32 ∧ cmpL (sgN k).data.toList = (k : Int) := by
  intro k hk
  simp only [List.mem_cons, List.not_mem_nil, or_false] at hk
  rcases hk with rfl | rfl | rfl | rfl | rfl | rfl | rfl <;> exact ⟨_, _, rfl, by decide, by decide, by decide +kernel⟩
theorem rd_test {cm kd nu : Int} {nm tx : ByteArray} (hm : nam38 nm = true) (hc : cmpsB cm kd nu tx = true) (hn : I64 nu) : ∃ T, RdX (.mk 4 cm kd nu nm tx []) T := by
  obtain ⟨hcm, hk⟩ : (∃ k ∈ [1, 2, 3, 4, 5, 6, 7], cm = ((k : Nat) : Int)) ∧ (kd = 1 ∧ tx = ⟨#[]⟩ ∧ I64 nu ∨ kd = 2 ∧ nu = 0 ∧ tx.size ≤ 128) := by
    unfold cmpsB at hc
    split at hc
    · rename_i h1
      simp only [Bool.and_eq_true, decide_eq_true_eq] at hc
      refine ⟨⟨cm.toNat, ?_, by omega⟩, .inl ⟨h1, empty_of hc.1.1, hn⟩⟩
      simp only [List.mem_cons, List.not_mem_nil, or_false]
      omega
    · split at hc
      · rename_i h1
        simp only [Bool.and_eq_true, decide_eq_true_eq, Bool.or_eq_true] at hc
        refine ⟨⟨cm.toNat, ?_, by omega⟩, .inr ⟨h1, hc.1.1, hc.1.2⟩⟩
        simp only [List.mem_cons, List.not_mem_nil, or_false]
        omega
      · cases hc
  obtain ⟨k, hk7, rfl⟩ := hcm
  obtain ⟨t, a, b, e1, e2, e3, e4⟩ := scan_val hk
  obtain ⟨c, d, s1, s2, s3, s4⟩ := sgn_head k hk7
  obtain ⟨n1, n2⟩ := nam_parts hm
  obtain ⟨k1, k2⟩ := key_parts n1
  have hF : FacOk (.mk 4 (k : Int) kd nu nm tx []) [⟨1, nm, 0⟩, ⟨4, sgN k, 0⟩, t] := fun n r hn => by
    obtain ⟨m, rfl⟩ : ∃ m, n = m + 1 := ⟨n - 1, by simp at hn; omega⟩
    show facE (m + 1) (_ :: _ :: t :: r) = _
    rw [facE_succ, if_neg (by rw [hit_eq, k1]; simp), if_neg (by rw [hit_eq, k2]; simp), if_neg (by rw [hit_eq]; simp)]
    unfold testE
    rw [wordE_cons, if_pos ⟨rfl, n1⟩]
    show cmpE nm (_ :: t :: r) = _
    have hck : cmpL (sgN k).toList = (k : Int) := by rw [bs_tl]; exact s4
    have h0 : (k : Int) ≠ 0 := by
      simp only [List.mem_cons, List.not_mem_nil, or_false] at hk7
      omega
    rw [cmpE_cons, if_pos ⟨rfl, by show cmpL (sgN k).toList ≠ 0; rw [hck]; exact h0⟩]
    show valE nm (cmpL (sgN k).toList) (t :: r) = _
    rw [hck, e4]
  refine ⟨_, ⟨fun r hr => ?_, fun _ _ => hF, fun _ => hF.and, hF.and.or⟩⟩
  have ef : (fmtT (.mk 4 (k : Int) kd nu nm tx [])).data.toList = nm.data.toList ++ ((sgN k).data.toList ++ (a :: b)) := by
    rw [fmtT_eq]
    unfold fmtN
    rw [if_pos rfl, ba_app, ba_app, e1, show ((k : Int)).toNat = k from rfl, List.append_assoc]
  have hs : scanE ((sgN k).data.toList ++ ((a :: b) ++ r)) = (scanE ((a :: b) ++ r)).map ((⟨4, sgN k, 0⟩ : Tk) :: ·) := by
    have := cut_sign hk7 (r := b ++ r) e2
    rw [s1] at this ⊢
    exact scan_step s3 this
  rw [ef, List.append_assoc, List.append_assoc, scan_nm hm (fun x r' e => by rw [s1] at e; injection e with e _; subst e; exact s2), hs, e3 r hr]
  cases scanE r <;> rfl
theorem rd_has {nm : ByteArray} (hm : nam38 nm = true) : ∃ T, RdX (.mk 5 0 0 0 nm ⟨#[]⟩ []) T := by
  obtain ⟨n1, n2⟩ := nam_parts hm
  have hF : FacOk (.mk 5 0 0 0 nm ⟨#[]⟩ []) [⟨1, sHas, 0⟩, ⟨1, nm, 0⟩] := fun n r hn => by
    obtain ⟨m, rfl⟩ : ∃ m, n = m + 1 := ⟨n - 1, by simp at hn; omega⟩
    show facE (m + 1) (_ :: _ :: r) = _
    rw [facE_succ, if_neg (by rw [hit_eq]; decide +kernel), if_pos (by rw [hit_eq]; decide +kernel), List.tail_cons]
    unfold hasE
    rw [wordE_cons, if_pos ⟨rfl, n1⟩]
  refine ⟨_, ⟨fun r hr => ?_, fun _ _ => hF, fun _ => hF.and, hF.and.or⟩⟩
  have ef : (fmtT (.mk 5 0 0 0 nm ⟨#[]⟩ [])).data.toList = sHas.data.toList ++ 32 :: nm.data.toList := by
    rw [fmtT_eq]
    unfold fmtN
    rw [if_neg (by decide), if_pos rfl, ba_app]
    rfl
  rw [ef, List.append_assoc, List.cons_append, scan_sHas, scan_sp, scan_nm hm (hr.stop (by decide) (by decide))]
  cases scanE r <;> rfl
theorem inn_parts {cm kd nu : Int} {nm tx : ByteArray} (h : innB cm kd nu nm tx = true) : cm = 0 ∧ kd = 0 ∧ nu = 0 ∧ nm = ⟨#[]⟩ ∧ tx = ⟨#[]⟩ := by
  unfold innB at h
  simp only [Bool.and_eq_true, decide_eq_true_eq] at h
  exact ⟨h.1.1.1.1, h.1.1.1.2, h.1.1.2, empty_of h.1.2, empty_of h.2⟩
theorem rd_not {y : Ex} {T : List Tk} (h : RdX y T) : ∃ T, RdX (.mk 3 0 0 0 ⟨#[]⟩ ⟨#[]⟩ [y]) T := by
  have hk := kid_fac (op := 3) (.inr rfl) h
  have hs := kid_scan (op := 3) h.scan
  generalize (if wrapB 3 y = true then (⟨4, ⟨#[40]⟩, 0⟩ : Tk) :: (T ++ [⟨4, ⟨#[41]⟩, 0⟩]) else T) = K at hk hs
  have hF : FacOk (.mk 3 0 0 0 ⟨#[]⟩ ⟨#[]⟩ [y]) (⟨1, sNot, 0⟩ :: K) := fun n r hn => by
    obtain ⟨m, rfl⟩ : ∃ m, n = m + 1 := ⟨n - 1, by simp at hn; omega⟩
    rw [List.cons_append, facE_succ, if_pos (by rw [hit_eq]; decide +kernel), List.tail_cons, hk m r (by simp at hn; omega)]
    rfl
  refine ⟨_, ⟨fun r hr => ?_, fun _ _ => hF, fun _ => hF.and, hF.and.or⟩⟩
  have ef : (fmtT (.mk 3 0 0 0 ⟨#[]⟩ ⟨#[]⟩ [y])).data.toList = sNot.data.toList ++ 32 :: (kidT 3 y).data.toList := by
    rw [fmtT_eq]
    unfold fmtN
    rw [if_neg (by decide), if_neg (by decide), if_pos rfl, ba_app]
    rfl
  rw [ef, List.append_assoc, List.cons_append, scan_sNot, scan_sp, hs r hr, map_cons_app]
theorem joinS_tl (sep : ByteArray) (L : List ByteArray) : (joinS sep L).data.toList = Lib.join (L.map (·.data.toList)) sep.data.toList := rfl
/-- The parts of a list, each with its text and tokens. -/
theorem kids_rd {ls : List Ex} (h : ∀ y ∈ ls, ∃ T, RdX y T) (op : Int) : ∃ P : List (Ex × List Tk), P.map Prod.fst = ls ∧ (∀ p ∈ P, ScanOk (kidT op p.1).data.toList p.2) ∧ (op = 1 → ∀ p ∈ P, FacOk p.1 p.2) ∧ (op = 2 → ∀ p ∈ P, AndOk p.1 p.2) := by
  obtain ⟨P, e, hP⟩ := kids_pair (Q := fun y K => ScanOk (kidT op y).data.toList K ∧ (op = 1 → FacOk y K) ∧ (op = 2 → AndOk y K)) (ls := ls) (fun y hy => by
    obtain ⟨T, hT⟩ := h y hy
    exact ⟨_, kid_scan hT.scan, fun h1 => by subst h1; exact kid_fac (.inl rfl) hT, fun h2 => by subst h2; exact kid_and hT⟩)
  exact ⟨P, e, fun p hp => (hP p hp).1, fun h1 p hp => (hP p hp).2.1 h1, fun h2 p hp => (hP p hp).2.2 h2⟩
theorem len_flat {wd : ByteArray} : ∀ {Ks : List (List Tk)} {K : List Tk}, K ∈ Ks → K.length ≤ (Ks.flatMap fun k => (⟨1, wd, 0⟩ : Tk) :: k).length
  | [], _, h => by cases h
  | a :: Ks, K, h => by
    rw [List.flatMap_cons, List.length_append]
    rcases List.mem_cons.1 h with h | h
    · subst h; simp only [List.length_cons]; omega
    · have := len_flat (wd := wd) h; omega
theorem len_join {wd : ByteArray} : ∀ {Ks : List (List Tk)} {K : List Tk}, K ∈ Ks → K.length ≤ (joinK wd Ks).length
  | [], _, h => by cases h
  | K0 :: Ks, K, h => by
    show _ ≤ (K0 ++ Ks.flatMap fun k => (⟨1, wd, 0⟩ : Tk) :: k).length
    rw [List.length_append]
    rcases List.mem_cons.1 h with h | h
    · subst h; omega
    · have := len_flat (wd := wd) h
      omega
theorem rd_and {ls : List Ex} (h2 : 2 ≤ ls.length) (h : ∀ y ∈ ls, ∃ T, RdX y T) : ∃ T, RdX (.mk 1 0 0 0 ⟨#[]⟩ ⟨#[]⟩ ls) T := by
  obtain ⟨P, e, hS, hF, _⟩ := kids_rd h 1
  have hlen : P.length = ls.length := by rw [← e, List.length_map]
  have hA : AndOk (.mk 1 0 0 0 ⟨#[]⟩ ⟨#[]⟩ ls) (joinK sAnd (P.map Prod.snd)) := fun n r hn ha => by
    have := list_join (f := facE n) (fac_less n) (G := fun _ => True) (wd := sAnd) (fun _ => trivial) (r := r) trivial ha 1 P (by omega) (fun p hp s _ => hF rfl p hp n s (by have := len_join (wd := sAnd) (List.mem_map.2 ⟨p, hp, rfl⟩ : p.2 ∈ P.map Prod.snd); omega))
    rw [e] at this
    exact this
  refine ⟨_, ⟨?_, fun h1 _ => absurd rfl h1, fun _ => hA, hA.or⟩⟩
  have := scan_join (wd := sAnd) (a := 97) (t := [110, 100]) rfl (by decide) (by decide) (P.map fun p => ((kidT 1 p.1).data.toList, p.2)) (fun h0 => by have := congrArg List.length h0; simp at this; rw [this] at hlen; simp at hlen; omega) (fun b hb => by obtain ⟨p, hp, rfl⟩ := List.mem_map.1 hb; exact hS p hp)
  rw [List.map_map, List.map_map] at this
  have ef : (fmtT (.mk 1 0 0 0 ⟨#[]⟩ ⟨#[]⟩ ls)).data.toList = Lib.join (P.map (Prod.fst ∘ fun p => ((kidT 1 p.1).data.toList, p.2))) (32 :: (sAnd.data.toList ++ [32])) := by
    rw [fmtT_eq, ← e]
    unfold fmtN
    rw [if_neg (by decide), if_neg (by decide), if_neg (by decide), if_pos rfl, joinS_tl, List.map_map, List.map_map]
    rfl
  rw [ef]
  exact this
theorem rd_or {ls : List Ex} (h2 : 2 ≤ ls.length) (h : ∀ y ∈ ls, ∃ T, RdX y T) : ∃ T, RdX (.mk 2 0 0 0 ⟨#[]⟩ ⟨#[]⟩ ls) T := by
  obtain ⟨P, e, hS, _, hF⟩ := kids_rd h 2
  have hlen : P.length = ls.length := by rw [← e, List.length_map]
  have hA : OrOk (.mk 2 0 0 0 ⟨#[]⟩ ⟨#[]⟩ ls) (joinK sOr (P.map Prod.snd)) := fun n r hn ha ho => by
    have := list_join (f := andE n) (and_less n) (G := fun s => hitB s 1 sAnd = false) (wd := sOr) (fun _ => by rw [hit_eq]; decide +kernel) (r := r) ha ho 2 P (by omega) (fun p hp s hs => hF rfl p hp n s (by have := len_join (wd := sOr) (List.mem_map.2 ⟨p, hp, rfl⟩ : p.2 ∈ P.map Prod.snd); omega) hs)
    rw [e] at this
    exact this
  refine ⟨_, ⟨?_, fun _ h1 => absurd rfl h1, fun h1 => absurd rfl h1, hA⟩⟩
  have := scan_join (wd := sOr) (a := 111) (t := [114]) rfl (by decide) (by decide) (P.map fun p => ((kidT 2 p.1).data.toList, p.2)) (fun h0 => by have := congrArg List.length h0; simp at this; rw [this] at hlen; simp at hlen; omega) (fun b hb => by obtain ⟨p, hp, rfl⟩ := List.mem_map.1 hb; exact hS p hp)
  rw [List.map_map, List.map_map] at this
  have ef : (fmtT (.mk 2 0 0 0 ⟨#[]⟩ ⟨#[]⟩ ls)).data.toList = Lib.join (P.map (Prod.fst ∘ fun p => ((kidT 2 p.1).data.toList, p.2))) (32 :: (sOr.data.toList ++ [32])) := by
    rw [fmtT_eq, ← e]
    unfold fmtN
    rw [if_neg (by decide), if_neg (by decide), if_neg (by decide), if_neg (by decide), joinS_tl, List.map_map, List.map_map]
    rfl
  rw [ef]
  exact this
theorem rd_any : ∀ (n : Nat) (x : Ex), SizeOf.sizeOf x ≤ n → soundX x = true → NumX x → ∃ T, RdX x T
  | 0, .mk _ _ _ _ _ _ _, h, _, _ => by simp at h
  | n + 1, .mk op cm kd nu nm tx ls, h, hs, hN => by
    rw [soundX_eq, Bool.and_eq_true] at hs
    obtain ⟨hl, hh⟩ := hs
    obtain ⟨hn, ihN⟩ : I64 nu ∧ ∀ y ∈ ls, NumX y := by cases hN with | mk _ _ _ _ _ _ _ a b => exact ⟨a, b⟩
    have hk : ∀ y ∈ ls, ∃ T, RdX y T := fun y hy => by
      obtain ⟨k, hk, rfl⟩ := List.getElem_of_mem hy
      exact rd_any n _ (by have := size_at (op := op) (cm := cm) (kd := kd) (nu := nu) (nm := nm) (tx := tx) hk; omega) (soundL_all hl k hk) (ihN _ hy)
    unfold headX at hh
    by_cases h12 : op = 1 ∨ op = 2
    · rw [if_pos h12, Bool.and_eq_true, decide_eq_true_eq] at hh
      obtain ⟨rfl, rfl, rfl, rfl, rfl⟩ := inn_parts hh.1
      rcases h12 with rfl | rfl
      · exact rd_and hh.2 hk
      · exact rd_or hh.2 hk
    · rw [if_neg h12] at hh
      by_cases h3 : op = 3
      · rw [if_pos h3, Bool.and_eq_true, decide_eq_true_eq] at hh
        obtain ⟨rfl, rfl, rfl, rfl, rfl⟩ := inn_parts hh.1
        subst h3
        obtain ⟨y, rfl⟩ := List.length_eq_one_iff.1 hh.2
        obtain ⟨T, hT⟩ := hk y (List.mem_singleton.2 rfl)
        exact rd_not hT
      · rw [if_neg h3] at hh
        by_cases h4 : op = 4
        · rw [if_pos h4] at hh
          simp only [Bool.and_eq_true, decide_eq_true_eq] at hh
          subst h4
          rw [List.eq_nil_of_length_eq_zero hh.1.1]
          exact rd_test hh.1.2 hh.2 hn
        · rw [if_neg h4] at hh
          by_cases h5 : op = 5
          · rw [if_pos h5] at hh
            simp only [Bool.and_eq_true, decide_eq_true_eq] at hh
            subst h5
            obtain ⟨⟨⟨⟨⟨q1, q2⟩, rfl⟩, rfl⟩, rfl⟩, q6⟩ := hh
            rw [List.eq_nil_of_length_eq_zero q1, empty_of q6]
            exact rd_has q2
          · rw [if_neg h5] at hh; cases hh
/-- What format writes is read back. -/
theorem back_parse {x : Ex} (hs : soundX x = true) (hN : NumX x) : parseE (fmtT x).data.toList = some x := by
  obtain ⟨T, h⟩ := rd_any _ x (Nat.le_refl _) hs hN
  have h1 := h.scan [] (.inl rfl)
  have h2 := h.or_ T.length [] (Nat.le_refl _) rfl rfl
  rw [List.append_nil] at h1 h2
  unfold parseE
  rw [h1]
  have e : scanE [] = some [] := rfl
  rw [e]
  simp only [Option.map_some, List.append_nil]
  rw [h2]
  rfl
theorem back_nonempty {x : Ex} (hs : soundX x = true) (hN : NumX x) : (fmtT x).data.toList ≠ [] := fun e => by
  have := back_parse hs hN
  rw [e] at this
  cases this
end Go.Proofs.YtpldopoeopjcoaaGreatDoor
