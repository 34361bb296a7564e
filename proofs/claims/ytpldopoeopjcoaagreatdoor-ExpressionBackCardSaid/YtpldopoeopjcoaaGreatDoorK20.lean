/- Texts of one proof, laid together. -/
import Derived.Test.YtpldopoeopjcoaaGreatDoorK19
import Derived.Test.YtpldopoeopjcoaaGreatDoorK18
import Derived.Test.YtpldopoeopjcoaaGreatDoorK14
import Derived.StillTailTactics
import Derived.Test.YtpldopoeopjcoaaGreatDoorK17
import Derived.Test.YtpldopoeopjcoaaGreatDoorK01
/- The numbers of an expression that was read; how long a text is. -/
namespace Go.Proofs.YtpldopoeopjcoaaGreatDoor
open Go.RowKit
theorem atoi_i64 {l : List UInt8} {m : Int} (h : Lib.atoiAll l = .ok m) : I64 m := by
  unfold Lib.atoiAll at h
  cases l with
  | nil => cases h
  | cons c r =>
    simp only at h
    split at h
    · cases h
    · cases h
    · split at h
      · cases h
      · split at h
        · cases h
        · injection h with h
          unfold I64
          split at h <;> omega
def Nums (ts : List Tk) : Prop := ∀ t ∈ ts, I64 t.nu
theorem Nums.tail {ts : List Tk} (h : Nums ts) : Nums ts.tail := fun t ht => h t (List.mem_of_mem_tail ht)
theorem Nums.of_cons {t : Tk} {ts : List Tk} (h : Nums (t :: ts)) : I64 t.nu ∧ Nums ts := ⟨h t (List.mem_cons_self ..), fun s hs => h s (List.mem_cons_of_mem _ hs)⟩
theorem cut_i64 {l : List UInt8} {t : Tk} {k : Nat} (h : cutL l = some (t, k)) : I64 t.nu := by
  cases l with
  | nil => cases h
  | cons a r =>
    rw [cutL_eq] at h
    split at h
    · injection h with h; injection h with h1 h2; rw [← h1]; exact i64z
    · split at h
      · split at h
        · rename_i m hm
          split at h
          · injection h with h; injection h with h1 h2; rw [← h1]; exact atoi_i64 hm
          · cases h
        · cases h
      · split at h
        · split at h
          · injection h with h; injection h with h1 h2; rw [← h1]; exact i64z
          · cases h
        · cases hs : signAt sgL (a :: r) with
          | none => rw [hs] at h; cases h
          | some x => rw [hs] at h; injection h with h; injection h with h1 h2; rw [← h1]; exact i64z
theorem scanL_num : ∀ (n : Nat) (l : List UInt8) (ts : List Tk), scanL n l = some ts → Nums ts
  | n, [], ts, h => by rw [scanL_nil] at h; injection h with h; subst h; exact fun t ht => by cases ht
  | 0, a :: r, ts, h => by cases h
  | n + 1, a :: r, ts, h => by
    rw [scanL_cons] at h
    cases hc : cutL (a :: r) with
    | none => rw [hc] at h; cases h
    | some p =>
      obtain ⟨t, k⟩ := p
      rw [hc] at h
      simp only at h
      cases hq : scanL n (Lib.trimLeftB ((a :: r).drop k) 32) with
      | none => rw [hq] at h; cases h
      | some us =>
        rw [hq] at h
        injection h with h
        subst h
        have ih := scanL_num n _ _ hq
        intro s hs
        rcases List.mem_cons.1 hs with hs | hs
        · subst hs; exact cut_i64 hc
        · exact ih s hs
def GoodF (f : List Tk → Option (Ex × List Tk)) : Prop := ∀ ts x r, Nums ts → f ts = some (x, r) → NumX x ∧ Nums r
theorem numLeaf {op cm kd nu : Int} {nm tx : ByteArray} (h : I64 nu) : NumX (.mk op cm kd nu nm tx []) := NumX.mk _ _ _ _ _ _ _ h (fun y hy => by cases hy)
theorem word_num {ts : List Tk} {s : ByteArray} {r : List Tk} (hn : Nums ts) (h : wordE ts = some (s, r)) : Nums r := by
  cases ts with
  | nil => cases h
  | cons t r' =>
    rw [wordE_cons] at h
    by_cases hc : t.kd = 1 ∧ keyB t.tx = false
    · rw [if_pos hc] at h; injection h with h; injection h with h1 h2; rw [← h2]; exact hn.of_cons.2
    · rw [if_neg hc] at h; cases h
theorem val_num (nm : ByteArray) (cm : Int) : GoodF (valE nm cm) := by
  intro ts x r hn h
  cases ts with
  | nil => cases h
  | cons t r' =>
    obtain ⟨n1, n2⟩ := hn.of_cons
    rw [valE_cons] at h
    by_cases h2 : t.kd = 2
    · rw [if_pos h2] at h; injection h with h; injection h with h1 h3; rw [← h1, ← h3]; exact ⟨numLeaf n1, n2⟩
    · rw [if_neg h2] at h
      by_cases h3 : t.kd = 3
      · rw [if_pos h3] at h; injection h with h; injection h with h1 h4; rw [← h1, ← h4]; exact ⟨numLeaf i64z, n2⟩
      · rw [if_neg h3] at h
        by_cases h1 : t.kd = 1
        · rw [if_pos h1] at h
          cases hu : unqO t.tx.data.toList with
          | none => rw [hu] at h; cases h
          | some u => rw [hu] at h; injection h with h; injection h with h4 h5; rw [← h4, ← h5]; exact ⟨numLeaf i64z, n2⟩
        · rw [if_neg h1] at h; cases h
theorem cmp_num (nm : ByteArray) : GoodF (cmpE nm) := by
  intro ts x r hn h
  cases ts with
  | nil => cases h
  | cons t r' =>
    rw [cmpE_cons] at h
    by_cases hc : t.kd = 4 ∧ cmpL t.tx.toList ≠ 0
    · rw [if_pos hc] at h
      exact val_num _ _ _ _ _ hn.of_cons.2 h
    · rw [if_neg hc] at h; cases h
theorem test_num : GoodF testE := by
  intro ts x r hn h
  unfold testE at h
  split at h
  · cases h
  · rename_i nm r' e
    exact cmp_num _ _ _ _ (word_num hn e) h
theorem has_num : GoodF hasE := by
  intro ts x r hn h
  unfold hasE at h
  split at h
  · cases h
  · rename_i nm r' e
    injection h with h; injection h with h1 h2
    rw [← h1, ← h2]
    exact ⟨numLeaf i64z, word_num hn e⟩
theorem more_num {f : List Tk → Option (Ex × List Tk)} (hf : GoodF f) (wd : ByteArray) : ∀ (k : Nat) (ts : List Tk) (l : List Ex) (r : List Tk), Nums ts → moreE f wd k ts = some (l, r) → (∀ x ∈ l, NumX x) ∧ Nums r
  | 0, ts, l, r, hn, h => by injection h with h; injection h with h1 h2; rw [← h1, ← h2]; exact ⟨(fun x hx => by cases hx), hn⟩
  | k + 1, ts, l, r, hn, h => by
    rw [moreE_succ] at h
    split at h
    · split at h
      · cases h
      · rename_i x r1 e
        have h1 := hf _ _ _ hn.tail e
        split at h
        · cases h
        · rename_i l1 r2 e2
          have h2 := more_num hf wd k r1 l1 r2 h1.2 e2
          injection h with h; injection h with h3 h4
          rw [← h3, ← h4]
          exact ⟨fun y hy => (List.mem_cons.1 hy).elim (fun e => by subst e; exact h1.1) (h2.1 y), h2.2⟩
    · injection h with h; injection h with h1 h2; rw [← h1, ← h2]; exact ⟨(fun x hx => by cases hx), hn⟩
theorem list_num {f : List Tk → Option (Ex × List Tk)} (hf : GoodF f) (op : Int) (wd : ByteArray) : GoodF (listE f op wd) := by
  intro ts x r hn h
  unfold listE at h
  split at h
  · cases h
  · rename_i x1 r1 e
    have h1 := hf _ _ _ hn e
    split at h
    · cases h
    · rename_i l r2 e2
      have h2 := more_num hf wd _ _ _ _ h1.2 e2
      have hall : ∀ y ∈ x1 :: l, NumX y := fun y hy => (List.mem_cons.1 hy).elim (fun e => by subst e; exact h1.1) (h2.1 y)
      unfold joinE at h
      split at h
      · rename_i z hz
        injection h with h; injection h with h3 h4
        rw [← h3, ← h4]
        exact ⟨hall z (by rw [hz]; exact List.mem_cons_self ..), h2.2⟩
      · injection h with h; injection h with h3 h4
        rw [← h3, ← h4]
        exact ⟨NumX.mk _ _ _ _ _ _ _ i64z hall, h2.2⟩
theorem fac_num : ∀ n, GoodF (facE n)
  | 0 => fun _ _ _ _ h => by cases h
  | n + 1 => fun ts x r hn h => by
    rw [facE_succ] at h
    split at h
    · unfold notE at h
      split at h
      · cases h
      · rename_i x1 r1 e
        have h1 := fac_num n _ _ _ hn.tail e
        injection h with h; injection h with h3 h4
        rw [← h3, ← h4]
        exact ⟨NumX.mk _ _ _ _ _ _ _ i64z (fun y hy => by rw [List.mem_singleton.1 hy]; exact h1.1), h1.2⟩
    · split at h
      · exact has_num _ _ _ hn.tail h
      · split at h
        · unfold parE at h
          split at h
          · cases h
          · rename_i x1 r1 e
            have h1 := list_num (list_num (fac_num n) 1 sAnd) 2 sOr _ _ _ hn.tail e
            split at h
            · injection h with h; injection h with h3 h4
              rw [← h3, ← h4]
              exact ⟨h1.1, h1.2.tail⟩
            · cases h
        · exact test_num _ _ _ hn h
theorem parse_num {l : List UInt8} {x : Ex} (h : parseE l = some x) : NumX x := by
  unfold parseE at h
  split at h
  · cases h
  · rename_i ts e
    have hn : Nums ts := scanL_num _ _ _ e
    unfold wholeE at h
    split at h
    · rename_i y e2
      injection h with h
      rw [← h]
      exact (list_num (list_num (fac_num _) 1 sAnd) 2 sOr _ _ _ hn e2).1
    · cases h
theorem kid_sz (op : Int) (y : Ex) : (kidT op y).size ≤ (fmtT y).size + 2 := by
  unfold kidT wrapS
  split
  · rw [ByteArray.size_append, ByteArray.size_append]; show 1 + _ + 1 ≤ _; omega
  · omega
theorem tail_sz (sep : List UInt8) (hs : sep.length ≤ 5) (op : Int) : ∀ (ls : List Ex), (∀ y ∈ ls, (fmtT y).size + 10 ≤ 330 * cntL [y]) → (Lib.joinTail sep ((ls.map (kidT op)).map (·.data.toList))).length ≤ 330 * cntL ls
  | [], _ => by show (0 : Nat) ≤ _; omega
  | y :: ls, h => by
    have h1 := h y (List.mem_cons_self ..)
    have h2 := tail_sz sep hs op ls (fun z hz => h z (List.mem_cons_of_mem _ hz))
    have h3 := kid_sz op y
    have e : Lib.joinTail sep (((y :: ls).map (kidT op)).map (·.data.toList)) = sep ++ (kidT op y).data.toList ++ Lib.joinTail sep ((ls.map (kidT op)).map (·.data.toList)) := rfl
    have e2 : (kidT op y).data.toList.length = (kidT op y).size := Array.length_toList
    rw [e, List.length_append, List.length_append, cntL_one]
    omega
theorem cnt_len (ls : List Ex) : ls.length ≤ cntL ls := by
  induction ls with
  | nil => exact Nat.zero_le _
  | cons y ls ih =>
    rw [cntL_one, List.length_cons]
    cases y
    rw [cntL_cons]; omega
theorem list_sz (sep : ByteArray) (hs : sep.size ≤ 5) (op : Int) (ls : List Ex) (h : ∀ y ∈ ls, (fmtT y).size + 10 ≤ 330 * cntL [y]) : (joinS sep (ls.map (kidT op))).size ≤ 330 * cntL ls := by
  rw [joinS_size]
  have hl : sep.data.toList.length ≤ 5 := by rw [show sep.data.toList.length = sep.size from Array.length_toList]; exact hs
  have hc := cnt_len ls
  cases ls with
  | nil => show (0 : Nat) ≤ _; omega
  | cons y ls =>
    have h1 := h y (List.mem_cons_self ..)
    have h2 := tail_sz sep.data.toList hl op ls (fun z hz => h z (List.mem_cons_of_mem _ hz))
    have h3 := kid_sz op y
    have h4 := cnt_len ls
    have e2 : (kidT op y).data.toList.length = (kidT op y).size := Array.length_toList
    have h5 := cnt_len [y]
    rw [List.map_cons, List.map_cons, Lib.join_cons, List.length_append, cntL_one]
    simp only [List.length_cons, List.length_nil] at h5
    omega
theorem fmt_szX : ∀ (n : Nat) (x : Ex), SizeOf.sizeOf x ≤ n → soundX x = true → NumX x → (fmtT x).size + 10 ≤ 330 * cntL [x]
  | 0, .mk _ _ _ _ _ _ _, h, _, _ => by simp at h
  | n + 1, .mk op cm kd nu nm tx ls, h, hs, hN => by
    rw [soundX_eq, Bool.and_eq_true] at hs
    obtain ⟨hl, hh⟩ := hs
    obtain ⟨hn, ihN⟩ : I64 nu ∧ ∀ y ∈ ls, NumX y := by cases hN with | mk _ _ _ _ _ _ _ a b => exact ⟨a, b⟩
    have hk : ∀ y ∈ ls, (fmtT y).size + 10 ≤ 330 * cntL [y] := fun y hy => by
      obtain ⟨k, hk, rfl⟩ := List.getElem_of_mem hy
      exact fmt_szX n _ (by have := size_at (op := op) (cm := cm) (kd := kd) (nu := nu) (nm := nm) (tx := tx) hk; omega) (soundL_all hl k hk) (ihN _ hy)
    have hc : cntL [.mk op cm kd nu nm tx ls] = 1 + cntL ls := by rw [cntL_cons, cntL_nil, Nat.add_zero]
    rw [hc, fmtT_eq]
    unfold fmtN
    split
    · rename_i h4
      have hm := nam_sz (head_nm hh (.inl h4))
      have hg := sgN_sz cm.toNat
      have hv : (if kd = 1 then numS nu else quoteS tx).size ≤ 258 := by
        split
        · have := numS_szX nu hn; omega
        · refine quoteS_szX tx ?_
          unfold headX at hh
          rw [if_neg (by omega), if_neg (by omega), if_pos h4] at hh
          simp only [Bool.and_eq_true] at hh
          have := hh.2
          unfold cmpsB at this
          rename_i hk1
          rw [if_neg hk1] at this
          split at this
          · simp only [Bool.and_eq_true, decide_eq_true_eq] at this
            exact this.1.2
          · cases this
      rw [ByteArray.size_append, ByteArray.size_append]
      omega
    · split
      · rename_i h5
        have hm := nam_sz (head_nm hh (.inr h5))
        rw [ByteArray.size_append]
        show 4 + nm.size + 10 ≤ _
        omega
      · split
        · rename_i h3
          have h1 : ls.length = 1 := by
            unfold headX at hh
            rw [if_neg (by omega), if_pos h3] at hh
            simp only [Bool.and_eq_true, decide_eq_true_eq] at hh
            exact hh.2
          obtain ⟨y, rfl⟩ := List.length_eq_one_iff.1 h1
          have hy := hk y (List.mem_singleton.2 rfl)
          have := kid_sz op y
          rw [ByteArray.size_append]
          show 4 + (kidT op y).size + 10 ≤ _
          omega
        · split
          · have := list_sz ⟨#[32, 97, 110, 100, 32]⟩ (by decide) op ls hk
            omega
          · have := list_sz ⟨#[32, 111, 114, 32]⟩ (by decide) op ls hk
            omega
/-- What Format needs to know of an expression. -/
theorem fmt_fit {x : Ex} (h : checkX x = 0) (hN : NumX x) : NumX x ∧ (fmtT x).size ≤ 1000000 := by
  have h1 := fmt_szX _ x (Nat.le_refl _) (check_sound38 h) hN
  have h2 := check_cnt h
  exact ⟨hN, by omega⟩
/-- What Format writes of an expression is read back, if it is not too long. -/
theorem back_c {x : Ex} (h : checkX x = 0) (hN : NumX x) (hs : (formE x).size ≤ 512) : parseC (formE x) = some x := by
  have e : formE x = fmtT x := if_pos h
  unfold parseC
  rw [e] at hs
  rw [e, if_pos hs, back_parse (check_sound38 h) hN]
  simp only
  rw [if_pos h]
theorem form_ne {x : Ex} (h : checkX x = 0) (hN : NumX x) : (formE x).toList.isEmpty = false := by
  have e : formE x = fmtT x := if_pos h
  rw [e, bs_tl]
  cases hl : (fmtT x).data.toList with
  | nil => exact absurd hl (back_nonempty (check_sound38 h) hN)
  | cons a r => rfl
theorem parseC_ok {s : ByteArray} {x : Ex} (h : parseC s = some x) : checkX x = 0 ∧ NumX x := by
  unfold parseC at h
  split at h
  · split at h
    · rename_i y e
      split at h
      · rename_i hc
        injection h with h
        rw [← h]
        exact ⟨hc, parse_num e⟩
      · cases h
    · cases h
  · cases h
end Go.Proofs.YtpldopoeopjcoaaGreatDoor
/- Same of the reference: expressions that are the same. -/
namespace Go.Proofs.YtpldopoeopjcoaaGreatDoor
open Go.RowKit
set_option maxRecDepth 100000 in
set_option maxHeartbeats 8000000 in
theorem vsameX : ∀ (N : Nat) (x : Ex), SizeOf.sizeOf x ≤ N → ∀ (m n : Xe) (w : World), ExV w w.heap.size x m → ExV w w.heap.size x n →
    Calls Tryz.prog 11 #[.agg (xC m), .agg (xC n)] w fun e w' => e = .returned (.bool true) ∧ Below w.heap.size w w'
  | 0, .mk _ _ _ _ _ _ _, hN => by simp at hN
  | N + 1, x, hN => fun m n w hx hy => by
    cases hx with
    | mk op cm kd nu nm tx ls A c ms hl hn hs hat ih =>
    cases hy with
    | mk _ _ _ _ _ _ _ B d ns hl2 hn2 hs2 hat2 ih2 =>
    have HX := Lib.hid (show ∀ W : World, Below w.heap.size w W → ∀ k (h1 : k < ls.length) (h2 : k < ms.length), ExV W W.heap.size (ls[k]) (ms[k]) from fun W hW k h1 h2 => ((ih k h1 h2).keep (fun i hi => hW.block i hi)).more hW.size)
    have HY := Lib.hid (show ∀ W : World, Below w.heap.size w W → ∀ k (h1 : k < ls.length) (h2 : k < ns.length), ExV W W.heap.size (ls[k]) (ns[k]) from fun W hW k h1 h2 => ((ih2 k h1 h2).keep (fun i hi => hW.block i hi)).more hW.size)
    have HAT := Lib.hid (show ∀ W : World, Below w.heap.size w W → AtE EX W w.heap.size A ms from fun W hW => hat.keep hW (Nat.le_refl _))
    have HBT := Lib.hid (show ∀ W : World, Below w.heap.size w W → AtE EX W w.heap.size B ns from fun W hW => hat2.keep hW (Nat.le_refl _))
    have HSZ := Lib.hid (show ∀ k (h1 : k < ls.length), SizeOf.sizeOf ls[k] ≤ N from fun k h1 => by have := size_at (op := op) (cm := cm) (kd := kd) (nu := nu) (nm := nm) (tx := tx) h1; omega)
    have HMS := Lib.hid hl
    have HNS := Lib.hid hl2
    clear hat ih hs hl hN hat2 ih2 hs2 hl2 hn2
    have X0 := Lib.hid ((Blk.new w (xC ⟨op, cm, kd, nu, nm, tx, A, ls.length, c⟩) 25).alloc (.cells (xC ⟨op, cm, kd, nu, nm, tx, B, ls.length, d⟩) 25))
    have Y0 := Lib.hid (show Blk ((w.alloc (.cells (xC ⟨op, cm, kd, nu, nm, tx, A, ls.length, c⟩) 25)).alloc (.cells (xC ⟨op, cm, kd, nu, nm, tx, B, ls.length, d⟩) 25)) (w.heap.size + 1) 25 (xC ⟨op, cm, kd, nu, nm, tx, B, ls.length, d⟩) by
      have := Blk.new (w.alloc (.cells (xC ⟨op, cm, kd, nu, nm, tx, A, ls.length, c⟩) 25)) (xC ⟨op, cm, kd, nu, nm, tx, B, ls.length, d⟩) 25
      simpa using this)
    have B0 := Lib.hid (show Below w.heap.size w ((w.alloc (.cells (xC ⟨op, cm, kd, nu, nm, tx, A, ls.length, c⟩) 25)).alloc (.cells (xC ⟨op, cm, kd, nu, nm, tx, B, ls.length, d⟩) 25)) from ((Below.refl w.heap.size w).alloc (Nat.le_refl _) _).alloc (by simp) _)
    obtain ⟨q0, q1, q2, q3, q4, q5, q6⟩ := xb_cells X0.out
    obtain ⟨r0, r1, r2, r3, r4, r5, r6⟩ := xb_cells Y0.out
    go_enter Tryz.func11, Tryz.ntmps11
    go_wp2_with fail
    go_loopw [58] (fun i wr => ∃ k : Nat, k ≤ ls.length ∧ i = .int .i64 k ∧ Below w.heap.size w wr ∧ Blk wr w.heap.size 25 (xC ⟨op, cm, kd, nu, nm, tx, A, ls.length, c⟩) ∧ Blk wr (w.heap.size + 1) 25 (xC ⟨op, cm, kd, nu, nm, tx, B, ls.length, d⟩)) (fun i _ => ls.length - (intOf i).toNat)
    case atStart => exact ⟨0, Nat.zero_le _, rfl, B0.out, X0.out, Y0.out⟩
    case round =>
      clear q0 q1 q2 q3 q4 q5 q6 r0 r1 r2 r3 r4 r5 r6
      obtain ⟨k, hk, rfl, hbw, hxb, hyb⟩ := hrel
      have HBW := Lib.hid hbw
      by_cases hlt : k < ls.length
      · have hlt1 : (k : Int) < (ls.length : Int) := by omega
        have hlt2 : (0 : Int) ≤ (k : Int) := by omega
        have hkm : k < ms.length := by rw [HMS.out]; exact hlt
        have hkn : k < ns.length := by rw [HNS.out]; exact hlt
        obtain ⟨ad, rfl, hab, hcx⟩ := HAT.out wr.drew (hbw.drew) k hkm
        obtain ⟨bd, rfl, hbb, hcy⟩ := HBT.out wr.drew (hbw.drew) k hkn
        obtain ⟨s0, s1, s2, s3, s4, s5, s6⟩ := x_cells (a := ad.add (k * 7)) hcx
        obtain ⟨t0, t1, t2, t3, t4, t5, t6⟩ := x_cells (a := bd.add (k * 7)) hcy
        have p6 := (xb_cells (hxb.below (Below.refl _ _).drew)).2.2.2.2.2.2
        have u6 := (xb_cells (hyb.below (Below.refl _ _).drew)).2.2.2.2.2.2
        have HXK := Lib.hid (fun (W : World) (h : Below w.heap.size w W) => HX.out W h k hlt hkm)
        have HYK := Lib.hid (fun (W : World) (h : Below w.heap.size w W) => HY.out W h k hlt hkn)
        have HZ := Lib.hid (HSZ.out k hlt)
        have HXB := Lib.hid hxb
        have HYB := Lib.hid hyb
        clear hcx hcy hbw hxb hyb
        generalize ls[k] = y at *
        generalize ms[k] = my at *
        generalize ns[k] = ny at *
        go_upto_region 6 with (fail)
        go_still_tail 10, (by kernel_rfl)
        go_wp2_with fail
        refine (vsameX N y HZ.out my ny _ (HXK.out _ HBW.out.drew) (HYK.out _ HBW.out.drew)).mono ?_
        rintro e w5 ⟨rfl, hb5⟩
        have HB5 := Lib.hid (below_then HBW.out.drew hb5)
        have HX5 := Lib.hid ((HXB.out.below (Below.refl _ _).drew).below hb5)
        have HY5 := Lib.hid ((HYB.out.below (Below.refl _ _).drew).below hb5)
        clear s0 s1 s2 s3 s4 s5 s6 t0 t1 t2 t3 t4 t5 t6 p6 u6 hb5
        go_wp2_with fail
        go_roundw
        case rel => exact ⟨k + 1, by omega, by go_num, HB5.out, HX5.out, HY5.out⟩
        case measure => simp [intOf]; omega
      · have hlt1 : ¬ (k : Int) < (ls.length : Int) := by omega
        go_wp2_with fail
        go_ret
        exact ⟨rfl, HBW.out⟩
end Go.Proofs.YtpldopoeopjcoaaGreatDoor
/- The sanity check of the laws about expressions. -/
namespace Go.Proofs.YtpldopoeopjcoaaGreatDoor
open Go.RowKit
/-- What the laws about expressions read of the variables. -/
structure XGlob (w : World) : Prop where
  env : Env w
  tys : RTys w
theorem XGlob.below {w w' : World} (h : XGlob w) (hb : Below w.heap.size w w') : XGlob w' := ⟨h.env.below hb, h.tys.below hb⟩
theorem bg_form : formE bgX = bgL := (if_pos bg_check).trans bg_text
def bgP1 : Pr := ⟨⟨#[97, 48]⟩, 1, 1, ⟨#[]⟩⟩
def bgP2 : Pr := ⟨⟨#[99]⟩, 2, 0, ⟨#[121]⟩⟩
abbrev bgRow : Array Value := #[.string ⟨#[97, 48]⟩, .int .i64 1, .int .i64 1, .string ⟨#[]⟩, .string ⟨#[99]⟩, .int .i64 2, .int .i64 0, .string ⟨#[121]⟩]
abbrev bgRec (A : Option Addr) : Array Value := #[.int .i64 1005, .int .i64 0, .int .i64 0, .slice A 2 2]
theorem bg_pairs_eq (A : Option Addr) (c : Nat) : pairsE ⟨#[]⟩ 0 0 0 false [⟨⟨1005, 0, 0, [bgP1, bgP2]⟩, A, c⟩] = bgPs := rfl
theorem bg_ok (A : Option Addr) (c : Nat) : XOk [⟨⟨1005, 0, 0, [bgP1, bgP2]⟩, A, c⟩] := ⟨by show 1 ≤ 3; omega, fun x hx => by
  rw [List.mem_singleton.1 hx]
  exact ⟨by show 2 ≤ 11; omega, show nmsOk [bgP1, bgP2] = true by decide +kernel⟩⟩
theorem exa_op {w : World} {S : Nat → Prop} {m : Xe} (h : ExA w S bgX m) : m.op = 1 ∧ m.n = 2 := by
  unfold bgX at h
  cases h
  exact ⟨rfl, rfl⟩
theorem lvXx (a : Addr) (w : World) : (loadVar 23 a).run Tryz.prog w = (load a).run Tryz.prog w := by
  unfold loadVar
  simp [go_sem]
attribute [-go_sem] loadVar
attribute [local go_sem] lv3x lv9x lvXx
attribute [local irreducible] parseC evalE formE pairsE bgX
set_option maxRecDepth 100000 in
set_option maxHeartbeats 8000000 in
theorem vbegun (w : World) (hG : XGlob w) :
    Calls Tryz.prog 12 #[] w fun e w' => e = .returned (.bool true) ∧ Below w.heap.size w w' := by
  have HG := Lib.hid (fun (W : World) (h : Below w.heap.size w W) => hG.below h)
  have HP := Lib.hid (vParse38 bgL (by unfold maxLen; decide) w hG.env)
  clear hG
  go_enter Tryz.func12, Tryz.ntmps12
  go_wp2_with fail
  refine HP.out.mono ?_
  intro e w1 hp
  rw [bg_parseC] at hp
  obtain ⟨m, rfl, hx, hb1⟩ := hp
  have XA := Lib.hid hx
  have B1 := Lib.hid (hb1.alloc hb1.size (.cells (xC m) 25))
  have X1 := Lib.hid (Blk.new w1 (xC m) 25)
  have XV := Lib.hid (show ∀ W : World, Below (w1.alloc (.cells (xC m) 25)).heap.size (w1.alloc (.cells (xC m) 25)) W → ExV W W.heap.size bgX m from fun W h => (((hx.v (B := w1.heap.size) (fun i hi => hi.2)).keep (fun i hi => ((Below.refl w1.heap.size w1).alloc (Nat.le_refl _) (.cells (xC m) 25)).block i hi)).more (by simp)).keep (fun i hi => h.block i hi) |>.more h.size)
  have HOP := Lib.hid (exa_op hx)
  clear hx hb1 HP XA
  go_wp2_with fail
  generalize w1.alloc (.cells (xC m) 25) = w2 at *
  refine (mnum _ _ _).mono ?_
  rintro e w3 ⟨rfl, hb3⟩
  have B3 := Lib.hid (B1.out.trans (hb3.mono B1.out.size))
  have X3 := Lib.hid (X1.out.below hb3)
  go_wp2_with fail
  refine (mstr _ _ _).mono ?_
  rintro e w4 ⟨rfl, hb4⟩
  have B4 := Lib.hid (B3.out.trans (hb4.mono B3.out.size))
  have X4 := Lib.hid (X3.out.below hb4)
  have B24 := Lib.hid (hb3.trans (hb4.mono hb3.size))
  clear hb3 hb4 B3 X3
  have hs5 : (w4.alloc (.cells bgRow 58)).heap.size = w4.heap.size + 1 := by simp
  have hs6 : ((w4.alloc (.cells bgRow 58)).alloc (.cells (bgRec (some ⟨w4.heap.size, 0, none⟩)) 63)).heap.size = w4.heap.size + 1 + 1 := by simp
  have O1 := OwnE.made EP w4 bgRow [bgP1, bgP2] rfl (base := 0) (Nat.zero_le _) (by show 2 ≤ 1000; omega) (n := 2) rfl
  have O2 := OwnE.made ER (w4.alloc (.cells bgRow 58)) (bgRec (some ⟨w4.heap.size, 0, none⟩)) [⟨⟨1005, 0, 0, [bgP1, bgP2]⟩, some ⟨w4.heap.size, 0, none⟩, 2⟩] rfl (base := 0) (Nat.zero_le _) (by show 1 ≤ 1000; omega) (n := 1) rfl
  rw [hs5] at O2
  have EV := Lib.hid (show EvAt (((w4.alloc (.cells bgRow 58)).alloc (.cells (bgRec (some ⟨w4.heap.size, 0, none⟩)) 63)).alloc (.cells (evC 0 0 0 (.slice (some ⟨w4.heap.size + 1, 0, none⟩) 1 1) false) 39)) (some ⟨w4.heap.size + 1, 0, none⟩) [⟨⟨1005, 0, 0, [bgP1, bgP2]⟩, some ⟨w4.heap.size, 0, none⟩, 2⟩] from
    ev_at (base := 0) (cp := 1) (O2.alloc _) (fun x hx => by
      rw [List.mem_singleton.1 hx]
      exact ⟨(O1.alloc _).alloc _, by show 2 ≤ 11; omega, show nmsOk [bgP1, bgP2] = true by decide +kernel⟩) (by show 1 ≤ 3; omega))
  have X7 := Lib.hid (((X4.out.alloc (.cells bgRow 58)).alloc (.cells (bgRec (some ⟨w4.heap.size, 0, none⟩)) 63)).alloc (.cells (evC 0 0 0 (.slice (some ⟨w4.heap.size + 1, 0, none⟩) 1 1) false) 39))
  have E7 := Lib.hid (show Blk (((w4.alloc (.cells bgRow 58)).alloc (.cells (bgRec (some ⟨w4.heap.size, 0, none⟩)) 63)).alloc (.cells (evC 0 0 0 (.slice (some ⟨w4.heap.size + 1, 0, none⟩) 1 1) false) 39)) (w4.heap.size + 1 + 1) 39 (evC 0 0 0 (.slice (some ⟨w4.heap.size + 1, 0, none⟩) 1 1) false) by
    have h := Blk.new ((w4.alloc (.cells bgRow 58)).alloc (.cells (bgRec (some ⟨w4.heap.size, 0, none⟩)) 63)) (evC 0 0 0 (.slice (some ⟨w4.heap.size + 1, 0, none⟩) 1 1) false) 39
    rw [hs6] at h
    exact h)
  have hb5 : Below w4.heap.size w4 (((w4.alloc (.cells bgRow 58)).alloc (.cells (bgRec (some ⟨w4.heap.size, 0, none⟩)) 63)).alloc (.cells (evC 0 0 0 (.slice (some ⟨w4.heap.size + 1, 0, none⟩) 1 1) false) 39)) := (((Below.refl w4.heap.size w4).alloc (Nat.le_refl _) _).alloc (by rw [hs5]; omega) _).alloc (by rw [hs6]; omega) _
  have B7 := Lib.hid (B4.out.trans (hb5.mono B4.out.size))
  have B27 := Lib.hid (B24.out.trans (hb5.mono B24.out.size))
  clear hb5 O1 O2 hs5 hs6 B4 B24 X4
  have q0 := (X7.out.cell 0).trans (show (xC m)[0]? = some (.int .i64 1) by rw [show (xC m)[0]? = some (.int .i64 m.op) from rfl, HOP.out.1])
  have q6 := (X7.out.cell 6).trans (show (xC m)[6]? = some (.slice m.A 2 m.c) by rw [show (xC m)[6]? = some (.slice m.A m.n m.c) from rfl, HOP.out.2])
  have l1 := ld_x X7.out
  have l3 := ld_e E7.out
  go_wp2_with fail
  generalize ((w4.alloc (.cells bgRow 58)).alloc (.cells (bgRec (some ⟨w4.heap.size, 0, none⟩)) 63)).alloc (.cells (evC 0 0 0 (.slice (some ⟨w4.heap.size + 1, 0, none⟩) 1 1) false) 39) = w7 at *
  refine (vEval bgX m ⟨#[]⟩ 0 0 0 (some ⟨w4.heap.size + 1, 0, none⟩) 1 1 false [⟨⟨1005, 0, 0, [bgP1, bgP2]⟩, some ⟨w4.heap.size, 0, none⟩, 2⟩] rfl w7 (XV.out _ B27.out) EV.out (HG.out _ B7.out).tys (HG.out _ B7.out).env.mx (pairs_ok _ _ _ _ _ _ (bg_ok _ _) (by decide))).mono ?_
  rw [bg_pairs_eq, bg_eval]
  rintro e w8 ⟨rfl, hb8⟩
  have X8 := Lib.hid (X7.out.below hb8)
  have B8 := Lib.hid (B7.out.trans (hb8.mono B7.out.size))
  have B28 := Lib.hid (B27.out.trans (hb8.mono B27.out.size))
  clear hb8 q0 q6 X7 E7 EV B7 B27
  clear l1 l3
  have l1 := ld_x X8.out
  go_wp2_with fail
  refine (vFormat38 bgX m _ (XV.out _ B28.out) (fun _ => ⟨bg_num, by rw [bg_text]; decide⟩) (HG.out _ B8.out).env).mono ?_
  rw [bg_form]
  rintro e w9 ⟨rfl, hb9⟩
  have hbq : (bgL.toList == [97, 48, 61, 49, 32, 97, 110, 100, 32, 110, 111, 116, 32, 40, 104, 97, 115, 32, 98, 32, 111, 114, 32, 99, 126, 34, 120, 34, 41]) = true := by decide +kernel
  go_wp2_with fail
  go_ret
  exact ⟨rfl, B8.out.trans (hb9.mono B8.out.size)⟩
end Go.Proofs.YtpldopoeopjcoaaGreatDoor
/- Names and leaves of the expressions that package kauditmill makes. -/
namespace Go.Proofs.YtpldopoeopjcoaaGreatDoor
open Go.RowKit
def milN : List ByteArray := [⟨#[117, 105, 100]⟩, ⟨#[99, 97, 108, 108]⟩, ⟨#[115, 117, 99, 99, 101, 115, 115]⟩, ⟨#[101, 120, 105, 116]⟩, ⟨#[104, 111, 115, 116]⟩, ⟨#[116, 121, 112, 101]⟩, ⟨#[115, 101, 114, 105, 97, 108]⟩, ⟨#[99, 111, 109, 112, 108, 101, 116, 101]⟩, ⟨#[110, 97, 109, 101]⟩, ⟨#[112, 105, 100]⟩, ⟨#[116, 105, 109, 101]⟩, ⟨#[110, 111, 116, 104, 105, 110, 103]⟩]
def milW : List ByteArray := [⟨#[97]⟩, ⟨#[110, 111]⟩, ⟨#[121, 101, 115]⟩, ⟨#[109, 107, 100, 105, 114]⟩, ⟨#[]⟩, ⟨#[97, 32, 98]⟩, ⟨#[83, 89, 83, 67, 65, 76, 76]⟩, ⟨#[107]⟩]
def milI : List Int := [0, 1, 2, 3, 7, -2, -9223372036854775808, 9223372036854775807]
theorem milN_ok : ∀ s ∈ milN, nam38 s = true ∧ s.size ≤ 16 := by decide +kernel
theorem milW_ok : ∀ s ∈ milW, s.size ≤ 128 := by decide +kernel
theorem milI_ok : ∀ n ∈ milI, I64 n := by
  intro n hn
  unfold milI at hn
  simp only [List.mem_cons, List.not_mem_nil, or_false] at hn
  rcases hn with rfl | rfl | rfl | rfl | rfl | rfl | rfl | rfl <;> exact ⟨by decide, by decide⟩
set_option maxHeartbeats 1000000 in
theorem ca_name (w : World) (base g : Nat) (h : CaOk w base g) : Calls Tryz.prog 18 #[.pointer (some ⟨g, 0, none⟩)] w (CWPost w base g milN) := by
  have H := Lib.hid h
  have hlt := ca_lt h
  have HG := Lib.hid (only_alloc (World.grownBy.refl w (some g)) (.cells #[.string ⟨#[117, 105, 100]⟩, .string ⟨#[99, 97, 108, 108]⟩, .string ⟨#[115, 117, 99, 99, 101, 115, 115]⟩, .string ⟨#[101, 120, 105, 116]⟩, .string ⟨#[104, 111, 115, 116]⟩, .string ⟨#[116, 121, 112, 101]⟩, .string ⟨#[115, 101, 114, 105, 97, 108]⟩, .string ⟨#[99, 111, 109, 112, 108, 101, 116, 101]⟩, .string ⟨#[110, 97, 109, 101]⟩, .string ⟨#[112, 105, 100]⟩, .string ⟨#[116, 105, 109, 101]⟩, .string ⟨#[110, 111, 116, 104, 105, 110, 103]⟩] 9))
  clear h
  go_enter Tryz.func18, Tryz.ntmps18
  go_wp2_with fail
  refine (ca_word _ base g w.heap.size 12 milN 9 (H.out.alloc _) (Blk.new w _ _) (by omega) rfl (by omega) (by omega)).mono ?_
  rintro e w1 ⟨y, rfl, hy, hs, hg⟩
  have HS := Lib.hid hs
  have HG1 := Lib.hid (only_trans HG.out hg)
  clear hs hg
  go_wp2_with fail
  go_ret
  exact ⟨y, rfl, hy, HS.out, HG1.out⟩
theorem leaf_num {d : Nat} {y n : Int} {nm : ByteArray} (hy : 0 ≤ y ∧ y < 6) (hn : n ∈ milI) (hm : nm ∈ milN) : GoodM d (.mk 4 (1 + y) 1 n nm ⟨#[]⟩ []) := by
  refine good_leaf d ?_ (milI_ok n hn)
  unfold headX cmpsB
  rw [if_neg (by decide), if_neg (by decide), if_pos rfl, (milN_ok nm hm).1, if_pos rfl, show (⟨#[]⟩ : ByteArray).toList.isEmpty = true by decide +kernel]
  simp only [decide_true, Bool.true_and, Bool.and_eq_true, decide_eq_true_eq]
  exact ⟨by omega, by omega⟩
theorem leaf_text {d : Nat} {cm : Int} {nm tx : ByteArray} (hc : cm ∈ [(1 : Int), 2, 7]) (ht : tx ∈ milW) (hm : nm ∈ milN) : GoodM d (.mk 4 cm 2 0 nm tx []) := by
  refine good_leaf d ?_ i64z
  have := milW_ok tx ht
  unfold headX cmpsB
  rw [if_neg (by decide), if_neg (by decide), if_pos rfl, (milN_ok nm hm).1, if_neg (by decide), if_pos rfl]
  simp only [List.mem_cons, List.not_mem_nil, or_false] at hc
  simp only [decide_true, Bool.true_and, Bool.and_eq_true, Bool.or_eq_true, decide_eq_true_eq]
  exact ⟨this, by omega⟩
theorem leaf_has {d : Nat} {nm : ByteArray} (hm : nm ∈ milN) : GoodM d (.mk 5 0 0 0 nm ⟨#[]⟩ []) := by
  refine good_leaf d ?_ i64z
  unfold headX
  rw [if_neg (by decide), if_neg (by decide), if_neg (by decide), if_pos rfl, (milN_ok nm hm).1, show (⟨#[]⟩ : ByteArray).toList.isEmpty = true by decide +kernel]
  rfl
/-- What the making of a leaf keeps: the result's block, the expression in block ge. -/
structure LS (w wr : World) (base g ge : Nat) (m : Xe) : Prop where
  res : Blk wr w.heap.size 25 xZ
  xb : Blk wr ge 25 (xC m)
  src : CaOk wr base g
  only : w.grownBy wr (some g)
  h2 : w.heap.size < ge
  h3 : g < w.heap.size
  h4 : base ≤ w.heap.size
section
variable {w wr w' : World} {base g ge : Nat} {m m' : Xe}
theorem LS.step (h : LS w wr base g ge m) (hs : CaOk w' base g) (hg : wr.grownBy w' (some g)) : LS w w' base g ge m := by
  have h1 := h.h2
  have h2 := h.h3
  exact ⟨Blk.grown h.res hg (fun e => by injection e with e; omega), Blk.grown h.xb hg (fun e => by injection e with e; omega), hs, only_trans h.only hg, h.h2, h.h3, h.h4⟩
theorem LS.alloc (h : LS w wr base g ge m) (o : Obj) : LS w (wr.alloc o) base g ge m :=
  ⟨h.res.alloc o, h.xb.alloc o, h.src.alloc o, only_alloc h.only o, h.h2, h.h3, h.h4⟩
theorem LS.set (h : LS w wr base g ge m) (j : Nat) (v : Value) (hm : (xC m).setIfInBounds j v = xC m') : LS w (wr.setCell ⟨ge, j, none⟩ v) base g ge m' := by
  have h1 := h.h2
  have h2 := h.h3
  have h3 := h.h4
  exact ⟨Blk.put_other h.res v (by show w.heap.size ≠ ge; omega), hm ▸ Blk.put h.xb j v, h.src.setCell (by show base ≤ ge; omega) (by show ge ≠ g; omega) _, only_setCell h.only (.inr (by show w.heap.size ≤ ge; omega)) _, h.h2, h.h3, h.h4⟩
theorem ca_row {w : World} {base g k : Nat} (h : CaOk w base g) (hk : base ≤ k) (hg : k ≠ g) (cs : Array Value) : CaOk (w.setRow k cs) base g :=
  h.keep (setRow_other _ _ _ _ (fun e => hg e.symm)) (fun i hi => setRow_other _ _ _ _ (by omega))
theorem LS.row (h : LS w wr base g ge m) (m' : Xe) : LS w (wr.setRow ge (xC m')) base g ge m' := by
  have h1 := h.h2
  have h2 := h.h3
  have h3 := h.h4
  exact ⟨Blk.row_other h.res _ (by omega), Blk.row h.xb _, ca_row h.src (by omega) (by omega) _, only_far h.only (row_only _ _ _) (fun k e => by injection e with e; omega), h.h2, h.h3, h.h4⟩
end
/-- What Expr makes. -/
def EPost (w : World) (base g d : Nat) (e : Ending) (w' : World) : Prop :=
  ∃ (x : Ex) (m : Xe), e = .returned (.agg (xC m)) ∧ ExA w' (Frs w w') x m ∧ GoodM d x ∧ CaOk w' base g ∧ w.grownBy w' (some g)
theorem LS.fin {w wr : World} {base g ge d : Nat} {m : Xe} (h : LS w wr base g ge m) (hA : m.A = none) (hn : m.n = 0) (hs : m.nm.size ≤ maxLen ∧ m.tx.size ≤ maxLen) (hg : GoodM d (.mk m.op m.cm m.kd m.nu m.nm m.tx [])) : EPost w base g d (.returned (.agg (xC m))) (wr.setRow w.heap.size (xC m)) := by
  have h2 := h.h3
  have h3 := h.h4
  obtain ⟨op, cm, kd, nu, nm, tx, A, n, c⟩ := m
  simp only at hA hn hs hg
  subst hA
  subst hn
  exact ⟨_, _, rfl, ExA.leaf _ _ op cm kd nu nm tx c hs, hg, ca_row h.src (by omega) (by omega) _, only_far h.only (row_only _ _ _) (fun k e => by injection e with e; omega)⟩
end Go.Proofs.YtpldopoeopjcoaaGreatDoor
