/- Texts of one proof, laid together. -/
import Derived.Test.YtbbihfafkpniiaaGreatDoorV01
import Derived.Test.YtbbihfafkpniiaaGreatDoorC13
import Derived.Test.YtbbihfafkpniiaaGreatDoorC05
/- What the reference's Parse of rules reads: plain facts. -/
namespace Go.Proofs.YtbbihfafkpniiaaGreatDoor
open Go.RowKit
/-- What read makes of a rule. -/
structure ReadR (r : Rul) (flag word : ByteArray) (r' : Rul) : Prop where
  a : flag = fA → ∀ r0, checkR r0 = 0 → word = headW r0 → r' = { r with ac := r0.ac, li := r0.li }
  s : flag = fS → ∀ m, m < 4294967296 → word = maskS m → r' = { r with ca := m }
  k : flag = fK → ∀ q : ByteArray, q.size ≤ 128 → word = quoteS q → r' = { r with ke := q }
  p : flag = fP → ∀ q : Int, 1 ≤ q → q ≤ 15 → word = permS q → r' = { r with pe := q }
  w : flag = fW → ∀ q : ByteArray, q.size ≤ 128 → word = quoteS q → r' = { r with li := 3, ac := 1, ca := allCalls, wa := 1, pa := q }
  t : flag = fT → ∀ q : ByteArray, q.size ≤ 128 → word = quoteS q → r' = { r with li := 3, ac := 1, ca := allCalls, wa := 2, pa := q }
  f : flag = fF ∨ flag = fC → ∀ p : Part, p.ok → p.txt = word → r' = r.put p
/-- How far a rule's text has been read. -/
def AtR (r0 : Rul) (i : Nat) (r : Rul) : Prop :=
  (i = 0 ∧ r = zeroR) ∨ (i = 2 ∧ r = { zeroR with ac := r0.ac, li := r0.li } ∧ callsB r0.li = true) ∨ PathAt r0 i r ∨ (i = (wordsR r0).length ∧ r = r0)
theorem AtR.step {r0 r r' : Rul} {i : Nat} {flag word : ByteArray} (h : AtR r0 i r) (hg : GoodR r0) (hf : (wordsR r0)[i]? = some flag) (hw : (wordsR r0)[i + 1]? = some word) (hr : ReadR r flag word r') : AtR r0 (i + 2) r' := by
  obtain ⟨q0, q1, q2⟩ := words_head hg.ok
  have hlt : i < (wordsR r0).length := (List.getElem?_eq_some_iff.1 hf).1
  rcases h with ⟨rfl, rfl⟩ | ⟨rfl, rfl, hc⟩ | h | ⟨h, _⟩
  · have e1 : flag = fA := (Option.some.inj (q0.symm.trans hf)).symm
    have e2 : word = headW r0 := (Option.some.inj (q1.symm.trans hw)).symm
    have e3 := hr.a e1 r0 hg.ok e2
    rcases q2 with ⟨hc, _⟩ | ⟨hc, ha, hca, _⟩
    · exact .inr (.inl ⟨rfl, e3, hc⟩)
    · refine .inr (.inr (.inl ?_))
      have := PathAt.start r0
      rw [ha] at this
      have e4 : baseR r0 = r' := by rw [e3]; unfold baseR; rw [hca]; rfl
      rw [e4] at this
      exact this
  · rcases q2 with ⟨_, ha, h2, h3, hca⟩ | ⟨hc2, _⟩
    · have e1 : flag = fS := (Option.some.inj (h2.symm.trans hf)).symm
      have e2 : word = maskS r0.ca := (Option.some.inj (h3.symm.trans hw)).symm
      have e3 := hr.s e1 r0.ca hca e2
      have := PathAt.start r0
      rw [ha] at this
      have e4 : baseR r0 = r' := by rw [e3]; rfl
      rw [e4] at this
      exact .inr (.inr (.inl this))
    · rw [hc] at hc2; cases hc2
  · by_cases hff : flag = fF ∨ flag = fC
    · exact .inr (.inr (.inl (h.step hg hf hff hw (hr.f hff))))
    · obtain ⟨e1, e2⟩ := h.stop hg.ok (fun f hf2 => by
        have : f = flag := Option.some.inj (hf2.symm.trans hf)
        subst this
        exact ⟨fun e => hff (.inl e), fun e => hff (.inr e)⟩)
      rcases key_end e1 hg.ok with ⟨k1, _⟩ | ⟨k1, k2, k3, k4⟩
      · omega
      · have e3 : flag = fK := (Option.some.inj (k2.symm.trans hf)).symm
        have e4 : word = quoteS r0.ke := (Option.some.inj (k3.symm.trans hw)).symm
        have e5 := hr.k e3 r0.ke (by omega) e4
        exact .inr (.inr (.inr ⟨k1.symm, by rw [e5, e2]⟩))
  · omega
theorem AtR.stop {r0 r : Rul} {i : Nat} (h : AtR r0 i r) (hok : checkR r0 = 0) (hi : i = (wordsR r0).length) : r = r0 := by
  obtain ⟨q0, q1, q2⟩ := words_head hok
  have h1 : 1 < (wordsR r0).length := (List.getElem?_eq_some_iff.1 q1).1
  rcases h with ⟨rfl, rfl⟩ | ⟨rfl, rfl, hc⟩ | h | ⟨_, h⟩
  · omega
  · rcases q2 with ⟨_, _, h2, h3, _⟩ | ⟨hc2, _⟩
    · have := (List.getElem?_eq_some_iff.1 h2).1; omega
    · rw [hc] at hc2; cases hc2
  · obtain ⟨e1, e2⟩ := h.stop hok (fun f hf => by
      have := (List.getElem?_eq_some_iff.1 hf).1; omega)
    rcases key_end e1 hok with ⟨k1, k2⟩ | ⟨k1, _⟩
    · rw [e2, ← k2]
    · omega
  · exact h
/-- How many words a rule's text has. -/
theorem words_even {r0 : Rul} (hok : checkR r0 = 0) : (wordsR r0).length % 2 = 0 ∧ (wordsR r0).length ≤ 28 := by
  have hl := words_len r0
  have hz := checkR_zero hok
  have hp : (partsR r0).length ≤ 10 := by
    have := hz.len
    unfold partsR watchP
    rw [List.length_append, List.length_map]
    split
    · simp; omega
    · split
      · simp; omega
      · simp; omega
  have hk : (keyW r0.ke).length = 0 ∨ (keyW r0.ke).length = 2 := by unfold keyW; split <;> simp
  obtain ⟨_, _, q2⟩ := words_head hok
  rcases q2 with ⟨_, ha, _⟩ | ⟨_, ha, _⟩ <;> rcases hk with hk | hk <;> omega
/-- How far a shorthand has been read. -/
def AtH (r0 : Rul) (i : Nat) (r : Rul) : Prop :=
  (i = 0 ∧ r = zeroR) ∨ (i = 2 ∧ r = { zeroR with li := 3, ac := 1, ca := allCalls, wa := r0.wa, pa := r0.pa }) ∨ (i = 4 ∧ r = { r0 with ke := ⟨#[]⟩ }) ∨ (i = (flagW r0.wa :: restW r0).length ∧ r = r0)
theorem AtH.step {r0 r r' : Rul} {i : Nat} {flag word : ByteArray} (h : AtH r0 i r) (hs : shortB r0 = true) (hf : (flagW r0.wa :: restW r0)[i]? = some flag) (hw : (flagW r0.wa :: restW r0)[i + 1]? = some word) (hr : ReadR r flag word r') : AtH r0 (i + 2) r' := by
  obtain ⟨x0, x1, x2, x3, x4⟩ := short_words hs (ws := flagW r0.wa :: restW r0) rfl
  obtain ⟨a1, a2, a3, a4, a5, a6⟩ := shortB_spec hs
  obtain ⟨f1, f2⟩ := flag_wa hs
  have hlt : i < (flagW r0.wa :: restW r0).length := (List.getElem?_eq_some_iff.1 hf).1
  rcases watch_ok (checkR_zero a1) with ⟨z, _⟩ | ⟨z1, _, _, z4, z5, z6⟩
  · exact absurd z a2
  rcases h with ⟨rfl, rfl⟩ | ⟨rfl, rfl⟩ | ⟨rfl, rfl⟩ | ⟨h, _⟩
  · have e1 : flag = flagW r0.wa := (Option.some.inj (x0.symm.trans hf)).symm
    have e2 : word = quoteS r0.pa := (Option.some.inj (x1.symm.trans hw)).symm
    refine .inr (.inl ⟨rfl, ?_⟩)
    by_cases ht : flagW r0.wa = fT
    · rw [hr.t (e1.trans ht) r0.pa z4 e2, f1 ht]
    · have hw1 : flagW r0.wa = fW := by unfold flagW at ht ⊢; split <;> simp_all
      rw [hr.w (e1.trans hw1) r0.pa z4 e2, f2 ht]
  · have e1 : flag = fP := (Option.some.inj (x2.symm.trans hf)).symm
    have e2 : word = permS r0.pe := (Option.some.inj (x3.symm.trans hw)).symm
    refine .inr (.inr (.inl ⟨rfl, ?_⟩))
    rw [hr.p e1 r0.pe z5 z6 e2]
    cases r0; simp at *; simp [*]; exact ⟨rfl, rfl⟩
  · rcases x4 with ⟨l1, _⟩ | ⟨l1, l2, l3, l4⟩
    · omega
    · have e1 : flag = fK := (Option.some.inj (l2.symm.trans hf)).symm
      have e2 : word = quoteS r0.ke := (Option.some.inj (l3.symm.trans hw)).symm
      refine .inr (.inr (.inr ⟨by omega, ?_⟩))
      rw [hr.k e1 r0.ke (by omega) e2]
  · omega
theorem AtH.stop {r0 r : Rul} {i : Nat} (h : AtH r0 i r) (hs : shortB r0 = true) (hi : i = (flagW r0.wa :: restW r0).length) : r = r0 := by
  obtain ⟨x0, x1, x2, x3, x4⟩ := short_words hs (ws := flagW r0.wa :: restW r0) rfl
  have h3 : 3 < (flagW r0.wa :: restW r0).length := (List.getElem?_eq_some_iff.1 x3).1
  rcases h with ⟨rfl, rfl⟩ | ⟨rfl, rfl⟩ | ⟨rfl, rfl⟩ | ⟨_, h⟩
  · omega
  · omega
  · rcases x4 with ⟨l1, l2⟩ | ⟨l1, _⟩
    · rw [← l2]
    · omega
  · exact h
theorem hand_even {r0 : Rul} : (flagW r0.wa :: restW r0).length % 2 = 0 ∧ (flagW r0.wa :: restW r0).length ≤ 28 := by
  unfold restW keyW
  split <;> simp
theorem quote_noperm (q : ByteArray) : Lib.hasPrefix (quoteS q).data.toList permW.data.toList = false := by
  unfold quoteS
  split
  · rfl
  · show Lib.hasPrefix (quoteL q.data.toList) permW.data.toList = false
    unfold quoteL
    split <;> rfl
section
variable {r r' : Rul} {flag word : ByteArray}
/-- None of the flags that say what they mean by themselves. -/
structure NoFl (flag : ByteArray) : Prop where
  a : flag ≠ fA
  s : flag ≠ fS
  k : flag ≠ fK
  p : flag ≠ fP
theorem ReadR.ofA (h : flag = fA) (hc : ∀ r0, checkR r0 = 0 → word = headW r0 → r' = { r with ac := r0.ac, li := r0.li }) : ReadR r flag word r' := by
  subst h
  exact ⟨fun _ => hc, fun e => absurd e (by decide), fun e => absurd e (by decide), fun e => absurd e (by decide), fun e => absurd e (by decide), fun e => absurd e (by decide), fun e => by rcases e with e | e <;> exact absurd e (by decide)⟩
theorem ReadR.ofS (h : flag = fS) (hc : ∀ m, m < 4294967296 → word = maskS m → r' = { r with ca := m }) : ReadR r flag word r' := by
  subst h
  exact ⟨fun e => absurd e (by decide), fun _ => hc, fun e => absurd e (by decide), fun e => absurd e (by decide), fun e => absurd e (by decide), fun e => absurd e (by decide), fun e => by rcases e with e | e <;> exact absurd e (by decide)⟩
theorem ReadR.ofK (h : flag = fK) : ReadR r flag word { r with ke := unqS word } := by
  subst h
  refine ⟨fun e => absurd e (by decide), fun e => absurd e (by decide), fun _ q hq e => ?_, fun e => absurd e (by decide), fun e => absurd e (by decide), fun e => absurd e (by decide), fun e => by rcases e with e | e <;> exact absurd e (by decide)⟩
  rw [e, (unq_quoteF (t := q) (by omega)).1]
theorem ReadR.ofP (h : flag = fP) {m : Int} (hc : ∀ q : Int, 1 ≤ q → q ≤ 15 → word = permS q → m = q) : ReadR r flag word { r with pe := m } := by
  subst h
  refine ⟨fun e => absurd e (by decide), fun e => absurd e (by decide), fun e => absurd e (by decide), fun _ q h1 h2 e => by rw [hc q h1 h2 e], fun e => absurd e (by decide), fun e => absurd e (by decide), fun e => by rcases e with e | e <;> exact absurd e (by decide)⟩
theorem ReadR.ofPerm (h : NoFl flag) (hp : Lib.hasPrefix word.data.toList permW.data.toList = true) {m : Int} (hc : ∀ q : Int, 1 ≤ q → q ≤ 15 → (⟨(Lib.trimPrefix word.data.toList permW.data.toList).toArray⟩ : ByteArray) = permS q → m = q) : ReadR r flag word { r with pe := m } := by
  refine ⟨fun e => absurd e h.a, fun e => absurd e h.s, fun e => absurd e h.k, fun e => absurd e h.p, fun _ q _ e => ?_, fun _ q _ e => ?_, fun _ p hp1 e => (put_perm hp (b := false) (b' := false) (fun q h1 h2 e => ⟨hc q h1 h2 e, rfl⟩) p hp1 e).1⟩
  · rw [e, quote_noperm] at hp; cases hp
  · rw [e, quote_noperm] at hp; cases hp
theorem ReadR.ofW (h : flag = fW) : ReadR r flag word { r with li := 3, ac := 1, ca := allCalls, wa := 1, pa := unqS word } := by
  subst h
  refine ⟨fun e => absurd e (by decide), fun e => absurd e (by decide), fun e => absurd e (by decide), fun e => absurd e (by decide), fun _ q hq e => ?_, fun e => absurd e (by decide), fun e => by rcases e with e | e <;> exact absurd e (by decide)⟩
  rw [e, (unq_quoteF (t := q) (by omega)).1]
theorem ReadR.ofT (h : flag = fT) : ReadR r flag word { r with li := 3, ac := 1, ca := allCalls, wa := 2, pa := unqS word } := by
  subst h
  refine ⟨fun e => absurd e (by decide), fun e => absurd e (by decide), fun e => absurd e (by decide), fun e => absurd e (by decide), fun e => absurd e (by decide), fun _ q hq e => ?_, fun e => by rcases e with e | e <;> exact absurd e (by decide)⟩
  rw [e, (unq_quoteF (t := q) (by omega)).1]
theorem ReadR.ofF (h : NoFl flag) (h1 : flag ≠ fW) (h2 : flag ≠ fT) (hc : ∀ p : Part, p.ok → p.txt = word → r' = r.put p) : ReadR r flag word r' :=
  ⟨fun e => absurd e h.a, fun e => absurd e h.s, fun e => absurd e h.k, fun e => absurd e h.p, fun e => absurd e h1, fun e => absurd e h2, fun _ => hc⟩
end
end Go.Proofs.YtbbihfafkpniiaaGreatDoor
/- The reference's reading of rules: perm, begins. -/
namespace Go.Proofs.YtbbihfafkpniiaaGreatDoor
open Go.RowKit
theorem permS_fin {m n : Int} (hm : 1 ≤ m ∧ m ≤ 15) (hn : 1 ≤ n ∧ n ≤ 15) (h : permS m = permS n) : m = n := permS_inj hm hn h
attribute [local irreducible] permS
set_option maxRecDepth 100000 in
set_option maxHeartbeats 1000000 in
theorem rperm (s : ByteArray) (w : World) : Calls Tryz.prog 98 #[.string s] w fun e w' => ∃ m : Int, e = .returned (.int .i64 m) ∧ 0 ≤ m ∧ m ≤ 15 ∧ (∀ q : Int, 1 ≤ q → q ≤ 15 → s = permS q → m = q) ∧ w = w' := by
  go_enter Tryz.func98, Tryz.ntmps98
  go_wp2_with fail
  go_loop [3] (fun i => ∃ k : Nat, k ≤ 15 ∧ i = .int .i64 ((k : Int) + 1) ∧ Hid (∀ q : Int, 1 ≤ q → q ≤ k → permS q ≠ s)) (fun i => 17 - (intOf i).toNat)
  case atStart => exact ⟨0, by omega, rfl, fun q h1 h2 => by omega⟩
  case round =>
    obtain ⟨k, hk, rfl, hno⟩ := hrel
    by_cases hlt : k < 15
    · have hk1 : (k : Int) + 1 ≤ 15 := by omega
      have HP := Lib.hid (fun W => rperms ((k : Int) + 1) (by omega) W)
      by_cases he : permS ((k : Int) + 1) = s
      · have t1 := str_eq he
        have HE := Lib.hid he
        clear he
        go_wp2_with fail
        refine (HP.out _).mono ?_
        rintro e w1 ⟨rfl, rfl⟩
        go_wp2_with fail
        go_ret
        exact ⟨(k : Int) + 1, rfl, by omega, by omega, fun q h1 h2 hq => permS_fin ⟨by omega, by omega⟩ ⟨h1, h2⟩ (HE.out.trans hq), rfl⟩
      · have t1 := str_ne he
        have HE := Lib.hid he
        clear he
        go_wp2_with fail
        refine (HP.out _).mono ?_
        rintro e w1 ⟨rfl, rfl⟩
        go_wp2_with fail
        go_round
        case rel => exact ⟨k + 1, by omega, by go_num, fun q h1 h2 => by
          by_cases hq : q = (k : Int) + 1
          · rw [hq]; exact HE.out
          · exact hno.out q h1 (by omega)⟩
        case measure => simp [intOf]; omega
    · obtain rfl : k = 15 := by omega
      go_wp2_with fail
      go_ret
      exact ⟨0, rfl, by omega, by omega, fun q h1 h2 hq => absurd hq.symm (hno.out q h1 (by omega)), rfl⟩
theorem pre_take {s p : ByteArray} (h : p.size ≤ s.size) : ((s.extract 0 p.size).toList == p.toList) = Lib.hasPrefix s.data.toList p.data.toList := by
  unfold Lib.hasPrefix
  rw [Bool.eq_iff_iff, beq_iff_eq, List.isPrefixOf_iff_prefix, ByteArray.toList_eq, ByteArray.toList_eq, ext0]
  constructor
  · intro e; rw [← e]; exact List.take_prefix _ _
  · intro e
    obtain ⟨t, ht⟩ := e
    rw [← ht, ← bsz', List.take_left]
theorem pre_short {s p : ByteArray} (h : ¬ p.size ≤ s.size) : Lib.hasPrefix s.data.toList p.data.toList = false := by
  rw [← Bool.not_eq_true]
  intro e
  obtain ⟨t, ht⟩ := List.isPrefixOf_iff_prefix.1 e
  have := congrArg List.length ht
  rw [List.length_append, bsz', bsz'] at this
  omega
attribute [local irreducible] Lib.hasPrefix
set_option maxRecDepth 100000 in
set_option maxHeartbeats 1000000 in
theorem rbegins (s p : ByteArray) (hs : s.size ≤ 100000) (w : World) : Calls Tryz.prog 97 #[.string s, .string p] w fun e w' => e = .returned (.bool (Lib.hasPrefix s.data.toList p.data.toList)) ∧ w = w' := by
  by_cases h : p.size ≤ s.size
  · have hI : (p.size : Int) ≤ (s.size : Int) := by omega
    have H := Lib.hid (pre_take h)
    clear h
    go_enter Tryz.func97, Tryz.ntmps97
    go_wp2_with fail
    go_ret
    refine ⟨?_, rfl⟩
    have := H.out
    simp only [this]
    rfl
  · have hI : ¬ (p.size : Int) ≤ (s.size : Int) := by omega
    have H := Lib.hid (pre_short h)
    clear h
    go_enter Tryz.func97, Tryz.ntmps97
    go_wp2_with fail
    go_ret
    exact ⟨by rw [H.out]; rfl, rfl⟩
/-- What read keeps: the rule's block, its tests. -/
structure QSt (w wr : World) (gr : Nat) (r : Rul) (tv : Value) : Prop where
  x : RulB wr gr r tv
  own : OwnT wr (gr + 1) tv r.ts
  low : Below gr w wr
section
variable {w wr w' : World} {gr : Nat} {r r' : Rul} {tv tv' : Value}
theorem QSt.below (h : QSt w wr gr r tv) (hb : Below wr.heap.size wr w') : QSt w w' gr r tv := ⟨Blk.below h.x hb, h.own.below hb, h.low.trans (hb.mono (Nat.le_of_lt h.x.lt))⟩
theorem QSt.drew (h : QSt w wr gr r tv) : QSt w wr.drew gr r tv := h.below (Below.refl _ _).drew
theorem QSt.drewN (h : QSt w wr gr r tv) (m : Nat) : QSt w (wr.drewN m) gr r tv := h.below (below_drewN (Below.refl _ _) m)
theorem QSt.alloc (h : QSt w wr gr r tv) (o : Obj) : QSt w (wr.alloc o) gr r tv := h.below ((Below.refl _ _).alloc (Nat.le_refl _) o)
theorem QSt.put (h : QSt w wr gr r tv) (i : Nat) (v : Value) (e : (rulC r tv).setIfInBounds i v = rulC r' tv) (ht : r'.ts = r.ts) : QSt w (wr.setCell ⟨gr, i, none⟩ v) gr r' tv := by
  have hx := Blk.put h.x i v
  rw [e] at hx
  exact ⟨hx, by rw [ht]; exact h.own.setCell (by show gr < gr + 1; omega) _, h.low.setCell (Nat.le_refl _) _⟩
theorem QSt.li (h : QSt w wr gr r tv) (v : Int) : QSt w (wr.setCell ⟨gr, 0, none⟩ (.int .i64 v)) gr { r with li := v } tv := h.put 0 _ rfl rfl
theorem QSt.ac (h : QSt w wr gr r tv) (v : Int) : QSt w (wr.setCell ⟨gr, 1, none⟩ (.int .i64 v)) gr { r with ac := v } tv := h.put 1 _ rfl rfl
theorem QSt.ca (h : QSt w wr gr r tv) (v : Nat) : QSt w (wr.setCell ⟨gr, 2, none⟩ (.int .u64 (v : Int))) gr { r with ca := v } tv := h.put 2 _ rfl rfl
theorem QSt.wa (h : QSt w wr gr r tv) (v : Int) : QSt w (wr.setCell ⟨gr, 4, none⟩ (.int .i64 v)) gr { r with wa := v } tv := h.put 4 _ rfl rfl
theorem QSt.pa (h : QSt w wr gr r tv) (v : ByteArray) : QSt w (wr.setCell ⟨gr, 5, none⟩ (.string v)) gr { r with pa := v } tv := h.put 5 _ rfl rfl
theorem QSt.pe (h : QSt w wr gr r tv) (v : Int) : QSt w (wr.setCell ⟨gr, 6, none⟩ (.int .i64 v)) gr { r with pe := v } tv := h.put 6 _ rfl rfl
theorem QSt.ke (h : QSt w wr gr r tv) (v : ByteArray) : QSt w (wr.setCell ⟨gr, 7, none⟩ (.string v)) gr { r with ke := v } tv := h.put 7 _ rfl rfl
theorem QSt.app (h : QSt w wr gr r tv) (t : Tst) {v' : Value} (hg : wr.grownBy w' tv.ownBlock) (ho : OwnT w' (gr + 1) v' (r.ts ++ [t])) :
    RulB w' gr r tv ∧ QSt w (w'.setCell ⟨gr, 3, none⟩ v') gr { r with ts := r.ts ++ [t] } v' := by
  have hge := h.own.ge
  have hr : ∀ k, tv.ownBlock = some k → gr < k := fun k hk => by have := hge k hk; omega
  have cb : RulB w' gr r tv := Blk.grown h.x hg (fun e => by have := hr _ e; omega)
  have hbl : Below gr wr w' := ⟨hg.os, hg.tape, hg.output, hg.size, fun i hi => hg.block i (by have := h.x.lt; omega) (fun e => by have := hr _ e.symm; omega)⟩
  exact ⟨cb, Blk.put cb 3 v', ho.setCell (by show gr < gr + 1; omega) _, (h.low.trans hbl).setCell (Nat.le_refl _) _⟩
theorem QSt.then (h : QSt w wr gr r tv) (q : QSt wr w' gr r' tv') : QSt w w' gr r' tv' := ⟨q.x, q.own, h.low.trans q.low⟩
theorem QSt.form (h : QSt w wr gr r tv) : ∃ T tc, tv = .slice T r.ts.length tc ∧ TestsAt wr wr.heap.size T r.ts := by
  obtain ⟨T, tc, e, ht⟩ := h.own.tests
  exact ⟨T, tc, e, ht⟩
theorem QSt.at (h : QSt w wr gr r tv) : QSt wr wr gr r tv := ⟨h.x, h.own, Below.refl _ _⟩
end
/-- What read leaves. -/
def RReadPost (gr : Nat) (r : Rul) (flag word : ByteArray) (w : World) (e : Ending) (w' : World) : Prop :=
  ∃ (r' : Rul) (tv' : Value), e = .returned (.tuple #[]) ∧ QSt w w' gr r' tv' ∧ (∀ m, RdR r m → RdR r' (m + 1)) ∧ ReadR r flag word r'
end Go.Proofs.YtbbihfafkpniiaaGreatDoor
/- Unquote of the reference, where the text is written in hexadecimal digits; all cases together. -/
namespace Go.Proofs.YtbbihfafkpniiaaGreatDoor
open Go.RowKit
/-- What is left to be read behind the letter x, behind what has been read. -/
def Left2 (s : ByteArray) (i : Nat) (acc : List UInt8) : Prop := unhexL s.data.toList.tail = (unhexL (s.data.toList.drop i)).map (acc ++ ·)
theorem Left2.start (s : ByteArray) : Left2 s 1 [] := by unfold Left2; rw [List.drop_one]; simp
theorem Left2.step {s : ByteArray} {i : Nat} {acc : List UInt8} (h : Left2 s i acc) (h0 : i < s.size) (hj : i + 1 < s.size) (ha : 0 ≤ unhexd s[i]) (hb : 0 ≤ unhexd s[i + 1]) : Left2 s (i + 2) (acc ++ [pairc s[i] s[i + 1]]) := by
  unfold Left2 at *
  rw [h, drop_two s i h0 hj, unhexL, if_neg (by omega)]
  cases unhexL (s.data.toList.drop (i + 2)) <;> simp
theorem Left2.stop {s : ByteArray} {i : Nat} {acc : List UInt8} (h : Left2 s i acc) (h0 : i < s.size) (hj : i + 1 < s.size) (ha : unhexd s[i] < 0 ∨ unhexd s[i + 1] < 0) : unhexL s.data.toList.tail = none := by
  unfold Left2 at h
  rw [h, drop_two s i h0 hj, unhexL, if_pos ha]; rfl
theorem Left2.done {s : ByteArray} {i : Nat} {acc : List UInt8} (h : Left2 s i acc) (hj : s.size ≤ i) : unhexL s.data.toList.tail = some acc := by
  unfold Left2 at h
  rw [h, List.drop_eq_nil_of_le (by simpa using hj)]; simp [unhexL]
theorem app_one (T : ByteArray) (c : UInt8) : (T ++ ⟨#[c]⟩).data.toList = T.data.toList ++ [c] := by simp
set_option maxRecDepth 100000 in
set_option maxHeartbeats 2000000 in
theorem runq_R2 (s : ByteArray) (w : World) (h3 : 3 ≤ s.size) (h5 : s.size ≤ 1281) (h34 : ((s[0].toNat : Int) == 34) = false) (h120 : ((s[0].toNat : Int) == 120) = true) (ho : s.size % 2 = 1) : RUnq s w := by
  have h4 : ((s.size : Int) % 2 == 1) = true := by simp; omega
  have hp : 0 < s.size := by omega
  have d1 : decide (2 ≤ (s.size : Int)) = true := by simp; omega
  have d2 : decide (3 ≤ (s.size : Int)) = true := by simp; omega
  have d3 : decide ((s.size : Int) ≤ 1281) = true := by simp; omega
  have HO := Lib.hid ho
  have HN := Lib.hid (fun (u : List UInt8) (hu : Quotes s.data.toList u) => (quotes_B (by omega) h34 hu).2.2.2.2)
  clear ho
  go_enter Tryz.func96, Tryz.ntmps96
  go_wp2_with fail
  go_loopw [4, 5] (fun v x wr => ∃ (i : Nat) (T : ByteArray), i ≤ s.size ∧ x = .int .i64 (i : Int) ∧ v = .string T ∧ T.size ≤ 1000 ∧ Below w.heap.size w wr ∧ Hid (Left2 s i T.data.toList ∧ 1 + 2 * T.size = i)) (fun _ i _ => s.size - (intOf i).toNat)
  case atStart => exact ⟨1, ⟨#[]⟩, by omega, rfl, rfl, by decide, Below.refl _ _, Left2.start s, rfl⟩
  case round =>
    obtain ⟨i, T, hj, rfl, rfl, hT, hb, hleft⟩ := hrel
    by_cases hlt : i < s.size
    · have hlt1 : i + 1 < s.size := by have := HO.out; have := hleft.out.2; omega
      have a1 : (0 : Int) ≤ (i : Int) := by omega
      have a2 : (i : Int) < (s.size : Int) := by omega
      have a3 : (0 : Int) ≤ (i : Int) + 1 := by omega
      have a4 : (i : Int) + 1 < (s.size : Int) := by omega
      have b1 := unhexd_bounds s[i]
      have b2 := unhexd_bounds s[i + 1]
      have a5 : IntKind.i64.wrap ((i : Int) + 1) = (i : Int) + 1 := IntWalk.i64_in _ (by omega)
      have a6 : ((i : Int) + 1).toNat = i + 1 := by omega
      go_wp2_with fail
      go_quiet ((go_at_call 120; exact Calls.quiet_of_same (rdigit _ _)))
      clear a5
      by_cases n1 : unhexd s[i] < 0
      · have H := Lib.hid (unqO_none fun u hu => by have := HN.out u hu; rw [hleft.out.1.stop hlt hlt1 (.inl n1)] at this; cases this)
        go_wp2_with fail
        go_ret2
        exact ⟨tup (unqS_none H.out).symm (unqE_none H.out).symm, below_drewN hb _⟩
      · by_cases n2 : unhexd s[i + 1] < 0
        · have H := Lib.hid (unqO_none fun u hu => by have := HN.out u hu; rw [hleft.out.1.stop hlt hlt1 (.inr n2)] at this; cases this)
          go_wp2_with fail
          go_ret2
          exact ⟨tup (unqS_none H.out).symm (unqE_none H.out).symm, below_drewN hb _⟩
        · have m1 : 0 ≤ unhexd s[i] := by omega
          have m2 : 0 ≤ unhexd s[i + 1] := by omega
          have m3 : unhexd s[i] < 16 := b1.2
          have m4 : unhexd s[i + 1] < 16 := b2.2
          have H := Lib.hid (hleft.out.1.step hlt hlt1 m1 m2)
          clear b1 b2 n1 n2
          have m5 := (pairc_val _ _ m1 m2).symm
          have hcv : (convert 48 9 (.slice (some ⟨wr.heap.size, 0, none⟩) 1 1)).run Tryz.prog ((wr.drewN nq).alloc (.cells #[bv (pairc s[i] s[i + 1])] 5)) = .ok (.string ⟨#[pairc s[i] s[i + 1]]⟩) ((wr.drewN nq).alloc (.cells #[bv (pairc s[i] s[i + 1])] 5)) :=
            run_convert_bytes_back _ 48 9 5 ⟨wr.heap.size, 0, none⟩ 1 [pairc s[i] s[i + 1]] Tryz.underlying48 Tryz.underlying5 Tryz.underlying9 (fun j hj => by
              have : j = 0 := by simpa using hj
              subst this
              exact cell_one_new _ _ _ 0 _ rfl)
          go_wp2_with fail
          refine ⟨⟨i + 2, T ++ ⟨#[pairc s[i] s[i + 1]]⟩, by omega, by go_num, rfl, ?_, (below_drewN hb nq).alloc hb.size _, ?_, ?_⟩, by simp [intOf]; omega⟩
          · have := hleft.out.2; rw [ByteArray.size_append]; show T.size + 1 ≤ 1000; omega
          · rw [app_one]; exact H.out
          · have := hleft.out.2; rw [ByteArray.size_append]; show 1 + 2 * (T.size + 1) = i + 2; omega
    · have HD := Lib.hid (hleft.out.1.done (by omega))
      by_cases hok : quoteE T = 0 ∧ quoteS T = s
      · have H := Lib.hid (unq_yes hok)
        obtain ⟨k1, k2⟩ := hok
        have K1 := Lib.hid k1
        have K2 := Lib.hid k2
        clear k1 k2
        go_wp2_with fail
        refine (rquote _ _ (by unfold maxLen; omega)).mono ?_
        rintro e w' ⟨rfl, hb'⟩
        rw [K1.out, K2.out]
        go_wp2_with fail
        go_ret2
        exact ⟨tup (by rw [unqS_some H.out]) (unqE_some H.out).symm, hb.trans (hb'.mono hb.size)⟩
      · have H := Lib.hid (unqO_none fun u hu => by
          have := HN.out u hu
          rw [HD.out] at this
          injection this with this
          exact hok ((quotes_iff s T).2 (by rw [this]; exact hu)))
        have hE : quoteE T = 0 := quoteE_zero.2 (by have := hleft.out.2; omega)
        have k3 := str_ne (fun e => hok ⟨hE, e⟩)
        have K1 := Lib.hid hE
        clear hok hE
        go_wp2_with fail
        refine (rquote _ _ (by unfold maxLen; omega)).mono ?_
        rintro e w' ⟨rfl, hb'⟩
        rw [K1.out]
        go_wp2_with fail
        go_ret2
        exact ⟨tup (unqS_none H.out).symm (unqE_none H.out).symm, hb.trans (hb'.mono hb.size)⟩
theorem runquote (s : ByteArray) (w : World) (hs : s.size ≤ 1000000) : RUnq s w := by
  by_cases h0 : 1 ≤ s.size
  · cases h34 : ((s[0].toNat : Int) == 34)
    · have hne : (⟨#[34, 34]⟩ : ByteArray) ≠ s := fun e => by subst e; cases h34
      by_cases h : ((s[0].toNat : Int) == 120) = true ∧ 3 ≤ s.size ∧ s.size % 2 = 1 ∧ s.size ≤ 1281
      · exact runq_R2 s w h.2.1 h.2.2.2 h34 h.1 h.2.2.1
      · have H : unqO s.data.toList = none := unqO_none fun u hu => by
          have := quotes_B h0 h34 hu
          exact h ⟨this.1, this.2.1, this.2.2.1, this.2.2.2.1⟩
        refine runq_R3 s w hs hne H ?_
        by_cases k1 : s.size < 2
        · exact .inl k1
        · refine .inr ⟨h0, h34, ?_⟩
          by_cases k2 : s.size = 2
          · exact .inl k2
          · cases k3 : ((s[0].toNat : Int) == 120)
            · exact .inr (.inl ⟨by omega, rfl⟩)
            · refine .inr (.inr ⟨by omega, rfl, ?_⟩)
              by_cases k4 : s.size % 2 = 0
              · exact .inl k4
              · exact .inr ⟨by omega, by
                  rcases Nat.lt_or_ge 1281 s.size with k | k
                  · exact k
                  · exact absurd ⟨k3, by omega, by omega, k⟩ h⟩
    · by_cases k : 2 ≤ s.size
      · by_cases hok : quoteE (s.extract 1 (s.size - 1)) = 0 ∧ quoteS (s.extract 1 (s.size - 1)) = s
        · exact runq_A1 s w hs k h34 hok
        · rcases quoteE_cases (s.extract 1 (s.size - 1)) with k1 | k1
          · exact runq_A2 s w hs k h34 k1 (fun e => hok ⟨k1, e⟩)
          · exact runq_A3 s w hs k h34 k1
      · have hne : (⟨#[34, 34]⟩ : ByteArray) ≠ s := fun e => by subst e; exact k (by decide)
        refine runq_R3 s w hs hne (unqO_none fun u hu => ?_) (.inl (by omega))
        have h1 := hu.1
        have hl : s.data.toList.length = s.size := Array.length_toList
        rw [← h1] at hl
        unfold quoteL at hl
        cases hs : safeB u <;> simp only [hs] at hl
        · have hne : u ≠ [] := fun e => by subst e; cases hs
          have hpos : 0 < u.length := List.length_pos_iff.2 hne
          simp only [Bool.false_eq_true, if_false, List.length_cons, hexL_length] at hl
          omega
        · simp only [if_true, List.length_cons, List.length_append, List.length_nil] at hl
          omega
  · have hz : s.data.toList = [] := List.eq_nil_of_length_eq_zero (Array.length_toList.trans (by show s.size = 0; omega))
    have hne : (⟨#[34, 34]⟩ : ByteArray) ≠ s := fun e => by subst e; exact h0 (by decide)
    exact runq_R3 s w hs hne (by rw [hz]; rfl) (.inl (by omega))
end Go.Proofs.YtbbihfafkpniiaaGreatDoor
