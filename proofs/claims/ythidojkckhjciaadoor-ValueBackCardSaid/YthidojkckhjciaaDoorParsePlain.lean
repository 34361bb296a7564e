/- Reading a pair: plain facts. -/
import Derived.Test.YthidojkckhjciaaDoorRRead
import Derived.Lib.AtoiAllCases
import Derived.Lib.IndexLaws
import Derived.Lib.IndexBytes
import Derived.Lib.IndexMore
namespace Go.Proofs.YthidojkckhjciaaDoor
open Go.RowKit
def I64 (n : Int) : Prop := -9223372036854775808 ≤ n ∧ n ≤ 9223372036854775807
def emptyS : ByteArray := ⟨#[]⟩
/-- The pair that Format writes as s, with 0; or the zero pair with 21. -/
def PIs (s nm : ByteArray) (kd nu : Int) (tx : ByteArray) (er : Int) : Prop :=
  (er = 0 ∧ checkE nm kd nu tx = 0 ∧ fmtS nm kd nu tx = s ∧ I64 nu) ∨
  (er = 21 ∧ nm = ⟨#[]⟩ ∧ kd = 0 ∧ nu = 0 ∧ tx = ⟨#[]⟩ ∧ ∀ nm' kd' nu' tx', I64 nu' → checkE nm' kd' nu' tx' = 0 → fmtS nm' kd' nu' tx' ≠ s)
theorem PIs.unique {s nm nm' : ByteArray} {kd nu er kd' nu' er' : Int} {tx tx' : ByteArray} (h : PIs s nm kd nu tx er) (h' : PIs s nm' kd' nu' tx' er') : nm = nm' ∧ kd = kd' ∧ nu = nu' ∧ tx = tx' ∧ er = er' := by
  rcases h with ⟨rfl, a1, a2, a3⟩ | ⟨rfl, rfl, rfl, rfl, rfl, a⟩
  · rcases h' with ⟨rfl, b1, b2, b3⟩ | ⟨rfl, rfl, rfl, rfl, rfl, b⟩
    · obtain ⟨r1, r2, r3, r4⟩ := fmt_inj a1 b1 (a2.trans b2.symm)
      exact ⟨r1, r2, r3, r4, rfl⟩
    · exact absurd a2 (b _ _ _ _ a3 a1)
  · rcases h' with ⟨rfl, b1, b2, b3⟩ | ⟨rfl, rfl, rfl, rfl, rfl, b⟩
    · exact absurd b2 (a _ _ _ _ b3 b1)
    · exact ⟨rfl, rfl, rfl, rfl, rfl⟩
theorem PIs.range {s nm : ByteArray} {kd nu er : Int} {tx : ByteArray} (h : PIs s nm kd nu tx er) : I64 nu ∧ I64 kd ∧ (er = 0 ∨ er = 21) ∧ nm.size ≤ 16 ∧ tx.size ≤ 640 := by
  rcases h with ⟨rfl, a1, a2, a3⟩ | ⟨rfl, rfl, rfl, rfl, rfl, a⟩
  · obtain ⟨b1, b2, b3⟩ := checkE_zero a1
    exact ⟨a3, by unfold I64; omega, .inl rfl, (name_size b1).1, b3⟩
  · exact ⟨by unfold I64; omega, by unfold I64; omega, .inr rfl, by decide, by decide⟩
/-- The fields of a pair fit its kind. -/
def KOk (kd nu : Int) (tx : ByteArray) : Prop := ¬ (kd < 1 ∨ 3 < kd ∨ (kd ≠ 1 ∧ nu ≠ 0) ∨ (kd ≠ 2 ∧ tx.size ≠ 0))
/-- s is cut at its first sign of equality. -/
def CutAt (s nm text : ByteArray) : Prop := s.data.toList = nm.data.toList ++ 61 :: text.data.toList ∧ ∀ c ∈ nm.data.toList, c ≠ 61
theorem cut_fmt {s nm text : ByteArray} (hc : CutAt s nm text) {nm' : ByteArray} {kd nu : Int} {tx : ByteArray} (h : checkE nm' kd nu tx = 0) (e : fmtS nm' kd nu tx = s) : nm' = nm ∧ textS kd nu tx = text := by
  have h1 := fmtS_list h
  rw [e, hc.1] at h1
  obtain ⟨b1, b2, b3⟩ := checkE_zero h
  obtain ⟨e1, e2⟩ := split_eq hc.2 (name_no_eq b1) h1
  exact ⟨bytes_ext e1.symm, bytes_ext (by rw [textS_list kd nu tx b3, e2])⟩
theorem fmt_cut {s nm text : ByteArray} (hc : CutAt s nm text) {kd nu : Int} {tx : ByteArray} (h : checkE nm kd nu tx = 0) (e : textS kd nu tx = text) : fmtS nm kd nu tx = s := by
  obtain ⟨b1, b2, b3⟩ := checkE_zero h
  apply bytes_ext
  rw [fmtS_list h, hc.1, ← textS_list kd nu tx b3, e]
theorem PIs.yes {s nm text : ByteArray} (hc : CutAt s nm text) {kd nu : Int} {tx : ByteArray} (hn : I64 nu) (h : checkE nm kd nu tx = 0) (e : textS kd nu tx = text) : PIs s nm kd nu tx 0 :=
  .inl ⟨rfl, h, fmt_cut hc h e, hn⟩
theorem PIs.no {s nm text : ByteArray} (hc : CutAt s nm text) (h : ∀ kd nu tx, I64 nu → checkE nm kd nu tx = 0 → textS kd nu tx ≠ text) : PIs s ⟨#[]⟩ 0 0 ⟨#[]⟩ 21 :=
  .inr ⟨rfl, rfl, rfl, rfl, rfl, fun nm' kd' nu' tx' hn h' e => by
    obtain ⟨e1, e2⟩ := cut_fmt hc h' e
    subst e1
    exact h _ _ _ hn h' e2⟩
theorem PIs.noeq {s : ByteArray} (h : ∀ c ∈ s.data.toList, c ≠ 61) : PIs s ⟨#[]⟩ 0 0 ⟨#[]⟩ 21 :=
  .inr ⟨rfl, rfl, rfl, rfl, rfl, fun nm' kd' nu' tx' _ h' e => by
    have h1 := fmtS_list h'
    rw [e] at h1
    exact h 61 (by rw [h1]; simp) rfl⟩
theorem KOk.of {nm : ByteArray} {kd nu : Int} {tx : ByteArray} (h : checkE nm kd nu tx = 0) : KOk kd nu tx ∧ tx.size ≤ 640 := ⟨(checkE_zero h).2.1, (checkE_zero h).2.2⟩
/-- A candidate whose fields fit its kind and whose text is right, but which Check refuses: then there is none. -/
theorem PIs.bad {s nm text : ByteArray} (hc : CutAt s nm text) {kd nu : Int} {tx : ByteArray} (hk : KOk kd nu tx) (hz : tx.size ≤ 640) (h : checkE nm kd nu tx ≠ 0) (e : textS kd nu tx = text) : PIs s ⟨#[]⟩ 0 0 ⟨#[]⟩ 21 :=
  PIs.no hc fun kd' nu' tx' _ h' e' => by
    obtain ⟨k1, k2⟩ := KOk.of h'
    have ht : textL kd nu tx = textL kd' nu' tx' := by rw [← textS_list kd nu tx hz, ← textS_list kd' nu' tx' k2, e, e']
    obtain ⟨r1, r2, r3⟩ := textL_inj hk k1 hz k2 ht
    subst r1 r2 r3
    exact h h'
theorem empty_size : (⟨#[]⟩ : ByteArray).size = 0 := rfl
theorem kok_one (n : Int) : KOk 1 n ⟨#[]⟩ := by unfold KOk; rw [empty_size]; omega
theorem kok_two (t : ByteArray) : KOk 2 0 t := by unfold KOk; omega
theorem kok_three : KOk 3 0 ⟨#[]⟩ := by unfold KOk; rw [empty_size]; omega
/-- What a text can be: a number, a text between signs, or null. -/
theorem text_cases {kd nu : Int} {tx text : ByteArray} (hk : KOk kd nu tx) (hz : tx.size ≤ 640) (e : textS kd nu tx = text) :
    (kd = 1 ∧ numS nu = text) ∨ (kd = 2 ∧ unqE text = 0 ∧ unqS text = tx) ∨ (kd = 3 ∧ text = ⟨#[40, 110, 117, 108, 108, 41]⟩) := by
  unfold KOk at hk
  have hc : kd = 1 ∨ kd = 2 ∨ kd = 3 := by omega
  rcases hc with rfl | rfl | rfl
  · exact .inl ⟨rfl, e⟩
  · have e' : quoteS tx = text := e
    obtain ⟨u1, u2⟩ := unq_quote tx hz
    rw [e'] at u1 u2
    exact .inr (.inl ⟨rfl, u2, u1⟩)
  · exact .inr (.inr ⟨rfl, e.symm⟩)
theorem unq_text {text : ByteArray} (h : unqE text = 0) : quoteS (unqS text) = text ∧ (unqS text).size ≤ 640 := by
  cases hu : unqO text.data.toList with
  | none => rw [unqE_none hu] at h; cases h
  | some t =>
    have hq := of_unqO hu
    have hs := unqS_some hu
    have hl : (unqS text).data.toList = t := by rw [hs]
    have hz : (unqS text).size ≤ 640 := by
      have : (unqS text).size = t.length := by rw [← hl, Array.length_toList]; rfl
      rw [this]; exact hq.2
    exact ⟨bytes_ext (by rw [quoteS_list _ hz, hl]; exact hq.1), hz⟩
theorem unqE_cases (text : ByteArray) : unqE text = 0 ∨ unqE text = 21 := by
  unfold unqE; split
  · exact .inl rfl
  · exact .inr rfl
theorem parse_dig : ∀ (l : List UInt8) (acc : Nat), l.all digB = true → l.foldl (fun v c => 10 * v + (c.toNat - 48)) acc < 18446744073709551616 → Lib.parseUint10 acc l = .ok (l.foldl (fun v c => 10 * v + (c.toNat - 48)) acc)
  | [], acc, _, _ => rfl
  | c :: r, acc, hd, hv => by
    simp only [List.all_cons, Bool.and_eq_true] at hd
    have hc := hd.1
    unfold digB at hc
    simp at hc
    have mono : ∀ (r : List UInt8) (a : Nat), a ≤ r.foldl (fun v c => 10 * v + (c.toNat - 48)) a := by
      intro r
      induction r with
      | nil => intro a; exact Nat.le_refl _
      | cons x r ih => intro a; rw [List.foldl_cons]; exact Nat.le_trans (by omega) (ih _)
    have hm := mono r (10 * acc + (c.toNat - 48))
    rw [List.foldl_cons] at hv ⊢
    unfold Lib.parseUint10
    rw [if_pos hc, if_neg (by omega), if_neg (by omega), show acc * 10 + (c.toNat - 48) = 10 * acc + (c.toNat - 48) by omega]
    exact parse_dig r _ hd.2 hv
theorem atoi_itoa (m : Int) (h : I64 m) : Lib.atoiAll (Lib.itoa m) = .ok m := by
  unfold I64 at h
  unfold Lib.itoa
  split
  · rename_i hneg
    obtain ⟨p1, p2, p3⟩ := dec_props m.natAbs
    have hp : Lib.parseMag (Lib.decDigits m.natAbs) = .ok m.natAbs := by
      unfold Lib.parseMag
      rw [if_neg p3, parse_dig _ 0 p2 (by show valD _ < _; rw [p1]; omega)]
      exact congrArg _ p1
    unfold Lib.atoiAll
    simp only [show ((45 : UInt8).toNat = 45) from rfl, or_true, if_true, hp]
    simp
    rw [if_neg (by omega)]
    congr 1
    omega
  · rename_i hneg
    obtain ⟨p1, p2, p3⟩ := dec_props m.toNat
    obtain ⟨c', r', e, q1, q2⟩ := dec_head m.toNat
    have hp : Lib.parseMag (Lib.decDigits m.toNat) = .ok m.toNat := by
      unfold Lib.parseMag
      rw [if_neg p3, parse_dig _ 0 p2 (by show valD _ < _; rw [p1]; omega)]
      exact congrArg _ p1
    rw [e] at hp ⊢
    unfold Lib.atoiAll
    have n43 : (c'.toNat = 43) = False := by simp; omega
    have n45 : (c'.toNat = 45) = False := by simp; omega
    have hnn : (m.toNat : Int) = m := Int.toNat_of_nonneg (by omega)
    have hlt : ¬ (9223372036854775808 ≤ m.toNat) := by omega
    simp only [n43, n45, or_self, hp, hlt, and_false, false_and, if_false, not_false_eq_true, true_and, hnn]
theorem atoi_num {text : ByteArray} {m : Int} (h : I64 m) (e : numS m = text) : Lib.atoiAll text.data.toList = .ok m := by
  rw [← e, numS_list]; exact atoi_itoa m h
/-- The cut at the first sign of equality. -/
theorem cut_cases (s : ByteArray) : ((Lib.cut s.data.toList [61]).2.2 = false ∧ ∀ c ∈ s.data.toList, c ≠ 61) ∨
    ((Lib.cut s.data.toList [61]).2.2 = true ∧ CutAt s ⟨(Lib.cut s.data.toList [61]).1.toArray⟩ ⟨(Lib.cut s.data.toList [61]).2.1.toArray⟩) := by
  have hi := Lib.index_one s.data.toList 61
  have hge := Lib.index_ge s.data.toList [61]
  by_cases h : Lib.index s.data.toList [61] = -1
  · left
    have e : Lib.cut s.data.toList [61] = (s.data.toList, [], false) := by unfold Lib.cut; rw [h, if_neg (by omega)]
    refine ⟨by rw [e], fun c hc hc61 => ?_⟩
    obtain ⟨k, hk, hkc⟩ := List.getElem_of_mem hc
    exact Lib.indexByte_none (hi.symm.trans h) k (by rw [List.getElem?_eq_getElem hk, hkc, hc61])
  · right
    obtain ⟨i, hi'⟩ := Int.eq_ofNat_of_zero_le (show 0 ≤ Lib.index s.data.toList [61] by omega)
    have e : Lib.cut s.data.toList [61] = (s.data.toList.take i, s.data.toList.drop (i + 1), true) := by
      unfold Lib.cut; rw [hi', if_pos (by omega)]; simp
    obtain ⟨h1, h2⟩ := Lib.indexByte_some (o := i) (hi.symm.trans hi')
    refine ⟨by rw [e], ?_, ?_⟩
    · rw [e]
      have hlt : i < s.data.toList.length := (List.getElem?_eq_some_iff.1 h1).1
      have hg : s.data.toList[i] = 61 := (List.getElem?_eq_some_iff.1 h1).2
      show s.data.toList = s.data.toList.take i ++ 61 :: s.data.toList.drop (i + 1)
      rw [← hg, ← List.drop_eq_getElem_cons hlt, List.take_append_drop]
    · rw [e]
      intro c hc hc61
      have hc' : c ∈ s.data.toList.take i := hc
      obtain ⟨k, hk, hkc⟩ := List.getElem_of_mem hc'
      rw [List.length_take] at hk
      rw [List.getElem_take] at hkc
      exact h2 k (by omega) (by rw [List.getElem?_eq_getElem (by omega), hkc, hc61])
theorem cutat_size {s nm text : ByteArray} (h : CutAt s nm text) : nm.size + 1 + text.size = s.size := by
  have := congrArg List.length h.1
  rw [List.length_append, List.length_cons, Array.length_toList, Array.length_toList, Array.length_toList] at this
  show nm.data.size + 1 + text.data.size = s.data.size
  omega
/-- A candidate, by the way Parse has gone. -/
theorem none_quoted {s nm text : ByteArray} (hc : CutAt s nm text) (hq : unqE text ≠ 0) (hn : ∀ m, I64 m → numS m ≠ text) (h0 : text ≠ ⟨#[40, 110, 117, 108, 108, 41]⟩) : PIs s ⟨#[]⟩ 0 0 ⟨#[]⟩ 21 :=
  PIs.no hc fun kd nu tx hi h e => by
    obtain ⟨k1, k2⟩ := KOk.of h
    rcases text_cases k1 k2 e with ⟨_, h1⟩ | ⟨_, h1, _⟩ | ⟨_, h1⟩
    · exact hn nu hi h1
    · exact hq h1
    · exact h0 h1
theorem numS_head (m : Int) : ∃ c r, (numS m).data.toList = c :: r ∧ (c.toNat = 45 ∨ (48 ≤ c.toNat ∧ c.toNat ≤ 57)) := by rw [numS_list]; exact itoa_head m
theorem unq_head {text : ByteArray} (h : unqE text = 0) : ∃ c r, text.data.toList = c :: r ∧ (c.toNat = 34 ∨ c.toNat = 120) := by
  obtain ⟨h1, h2⟩ := unq_text h
  rw [← h1, quoteS_list _ h2]
  exact quoteL_head _
end Go.Proofs.YthidojkckhjciaaDoor
