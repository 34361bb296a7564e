/- Texts of one proof, laid together. -/
import Derived.Test.YtollifnnpihfdaaGreatDoorC05
import Derived.Test.YtollifnnpihfdaaGreatDoorC07
import Derived.Maps.AppendAt
import Derived.IntWalk
import Derived.Lib.AtoiAllCases
/- The text of a test: two tests that some list permits are equal exactly if their texts are: plain facts. -/
namespace Go.Proofs.YtollifnnpihfdaaGreatDoor
theorem quoteS_injF {a b : ByteArray} (ha : a.size ≤ 640) (hb : b.size ≤ 640) (h : quoteS a = quoteS b) : a = b := by
  have ea : (quoteS a).data.toList = quoteL a.data.toList := by unfold quoteS; rw [if_neg (by omega)]
  have eb : (quoteS b).data.toList = quoteL b.data.toList := by unfold quoteS; rw [if_neg (by omega)]
  have h1 : Quotes (quoteL b.data.toList) a.data.toList := ⟨by rw [← ea, h, eb], by rw [Array.length_toList]; exact ha⟩
  have h2 : Quotes (quoteL b.data.toList) b.data.toList := ⟨rfl, by rw [Array.length_toList]; exact hb⟩
  exact bytes_ext (h1.unique h2)
theorem numS_injF {m n : Int} (h : numS m = numS n) : m = n := by
  apply itoa_inj
  have := congrArg (fun s : ByteArray => s.data.toList) h
  simpa [numS] using this
/-- The error of a test for the rules of the exit, or 0 if it is one of the exclusion. -/
def anyE (fd op nu : Int) (tx : ByteArray) (ot : Int) : Int := if checkF fd op nu tx ot 3 ≠ 0 ∧ checkF fd op nu tx ot 5 = 0 then 0 else checkF fd op nu tx ot 3
theorem anyE_zero {fd op nu : Int} {tx : ByteArray} {ot : Int} (h : anyE fd op nu tx ot = 0) : ∃ l, checkF fd op nu tx ot l = 0 := by
  unfold anyE at h
  split at h
  · rename_i h1; exact ⟨5, h1.2⟩
  · exact ⟨3, h⟩
/-- What a test compares its field with. -/
def valS (fd nu : Int) (tx : ByteArray) (ot : Int) : ByteArray := if ot ≠ 0 then fieldN ot.toNat else if textB fd = true then quoteS tx else numS nu
def testS (fd op nu : Int) (tx : ByteArray) (ot : Int) : ByteArray := if anyE fd op nu tx ot = 0 then fieldN fd.toNat ++ opN op.toNat ++ valS fd nu tx ot else ⟨#[]⟩
/-- A byte of an operator. -/
def opc (c : UInt8) : Bool := c == 61 || c == 33 || c == 60 || c == 62 || c == 38
theorem field_noop : ∀ k : Fin 23, (fieldN k).data.toList.all (fun c => !opc c) = true := by decide +kernel
theorem field_head : ∀ k : Fin 22, (fieldN (k.val + 1)).data.toList.head?.map (fun c => decide (97 ≤ c.toNat) && decide (c.toNat ≤ 122)) = some true := by decide +kernel
theorem op_all : ∀ k : Fin 9, (opN k).data.toList.all opc = true := by decide +kernel
theorem op_ne : ∀ k : Fin 8, (opN (k.val + 1)).data.toList ≠ [] := by decide +kernel
theorem field_inj : ∀ i j : Fin 22, (fieldN (i.val + 1)).data.toList = (fieldN (j.val + 1)).data.toList → i = j := by decide +kernel
theorem op_inj : ∀ i j : Fin 9, (opN i).data.toList = (opN j).data.toList → i = j := by decide +kernel
theorem quoteL_headF (l : List UInt8) : ∃ c r, quoteL l = c :: r ∧ (c.toNat = 34 ∨ c.toNat = 120) := by
  unfold quoteL; split
  · exact ⟨34, _, rfl, .inl rfl⟩
  · exact ⟨120, _, rfl, .inr rfl⟩
theorem fieldInt_head {f : Int} (h : 1 ≤ f ∧ f ≤ 22) : ∃ c r, (fieldN f.toNat).data.toList = c :: r ∧ 97 ≤ c.toNat ∧ c.toNat ≤ 122 := by
  have H := field_head ⟨f.toNat - 1, by omega⟩
  have e : f.toNat - 1 + 1 = f.toNat := by omega
  simp only [e] at H
  cases hl : (fieldN f.toNat).data.toList with
  | nil => rw [hl] at H; simp at H
  | cons c r => rw [hl] at H; simp at H; exact ⟨c, r, rfl, H.1, H.2⟩
theorem fieldInt_inj {f g : Int} (h : 1 ≤ f ∧ f ≤ 22) (k : 1 ≤ g ∧ g ≤ 22) (e : fieldN f.toNat = fieldN g.toNat) : f = g := by
  have := field_inj ⟨f.toNat - 1, by omega⟩ ⟨g.toNat - 1, by omega⟩ (by
    have e1 : f.toNat - 1 + 1 = f.toNat := by omega
    have e2 : g.toNat - 1 + 1 = g.toNat := by omega
    simp only [e1, e2, e])
  have := congrArg Fin.val this
  simp at this
  omega
theorem opInt_inj {f g : Int} (h : 1 ≤ f ∧ f ≤ 8) (k : 1 ≤ g ∧ g ≤ 8) (e : opN f.toNat = opN g.toNat) : f = g := by
  have := op_inj ⟨f.toNat, by omega⟩ ⟨g.toNat, by omega⟩ (by show (opN f.toNat).data.toList = _; rw [e])
  have := congrArg Fin.val this
  simp at this
  omega
/-- The value's first byte is none of an operator's. -/
theorem valS_head {fd op nu : Int} {tx : ByteArray} {ot l : Int} (h : checkF fd op nu tx ot l = 0) : ∃ c r, (valS fd nu tx ot).data.toList = c :: r ∧ opc c = false := by
  obtain ⟨h1, h2, h3, h4, h5, h6, h7⟩ := checkF_zero h
  have hopc : ∀ c : UInt8, (97 ≤ c.toNat ∨ c.toNat = 34 ∨ c.toNat = 45 ∨ (48 ≤ c.toNat ∧ c.toNat ≤ 57)) → opc c = false := fun c hc => by
    unfold opc
    have : ∀ n : Nat, n < 256 → c = UInt8.ofNat n → c.toNat = n := fun n hn e => by rw [e]; simp; omega
    cases h61 : c == 61 <;> cases h33 : c == 33 <;> cases h60 : c == 60 <;> cases h62 : c == 62 <;> cases h38 : c == 38 <;> first | rfl | (simp at *; subst_vars; simp at hc)
  unfold valS
  by_cases hot : ot = 0
  · rw [if_neg (by simpa using hot)]
    by_cases ht : textB fd = true
    · rw [if_pos ht]
      have hsz : tx.size ≤ 640 := by rcases h6 with h | h; rw [ht] at h; cases h; exact h.2.2
      obtain ⟨c, r, e, hc⟩ := quoteL_headF tx.data.toList
      have ea : (quoteS tx).data.toList = quoteL tx.data.toList := by unfold quoteS; rw [if_neg (by omega)]
      exact ⟨c, r, by rw [ea, e], hopc c (by omega)⟩
    · rw [if_neg ht]
      obtain ⟨c, r, e, hc⟩ := itoa_head nu
      exact ⟨c, r, by unfold numS; simpa using e, hopc c (by omega)⟩
  · rw [if_pos hot]
    have ha : allowB l ot = true := by rcases h2 with h | h; exact absurd h hot; exact h.1
    obtain ⟨c, r, e, c1, c2⟩ := fieldInt_head (allow_range ha)
    exact ⟨c, r, e, hopc c (by omega)⟩
theorem parts_unique {p q : UInt8 → Bool} {A B C A' B' C' : List UInt8} (hpq : ∀ c, p c = !q c) (hA : A.all p = true) (hA' : A'.all p = true) (hB : B.all q = true) (hB' : B'.all q = true) (nB : B ≠ []) (nB' : B' ≠ []) (hC : ∃ c r, C = c :: r ∧ q c = false) (hC' : ∃ c r, C' = c :: r ∧ q c = false) (e : A ++ B ++ C = A' ++ B' ++ C') : A = A' ∧ B = B' ∧ C = C' := by
  have tw : ∀ (A B C : List UInt8), A.all p = true → B.all q = true → B ≠ [] → (A ++ B ++ C).takeWhile p = A ∧ (A ++ B ++ C).dropWhile p = B ++ C := by
    intro A B C hA hB nB
    induction A with
    | nil =>
      cases B with
      | nil => exact absurd rfl nB
      | cons b B =>
        have hb : q b = true := by simp at hB; exact hB.1
        have : p b = false := by rw [hpq, hb]; rfl
        simp [this]
    | cons a A ih =>
      simp only [List.all_cons, Bool.and_eq_true] at hA
      obtain ⟨i1, i2⟩ := ih hA.2
      simp only [List.cons_append, List.takeWhile_cons, List.dropWhile_cons, hA.1, if_true]
      exact ⟨by rw [i1], i2⟩
  have tw2 : ∀ (B C : List UInt8), B.all q = true → (∃ c r, C = c :: r ∧ q c = false) → (B ++ C).takeWhile q = B ∧ (B ++ C).dropWhile q = C := by
    intro B C hB hC
    induction B with
    | nil => obtain ⟨c, r, rfl, hc⟩ := hC; simp [hc]
    | cons b B ih =>
      simp only [List.all_cons, Bool.and_eq_true] at hB
      obtain ⟨i1, i2⟩ := ih hB.2
      simp only [List.cons_append, List.takeWhile_cons, List.dropWhile_cons, hB.1, if_true]
      exact ⟨by rw [i1], i2⟩
  obtain ⟨x1, x2⟩ := tw A B C hA hB nB
  obtain ⟨y1, y2⟩ := tw A' B' C' hA' hB' nB'
  rw [e] at x1 x2
  have eA : A = A' := x1.symm.trans y1
  have eBC : B ++ C = B' ++ C' := x2.symm.trans y2
  obtain ⟨u1, u2⟩ := tw2 B C hB hC
  obtain ⟨v1, v2⟩ := tw2 B' C' hB' hC'
  rw [eBC] at u1 u2
  exact ⟨eA, u1.symm.trans v1, u2.symm.trans v2⟩
theorem test_inj {fd op nu fd' op' nu' : Int} {tx tx' : ByteArray} {ot ot' : Int} (h : anyE fd op nu tx ot = 0) (h' : anyE fd' op' nu' tx' ot' = 0) (e : testS fd op nu tx ot = testS fd' op' nu' tx' ot') : fd = fd' ∧ op = op' ∧ nu = nu' ∧ tx = tx' ∧ ot = ot' := by
  unfold testS at e
  rw [if_pos h, if_pos h'] at e
  obtain ⟨l, hl⟩ := anyE_zero h
  obtain ⟨l', hl'⟩ := anyE_zero h'
  have v := valS_head hl
  have v' := valS_head hl'
  obtain ⟨h1, h2, h3, h4, h5, h6, h7⟩ := checkF_zero hl
  obtain ⟨k1, k2, k3, k4, k5, k6, k7⟩ := checkF_zero hl'
  have r1 := allow_range h1
  have r2 := allow_range k1
  have e1 := congrArg (fun s : ByteArray => s.data.toList) e
  simp only [ByteArray.data_append, Array.toList_append] at e1
  have nb : ∀ {o : Int}, 1 ≤ o ∧ o ≤ 8 → (opN o.toNat).data.toList ≠ [] := fun {o} ho => by
    have H := op_ne ⟨o.toNat - 1, by omega⟩
    have e : o.toNat - 1 + 1 = o.toNat := by omega
    simpa only [e] using H
  obtain ⟨eA, eB, eC⟩ := parts_unique (p := fun c => !opc c) (q := opc) (fun _ => rfl) (field_noop ⟨fd.toNat, by omega⟩) (field_noop ⟨fd'.toNat, by omega⟩) (op_all ⟨op.toNat, by omega⟩) (op_all ⟨op'.toNat, by omega⟩) (nb h3) (nb k3) v v' e1
  have efd : fd = fd' := fieldInt_inj r1 r2 (bytes_ext eA)
  have eop : op = op' := opInt_inj h3 k3 (bytes_ext eB)
  subst efd eop
  have eV : valS fd nu tx ot = valS fd nu' tx' ot' := bytes_ext eC
  have empty : ∀ {s : ByteArray}, s.size = 0 → s = ⟨#[]⟩ := fun {s} hs => bytes_ext (by
    have : s.data.toList.length = 0 := by rw [Array.length_toList]; exact hs
    rw [List.eq_nil_of_length_eq_zero this])
  refine ⟨rfl, rfl, ?_⟩
  cases ht : textB fd
  · have z1 : tx = ⟨#[]⟩ := empty (by rcases h7 with h | h; rw [ht] at h; cases h; exact h)
    have z2 : tx' = ⟨#[]⟩ := empty (by rcases k7 with h | h; rw [ht] at h; cases h; exact h)
    unfold valS at eV
    rw [if_neg (show ¬ textB fd = true by rw [ht]; decide), if_neg (show ¬ textB fd = true by rw [ht]; decide)] at eV
    by_cases o1 : ot = 0
    · by_cases o2 : ot' = 0
      · rw [if_neg (by simpa using o1), if_neg (by simpa using o2)] at eV
        exact ⟨numS_injF eV, by rw [z1, z2], by rw [o1, o2]⟩
      · rw [if_neg (by simpa using o1), if_pos o2] at eV
        have ha : allowB l' ot' = true := by rcases k2 with h | h; exact absurd h o2; exact h.1
        obtain ⟨c, r, e2, c1, c2⟩ := fieldInt_head (allow_range ha)
        obtain ⟨d, r', e3, d1⟩ := itoa_head nu
        have e4 : (numS nu).data.toList = d :: r' := by unfold numS; simpa using e3
        rw [eV, e2] at e4
        injection e4 with e4 _
        subst e4; omega
    · by_cases o2 : ot' = 0
      · rw [if_pos o1, if_neg (by simpa using o2)] at eV
        have ha : allowB l ot = true := by rcases h2 with h | h; exact absurd h o1; exact h.1
        obtain ⟨c, r, e2, c1, c2⟩ := fieldInt_head (allow_range ha)
        obtain ⟨d, r', e3, d1⟩ := itoa_head nu'
        have e4 : (numS nu').data.toList = d :: r' := by unfold numS; simpa using e3
        rw [← eV, e2] at e4
        injection e4 with e4 _
        subst e4; omega
      · rw [if_pos o1, if_pos o2] at eV
        have ha : allowB l ot = true := by rcases h2 with h | h; exact absurd h o1; exact h.1
        have ha' : allowB l' ot' = true := by rcases k2 with h | h; exact absurd h o2; exact h.1
        have n1 : nu = 0 := by rcases h5 with h | h; exact absurd h o1; exact h.1
        have n2 : nu' = 0 := by rcases k5 with h | h; exact absurd h o2; exact h.1
        exact ⟨by rw [n1, n2], by rw [z1, z2], fieldInt_inj (allow_range ha) (allow_range ha') eV⟩
  · have o1 : ot = 0 := by
      rcases h2 with h | h
      · exact h
      · have := owner_text h.2.1; rw [ht] at this; cases this
    have o2 : ot' = 0 := by
      rcases k2 with h | h
      · exact h
      · have := owner_text h.2.1; rw [ht] at this; cases this
    have s1 : nu = 0 ∧ tx.size ≠ 0 ∧ tx.size ≤ 640 := by rcases h6 with h | h; rw [ht] at h; cases h; exact h
    have s2 : nu' = 0 ∧ tx'.size ≠ 0 ∧ tx'.size ≤ 640 := by rcases k6 with h | h; rw [ht] at h; cases h; exact h
    have w1 : valS fd nu tx ot = quoteS tx := by unfold valS; rw [if_neg (by simpa using o1), if_pos ht]
    have w2 : valS fd nu' tx' ot' = quoteS tx' := by unfold valS; rw [if_neg (by simpa using o2), if_pos ht]
    rw [w1, w2] at eV
    exact ⟨by rw [s1.1, s2.1], quoteS_injF s1.2.2 s2.2.2 eV, by rw [o1, o2]⟩
end Go.Proofs.YtollifnnpihfdaaGreatDoor
/- unhex of package value returns what unhexL reads. -/
namespace Go.Proofs.YtollifnnpihfdaaGreatDoor
open Go.RowKit
def uhS (s : ByteArray) : ByteArray := match unhexL s.data.toList with | some t => ⟨t.toArray⟩ | none => ⟨#[]⟩
def uhB (s : ByteArray) : Bool := (unhexL s.data.toList).isSome
/-- What is left to be read, behind what has been read. -/
def Left (s : ByteArray) (i : Nat) (acc : List UInt8) : Prop := unhexL s.data.toList = (unhexL (s.data.toList.drop i)).map (acc ++ ·)
theorem Left.start (s : ByteArray) : Left s 0 [] := by unfold Left; simp
theorem drop_two (s : ByteArray) (i : Nat) (h0 : i < s.size) (h : i + 1 < s.size) : s.data.toList.drop i = s[i] :: s[i + 1] :: s.data.toList.drop (i + 2) := by
  rw [List.drop_eq_getElem_cons (by simpa using h0), List.drop_eq_getElem_cons (by simpa using h)]; rfl
theorem Left.step {s : ByteArray} {i : Nat} {acc : List UInt8} (h : Left s i acc) (h0 : i < s.size) (hj : i + 1 < s.size) (ha : 0 ≤ unhexd s[i]) (hb : 0 ≤ unhexd s[i + 1]) : Left s (i + 2) (acc ++ [pairc s[i] s[i + 1]]) := by
  unfold Left at *
  rw [h, drop_two s i h0 hj, unhexL, if_neg (by omega)]
  cases unhexL (s.data.toList.drop (i + 2)) <;> simp
theorem Left.stop {s : ByteArray} {i : Nat} {acc : List UInt8} (h : Left s i acc) (h0 : i < s.size) (hj : i + 1 < s.size) (ha : unhexd s[i] < 0 ∨ unhexd s[i + 1] < 0) : unhexL s.data.toList = none := by
  unfold Left at h
  rw [h, drop_two s i h0 hj, unhexL, if_pos ha]; rfl
theorem Left.done {s : ByteArray} {i : Nat} {acc : List UInt8} (h : Left s i acc) (hj : s.size ≤ i) : unhexL s.data.toList = some acc := by
  unfold Left at h
  rw [h, List.drop_eq_nil_of_le (by simpa using hj)]; simp [unhexL]
theorem unhexL_odd : ∀ l : List UInt8, l.length % 2 = 1 → unhexL l = none
  | [], h => by simp at h
  | [_], _ => rfl
  | a :: b :: r, h => by
    rw [unhexL, unhexL_odd r (by simp at h; omega)]; split <;> rfl
theorem or16 : ∀ a b : Fin 16, bits .or .i64 ((a.val : Int) * 16) (b.val : Int) = 16 * (a.val : Int) + (b.val : Int) := by decide +kernel
theorem or_pairc (a b : UInt8) (ha : 0 ≤ unhexd a) (hb : 0 ≤ unhexd b) : bits .or .i64 (unhexd a * 16) (unhexd b) = ((pairc a b).toNat : Int) := by
  have h1 := unhexd_bounds a
  have h2 := unhexd_bounds b
  rw [pairc_val a b ha hb]
  have := or16 ⟨(unhexd a).toNat, by omega⟩ ⟨(unhexd b).toNat, by omega⟩
  simp only [Int.toNat_of_nonneg ha, Int.toNat_of_nonneg hb] at this
  exact this
theorem tupSB {a b : ByteArray} {m n : Bool} (h : a = b) (k : m = n) : Ending.returned (.tuple #[.string a, .bool m]) = .returned (.tuple #[.string b, .bool n]) := by rw [h, k]
end Go.Proofs.YtollifnnpihfdaaGreatDoor
/- Unquote of package value returns unqS and unqE. -/
namespace Go.Proofs.YtollifnnpihfdaaGreatDoor
open Go.RowKit
theorem mid_list (s : ByteArray) : (s.extract 1 (s.size - 1)).data.toList = s.data.toList.tail.dropLast := by
  rw [ByteArray.data_extract, Array.toList_extract, List.extract_eq_take_drop, ← List.drop_one, List.dropLast_eq_take, List.length_drop]
  rfl
theorem tail_list (s : ByteArray) : (s.extract 1 s.size).data.toList = s.data.toList.tail := by
  rw [ByteArray.data_extract, Array.toList_extract, List.extract_eq_take_drop, ← List.drop_one]
  exact List.take_of_length_le (by rw [List.length_drop]; exact Nat.le_refl _)
theorem head_list (s : ByteArray) (h : 0 < s.size) : s.data.toList = s[0] :: s.data.toList.tail := by
  have : s.data.toList = s.data.toList.drop 0 := rfl
  rw [this, List.drop_eq_getElem_cons (by simpa using h)]; rfl
theorem last_list (s : ByteArray) (h : s.size - 1 < s.size) : s.data.toList.getLast? = some s[s.size - 1] := by
  rw [List.getLast?_eq_getElem?, List.getElem?_eq_getElem (by simpa using h)]; rfl
theorem byte_eq {c : UInt8} {n : Nat} (hn : n < 256) (h : ((c.toNat : Int) == (n : Int)) = true) : c = UInt8.ofNat n := by
  apply UInt8.toNat.inj
  rw [UInt8.toNat_ofNat']
  have : (c.toNat : Int) = (n : Int) := by simpa using h
  omega
theorem ext_eq (s : ByteArray) {l : List UInt8} (h : s.data.toList = l) : s = ⟨l.toArray⟩ := by
  apply ByteArray.ext; rw [← h]
def inQ (s : ByteArray) (h : 0 < s.size) (h1 : s.size - 1 < s.size) : Prop := ((s[0].toNat : Int) == 34) = true ∧ ((s[s.size - 1].toNat : Int) == 34) = true
theorem unqO_A (s : ByteArray) (hs : 2 ≤ s.size) (h0 : ((s[0].toNat : Int) == 34) = true) (h1 : ((s[s.size - 1].toNat : Int) == 34) = true) :
    unqO s.data.toList = if safeB (s.extract 1 (s.size - 1)).data.toList ∧ (s.extract 1 (s.size - 1)).size ≤ 640 then some (s.extract 1 (s.size - 1)).data.toList else none := by
  have e0 : s[0] = 34 := byte_eq (n := 34) (by omega) h0
  have e1 : s[s.size - 1] = 34 := byte_eq (n := 34) (by omega) h1
  have hl : s.data.toList.length = s.size := Array.length_toList
  have hm : (s.extract 1 (s.size - 1)).size = s.data.toList.tail.dropLast.length := by rw [← mid_list, Array.length_toList]; rfl
  rw [hm, mid_list]
  unfold unqO
  rw [if_pos ⟨by omega, by rw [head_list s (by omega), e0]; rfl, by rw [last_list s (by omega), e1]⟩]
theorem unqO_B (s : ByteArray) (hs : 1 ≤ s.size) (h0 : ((s[0].toNat : Int) == 120) = true) :
    unqO s.data.toList = match unhexL (s.extract 1 s.size).data.toList with | some t => if safeB t = false ∧ t.length ≤ 640 then some t else none | none => none := by
  have e0 : s[0] = 120 := byte_eq (n := 120) (by omega) h0
  rw [tail_list]
  unfold unqO
  rw [if_neg (by rw [head_list s (by omega), e0]; simp)]
  rw [head_list s (by omega), e0]
  rfl
theorem unqO_C0 (s : ByteArray) (hs : s.size = 0) : unqO s.data.toList = none := by
  have : s.data.toList = [] := List.eq_nil_of_length_eq_zero (Array.length_toList.trans hs)
  rw [this]; rfl
theorem unqO_C (s : ByteArray) (hs : 1 ≤ s.size) (h0 : ((s[0].toNat : Int) == 120) = false) (h : s.size < 2 ∨ ((s[0].toNat : Int) == 34) = false ∨ ((s[s.size - 1].toNat : Int) == 34) = false) :
    unqO s.data.toList = none := by
  have e0 : s[0] ≠ 120 := fun e => by rw [e] at h0; exact absurd h0 (by decide)
  have hl : s.data.toList.length = s.size := Array.length_toList
  unfold unqO
  rw [if_neg]
  · rw [head_list s (by omega)]
    simp [e0]
  · rintro ⟨k1, k2, k3⟩
    rcases h with h | h | h
    · omega
    · rw [head_list s (by omega)] at k2
      injection k2 with k2
      rw [k2] at h; exact absurd h (by decide)
    · rw [last_list s (by omega)] at k3
      injection k3 with k3
      rw [k3] at h; exact absurd h (by decide)
theorem extract_size (s : ByteArray) (h : s.size ≤ 1000000) (a b : Nat) : (s.extract a b).size ≤ 1000000 := by
  simp; omega
theorem mid_size (s : ByteArray) : (s.extract 1 (s.size - 1)).size = s.size - 1 - 1 := by
  simp
theorem uh_none {s : ByteArray} (h : unhexL s.data.toList = none) : uhB s = false := by unfold uhB; rw [h]; rfl
theorem uh_some {s : ByteArray} {t : List UInt8} (h : unhexL s.data.toList = some t) : uhB s = true ∧ uhS s = ⟨t.toArray⟩ := by unfold uhB uhS; rw [h]; exact ⟨rfl, rfl⟩
end Go.Proofs.YtollifnnpihfdaaGreatDoor
/- Unquote of the reference returns unqS and unqE. -/
namespace Go.Proofs.YtollifnnpihfdaaGreatDoor
open Go.RowKit
theorem quoteS_list (t : ByteArray) (h : t.size ≤ 640) : (quoteS t).data.toList = quoteL t.data.toList := by
  unfold quoteS; rw [if_neg (by omega)]
theorem quoteE_zero {t : ByteArray} : quoteE t = 0 ↔ t.size ≤ 640 := by
  unfold quoteE; split <;> simp <;> omega
theorem quotes_iff (s t : ByteArray) : (quoteE t = 0 ∧ quoteS t = s) ↔ Quotes s.data.toList t.data.toList := by
  rw [quoteE_zero]
  unfold Quotes
  rw [Array.length_toList]
  constructor
  · rintro ⟨h1, h2⟩
    refine ⟨?_, h1⟩
    rw [← quoteS_list t h1, h2]
  · rintro ⟨h1, h2⟩
    refine ⟨h2, ?_⟩
    have := quoteS_list t h2
    rw [h1] at this
    apply ByteArray.ext; exact Array.toList_inj.1 this
/-- A text that begins with a quotation mark is the quoted form of its middle, or of nothing. -/
theorem quotes_A {s : ByteArray} {u : List UInt8} (hs : 2 ≤ s.size) (h0 : ((s[0].toNat : Int) == 34) = true) (h : Quotes s.data.toList u) : u = (s.extract 1 (s.size - 1)).data.toList := by
  have e0 : s[0] = 34 := byte_eq (n := 34) (by omega) h0
  have hh := head_list s (by omega)
  rw [mid_list]
  obtain ⟨h1, _⟩ := h
  unfold quoteL at h1
  rw [← h1]
  cases hu : safeB u <;> simp only [hu] at h1 ⊢
  · rw [← h1, e0] at hh
    simp at hh
  · simp
theorem quotes_B {s : ByteArray} {u : List UInt8} (hs : 1 ≤ s.size) (h0 : ((s[0].toNat : Int) == 34) = false) (h : Quotes s.data.toList u) :
    ((s[0].toNat : Int) == 120) = true ∧ 3 ≤ s.size ∧ s.size % 2 = 1 ∧ s.size ≤ 1281 ∧ unhexL s.data.toList.tail = some u := by
  have hh := head_list s (by omega)
  have hl : s.data.toList.length = s.size := Array.length_toList
  obtain ⟨h1, h2⟩ := h
  unfold quoteL at h1
  cases hu : safeB u <;> simp only [hu] at h1
  · have hne : u ≠ [] := fun e => by subst e; cases hu
    have hpos : 0 < u.length := List.length_pos_iff.2 hne
    rw [← h1] at hh hl ⊢
    simp only [Bool.false_eq_true, if_false, List.cons.injEq, List.tail_cons, List.length_cons, hexL_length] at hh hl ⊢
    refine ⟨by rw [← hh.1]; rfl, by omega, by omega, by omega, unhexL_hexL u⟩
  · rw [← h1] at hh
    simp only [if_true, List.cons.injEq] at hh
    rw [← hh.1] at h0; cases h0
theorem unq_yes {s t : ByteArray} (h : quoteE t = 0 ∧ quoteS t = s) : unqO s.data.toList = some t.data.toList := unqO_of ((quotes_iff s t).1 h)
theorem quoteE_cases (t : ByteArray) : quoteE t = 0 ∨ quoteE t = 20 := by unfold quoteE; split <;> simp
theorem unqO_A_none {s : ByteArray} (hs : 2 ≤ s.size) (h0 : ((s[0].toNat : Int) == 34) = true) (h : ¬ (quoteE (s.extract 1 (s.size - 1)) = 0 ∧ quoteS (s.extract 1 (s.size - 1)) = s)) : unqO s.data.toList = none :=
  unqO_none fun u hu => h ((quotes_iff s _).2 (by rw [← quotes_A hs h0 hu]; exact hu))
theorem quote_empty : quoteE ⟨#[]⟩ = 0 ∧ quoteS ⟨#[]⟩ = ⟨#[34, 34]⟩ := by decide +kernel
end Go.Proofs.YtollifnnpihfdaaGreatDoor
/- ReadNumber of the reference. -/
namespace Go.Proofs.YtollifnnpihfdaaGreatDoor
open Go.RowKit
theorem numS_size (n : Int) (h0 : -9223372036854775808 ≤ n) (h1 : n ≤ 9223372036854775807) : (numS n).size ≤ 20 := by
  have e : (numS n).size = (Lib.itoa n).length := by show (Lib.itoa n).toArray.size = _; simp
  rw [e]; unfold Lib.itoa; split
  · have := dec_len n.natAbs (by omega)
    simp; omega
  · have := dec_len n.toNat (by omega)
    omega
theorem snoc_ind {α : Type} {p : List α → Prop} (h0 : p []) (h1 : ∀ l c, p l → p (l ++ [c])) (l : List α) : p l := by
  have H : ∀ r : List α, p r.reverse := by
    intro r
    induction r with
    | nil => simpa using h0
    | cons a r ih => rw [List.reverse_cons]; exact h1 _ _ ih
  simpa using H l.reverse
theorem w64_in {n : Int} (h0 : -9223372036854775808 ≤ n) (h1 : n ≤ 9223372036854775807) : wrap64 n = n := by unfold wrap64; omega
def rdStep (n : Int) (c : UInt8) : Int := if digB c then wrap64 (wrap64 (n * 10) - ((c.toNat : Int) - 48)) else n
def rdW (l : List UInt8) : Int := l.foldl rdStep 0
theorem rdW_snoc (l : List UInt8) (c : UInt8) : rdW (l ++ [c]) = rdStep (rdW l) c := by simp [rdW, List.foldl_append]
theorem i64_bd (n : Int) : -9223372036854775808 ≤ wrap64 n ∧ wrap64 n ≤ 9223372036854775807 := by unfold wrap64; omega
theorem rdStep_bd {n : Int} (c : UInt8) (h : -9223372036854775808 ≤ n ∧ n ≤ 9223372036854775807) : -9223372036854775808 ≤ rdStep n c ∧ rdStep n c ≤ 9223372036854775807 := by
  unfold rdStep; split
  · exact i64_bd _
  · exact h
theorem rdW_bd (l : List UInt8) : -9223372036854775808 ≤ rdW l ∧ rdW l ≤ 9223372036854775807 := by
  refine snoc_ind (p := fun l => -9223372036854775808 ≤ rdW l ∧ rdW l ≤ 9223372036854775807) (by simp [rdW]) (fun l c ih => ?_) l
  rw [rdW_snoc]; exact rdStep_bd c ih
theorem rdW_dig (l : List UInt8) : l.all digB = true → valD l ≤ 9223372036854775808 → rdW l = -(valD l : Int) := by
  refine snoc_ind (p := fun l => l.all digB = true → valD l ≤ 9223372036854775808 → rdW l = -(valD l : Int)) (fun _ _ => rfl) (fun l c ih hd hv => ?_) l
  · skip
    rw [List.all_append] at hd
    simp only [Bool.and_eq_true, List.all_cons, List.all_nil, Bool.and_true] at hd
    rw [valD_snoc] at hv
    have hc := hd.2
    unfold digB at hc
    simp at hc
    rw [rdW_snoc, ih hd.1 (by omega), valD_snoc, rdStep, if_pos hd.2]
    have e1 : wrap64 (-(valD l : Int) * 10) = -(valD l : Int) * 10 := w64_in (by omega) (by omega)
    rw [e1, w64_in (by omega) (by omega)]
    omega
theorem rdW_neg (l : List UInt8) : rdW (45 :: l) = rdW l := rfl
/-- What ReadNumber makes of a text. -/
def rdN (s : ByteArray) : Int :=
  if s.size = 0 then 0 else if 20 < s.size then 0 else if (s.data.toList.head?.map (·.toNat)) = some 45 then rdW s.data.toList else wrap64 (-(rdW s.data.toList))
theorem rdN_bd (s : ByteArray) : -9223372036854775808 ≤ rdN s ∧ rdN s ≤ 9223372036854775807 := by
  unfold rdN; split
  · omega
  · split
    · omega
    · split
      · exact rdW_bd _
      · exact i64_bd _
theorem numS_list (m : Int) : (numS m).data.toList = Lib.itoa m := by unfold numS; simp
theorem rdN_num (m : Int) (h0 : -9223372036854775808 ≤ m) (h1 : m ≤ 9223372036854775807) : rdN (numS m) = m := by
  have hz := numS_size m h0 h1
  have hl := numS_list m
  have hlen : (numS m).size = (Lib.itoa m).length := by rw [← hl, Array.length_toList]; rfl
  obtain ⟨c, r, hcr, _⟩ := itoa_head m
  have hp : (numS m).size ≠ 0 := by rw [hlen, hcr]; simp
  unfold rdN
  rw [if_neg hp, if_neg (by omega), hl]
  unfold Lib.itoa at *
  split
  · rename_i hneg
    obtain ⟨p1, p2, _⟩ := dec_props m.natAbs
    rw [if_pos (by simp), rdW_neg, rdW_dig _ p2 (by rw [p1]; omega), p1]
    omega
  · rename_i hneg
    obtain ⟨p1, p2, _⟩ := dec_props m.toNat
    obtain ⟨c', r', e, q1, q2⟩ := dec_head m.toNat
    rw [if_neg (by rw [e]; simp; omega), rdW_dig _ p2 (by rw [p1]; omega), p1, w64_in (by omega) (by omega)]
    omega
theorem numS_ext {s : ByteArray} {m : Int} (h : Lib.itoa m = s.data.toList) : numS m = s := bytes_ext (by rw [numS_list, h])
end Go.Proofs.YtollifnnpihfdaaGreatDoor
/- The walk of ReadNumber of the reference. -/
namespace Go.Proofs.YtollifnnpihfdaaGreatDoor
open Go.RowKit
theorem digB_lo {c : UInt8} (h : (c.toNat : Int) < 48) : digB c = false := by unfold digB; simp; omega
theorem digB_hi {c : UInt8} (h : 57 < (c.toNat : Int)) : digB c = false := by unfold digB; simp; omega
theorem digB_in {c : UInt8} (h : 48 ≤ (c.toNat : Int)) (k : (c.toNat : Int) ≤ 57) : digB c = true := by unfold digB; simp; omega
theorem rdN_short {s : ByteArray} (hl : s.size ≤ 20) : rdN s = if s.size = 0 then 0 else if (s.data.toList.head?.map (·.toNat)) = some 45 then rdW s.data.toList else wrap64 (-(rdW s.data.toList)) := by
  unfold rdN; split
  · rfl
  · rw [if_neg (by omega)]
theorem head_eq {s : ByteArray} (h : 0 < s.size) : s.data.toList.head? = some s[0] := by
  have h' : 0 < s.data.toList.length := by rw [Array.length_toList]; exact h
  rw [List.head?_eq_getElem?, List.getElem?_eq_getElem h']; rfl
def RdPost (s : ByteArray) (w : World) (e : Ending) (w' : World) : Prop := e = .returned (.tuple #[.int .i64 (rdN s), .bool ((numS (rdN s)).toList == s.toList)]) ∧ w = w'
attribute [local irreducible] numS rdN rdW
end Go.Proofs.YtollifnnpihfdaaGreatDoor
/- Atoi reads what Itoa writes: plain facts. -/
namespace Go.Proofs.YtollifnnpihfdaaGreatDoor
def I64 (n : Int) : Prop := -9223372036854775808 ≤ n ∧ n ≤ 9223372036854775807
theorem parse_dig : ∀ (l : List UInt8) (acc : Nat), l.all digB = true → l.foldl (fun v c => 10 * v + (c.toNat - 48)) acc < 18446744073709551616 → Lib.parseUint10 acc l = .ok (l.foldl (fun v c => 10 * v + (c.toNat - 48)) acc)
  | [], acc, _, _ => rfl
  | c :: r, acc, hd, hv => by
    simp only [List.all_cons, Bool.and_eq_true] at hd
    have hc := hd.1
    unfold digB at hc
    simp at hc
    have mono : ∀ (r : List UInt8) (a : Nat), a ≤ r.foldl (fun v c => 10 * v + (c.toNat - 48)) a := by
      intro r
      induction r with
      | nil => intro a; exact Nat.le_refl _
      | cons x r ih => intro a; rw [List.foldl_cons]; exact Nat.le_trans (by omega) (ih _)
    have hm := mono r (10 * acc + (c.toNat - 48))
    rw [List.foldl_cons] at hv ⊢
    unfold Lib.parseUint10
    rw [if_pos hc, if_neg (by omega), if_neg (by omega), show acc * 10 + (c.toNat - 48) = 10 * acc + (c.toNat - 48) by omega]
    exact parse_dig r _ hd.2 hv
theorem atoi_itoa (m : Int) (h : I64 m) : Lib.atoiAll (Lib.itoa m) = .ok m := by
  unfold I64 at h
  unfold Lib.itoa
  split
  · rename_i hneg
    obtain ⟨p1, p2, p3⟩ := dec_props m.natAbs
    have hp : Lib.parseMag (Lib.decDigits m.natAbs) = .ok m.natAbs := by
      unfold Lib.parseMag
      rw [if_neg p3, parse_dig _ 0 p2 (by show valD _ < _; rw [p1]; omega)]
      exact congrArg _ p1
    unfold Lib.atoiAll
    simp only [show ((45 : UInt8).toNat = 45) from rfl, or_true, if_true, hp]
    simp
    rw [if_neg (by omega)]
    congr 1
    omega
  · rename_i hneg
    obtain ⟨p1, p2, p3⟩ := dec_props m.toNat
    obtain ⟨c', r', e, q1, q2⟩ := dec_head m.toNat
    have hp : Lib.parseMag (Lib.decDigits m.toNat) = .ok m.toNat := by
      unfold Lib.parseMag
      rw [if_neg p3, parse_dig _ 0 p2 (by show valD _ < _; rw [p1]; omega)]
      exact congrArg _ p1
    rw [e] at hp ⊢
    unfold Lib.atoiAll
    have n43 : (c'.toNat = 43) = False := by simp; omega
    have n45 : (c'.toNat = 45) = False := by simp; omega
    have hnn : (m.toNat : Int) = m := Int.toNat_of_nonneg (by omega)
    have hlt : ¬ (9223372036854775808 ≤ m.toNat) := by omega
    simp only [n43, n45, or_self, hp, hlt, and_false, false_and, if_false, not_false_eq_true, true_and, hnn]
theorem atoi_num {text : ByteArray} {m : Int} (h : I64 m) (e : numS m = text) : Lib.atoiAll text.data.toList = .ok m := by
  rw [← e, numS_list]; exact atoi_itoa m h
end Go.Proofs.YtollifnnpihfdaaGreatDoor
