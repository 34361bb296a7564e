/- The text of a test: two tests that some list permits are equal exactly if their texts are: plain facts. -/
import Derived.Test.YtnpaoepkpdileaaDoorFieldPlain
import Derived.Test.YtnpaoepkpdileaaDoorNumPlain
import Derived.Test.YtnpaoepkpdileaaDoorUnqPlain
namespace Go.Proofs.YtnpaoepkpdileaaDoor
theorem quoteS_injF {a b : ByteArray} (ha : a.size ≤ 640) (hb : b.size ≤ 640) (h : quoteS a = quoteS b) : a = b := by
  have ea : (quoteS a).data.toList = quoteL a.data.toList := by unfold quoteS; rw [if_neg (by omega)]
  have eb : (quoteS b).data.toList = quoteL b.data.toList := by unfold quoteS; rw [if_neg (by omega)]
  have h1 : Quotes (quoteL b.data.toList) a.data.toList := ⟨by rw [← ea, h, eb], by rw [Array.length_toList]; exact ha⟩
  have h2 : Quotes (quoteL b.data.toList) b.data.toList := ⟨rfl, by rw [Array.length_toList]; exact hb⟩
  exact bytes_ext (h1.unique h2)
theorem numS_injF {m n : Int} (h : numS m = numS n) : m = n := by
  apply itoa_inj
  have := congrArg (fun s : ByteArray => s.data.toList) h
  simpa [numS] using this
/-- The error of a test for the rules of the exit, or 0 if it is one of the exclusion. -/
def anyE (fd op nu : Int) (tx : ByteArray) (ot : Int) : Int := if checkF fd op nu tx ot 3 ≠ 0 ∧ checkF fd op nu tx ot 5 = 0 then 0 else checkF fd op nu tx ot 3
theorem anyE_zero {fd op nu : Int} {tx : ByteArray} {ot : Int} (h : anyE fd op nu tx ot = 0) : ∃ l, checkF fd op nu tx ot l = 0 := by
  unfold anyE at h
  split at h
  · rename_i h1; exact ⟨5, h1.2⟩
  · exact ⟨3, h⟩
/-- What a test compares its field with. -/
def valS (fd nu : Int) (tx : ByteArray) (ot : Int) : ByteArray := if ot ≠ 0 then fieldN ot.toNat else if textB fd = true then quoteS tx else numS nu
def testS (fd op nu : Int) (tx : ByteArray) (ot : Int) : ByteArray := if anyE fd op nu tx ot = 0 then fieldN fd.toNat ++ opN op.toNat ++ valS fd nu tx ot else ⟨#[]⟩
/-- A byte of an operator. -/
def opc (c : UInt8) : Bool := c == 61 || c == 33 || c == 60 || c == 62 || c == 38
theorem field_noop : ∀ k : Fin 23, (fieldN k).data.toList.all (fun c => !opc c) = true := by decide +kernel
theorem field_head : ∀ k : Fin 22, (fieldN (k.val + 1)).data.toList.head?.map (fun c => decide (97 ≤ c.toNat) && decide (c.toNat ≤ 122)) = some true := by decide +kernel
theorem op_all : ∀ k : Fin 9, (opN k).data.toList.all opc = true := by decide +kernel
theorem op_ne : ∀ k : Fin 8, (opN (k.val + 1)).data.toList ≠ [] := by decide +kernel
theorem field_inj : ∀ i j : Fin 22, (fieldN (i.val + 1)).data.toList = (fieldN (j.val + 1)).data.toList → i = j := by decide +kernel
theorem op_inj : ∀ i j : Fin 9, (opN i).data.toList = (opN j).data.toList → i = j := by decide +kernel
theorem quoteL_headF (l : List UInt8) : ∃ c r, quoteL l = c :: r ∧ (c.toNat = 34 ∨ c.toNat = 120) := by
  unfold quoteL; split
  · exact ⟨34, _, rfl, .inl rfl⟩
  · exact ⟨120, _, rfl, .inr rfl⟩
theorem fieldInt_head {f : Int} (h : 1 ≤ f ∧ f ≤ 22) : ∃ c r, (fieldN f.toNat).data.toList = c :: r ∧ 97 ≤ c.toNat ∧ c.toNat ≤ 122 := by
  have H := field_head ⟨f.toNat - 1, by omega⟩
  have e : f.toNat - 1 + 1 = f.toNat := by omega
  simp only [e] at H
  cases hl : (fieldN f.toNat).data.toList with
  | nil => rw [hl] at H; simp at H
  | cons c r => rw [hl] at H; simp at H; exact ⟨c, r, rfl, H.1, H.2⟩
theorem fieldInt_inj {f g : Int} (h : 1 ≤ f ∧ f ≤ 22) (k : 1 ≤ g ∧ g ≤ 22) (e : fieldN f.toNat = fieldN g.toNat) : f = g := by
  have := field_inj ⟨f.toNat - 1, by omega⟩ ⟨g.toNat - 1, by omega⟩ (by
    have e1 : f.toNat - 1 + 1 = f.toNat := by omega
    have e2 : g.toNat - 1 + 1 = g.toNat := by omega
    simp only [e1, e2, e])
  have := congrArg Fin.val this
  simp at this
  omega
theorem opInt_inj {f g : Int} (h : 1 ≤ f ∧ f ≤ 8) (k : 1 ≤ g ∧ g ≤ 8) (e : opN f.toNat = opN g.toNat) : f = g := by
  have := op_inj ⟨f.toNat, by omega⟩ ⟨g.toNat, by omega⟩ (by show (opN f.toNat).data.toList = _; rw [e])
  have := congrArg Fin.val this
  simp at this
  omega
/-- The value's first byte is none of an operator's. -/
theorem valS_head {fd op nu : Int} {tx : ByteArray} {ot l : Int} (h : checkF fd op nu tx ot l = 0) : ∃ c r, (valS fd nu tx ot).data.toList = c :: r ∧ opc c = false := by
  obtain ⟨h1, h2, h3, h4, h5, h6, h7⟩ := checkF_zero h
  have hopc : ∀ c : UInt8, (97 ≤ c.toNat ∨ c.toNat = 34 ∨ c.toNat = 45 ∨ (48 ≤ c.toNat ∧ c.toNat ≤ 57)) → opc c = false := fun c hc => by
    unfold opc
    have : ∀ n : Nat, n < 256 → c = UInt8.ofNat n → c.toNat = n := fun n hn e => by rw [e]; simp; omega
    cases h61 : c == 61 <;> cases h33 : c == 33 <;> cases h60 : c == 60 <;> cases h62 : c == 62 <;> cases h38 : c == 38 <;> first | rfl | (simp at *; subst_vars; simp at hc)
  unfold valS
  by_cases hot : ot = 0
  · rw [if_neg (by simpa using hot)]
    by_cases ht : textB fd = true
    · rw [if_pos ht]
      have hsz : tx.size ≤ 640 := by rcases h6 with h | h; rw [ht] at h; cases h; exact h.2.2
      obtain ⟨c, r, e, hc⟩ := quoteL_headF tx.data.toList
      have ea : (quoteS tx).data.toList = quoteL tx.data.toList := by unfold quoteS; rw [if_neg (by omega)]
      exact ⟨c, r, by rw [ea, e], hopc c (by omega)⟩
    · rw [if_neg ht]
      obtain ⟨c, r, e, hc⟩ := itoa_head nu
      exact ⟨c, r, by unfold numS; simpa using e, hopc c (by omega)⟩
  · rw [if_pos hot]
    have ha : allowB l ot = true := by rcases h2 with h | h; exact absurd h hot; exact h.1
    obtain ⟨c, r, e, c1, c2⟩ := fieldInt_head (allow_range ha)
    exact ⟨c, r, e, hopc c (by omega)⟩
theorem parts_unique {p q : UInt8 → Bool} {A B C A' B' C' : List UInt8} (hpq : ∀ c, p c = !q c) (hA : A.all p = true) (hA' : A'.all p = true) (hB : B.all q = true) (hB' : B'.all q = true) (nB : B ≠ []) (nB' : B' ≠ []) (hC : ∃ c r, C = c :: r ∧ q c = false) (hC' : ∃ c r, C' = c :: r ∧ q c = false) (e : A ++ B ++ C = A' ++ B' ++ C') : A = A' ∧ B = B' ∧ C = C' := by
  have tw : ∀ (A B C : List UInt8), A.all p = true → B.all q = true → B ≠ [] → (A ++ B ++ C).takeWhile p = A ∧ (A ++ B ++ C).dropWhile p = B ++ C := by
    intro A B C hA hB nB
    induction A with
    | nil =>
      cases B with
      | nil => exact absurd rfl nB
      | cons b B =>
        have hb : q b = true := by simp at hB; exact hB.1
        have : p b = false := by rw [hpq, hb]; rfl
        simp [this]
    | cons a A ih =>
      simp only [List.all_cons, Bool.and_eq_true] at hA
      obtain ⟨i1, i2⟩ := ih hA.2
      simp only [List.cons_append, List.takeWhile_cons, List.dropWhile_cons, hA.1, if_true]
      exact ⟨by rw [i1], i2⟩
  have tw2 : ∀ (B C : List UInt8), B.all q = true → (∃ c r, C = c :: r ∧ q c = false) → (B ++ C).takeWhile q = B ∧ (B ++ C).dropWhile q = C := by
    intro B C hB hC
    induction B with
    | nil => obtain ⟨c, r, rfl, hc⟩ := hC; simp [hc]
    | cons b B ih =>
      simp only [List.all_cons, Bool.and_eq_true] at hB
      obtain ⟨i1, i2⟩ := ih hB.2
      simp only [List.cons_append, List.takeWhile_cons, List.dropWhile_cons, hB.1, if_true]
      exact ⟨by rw [i1], i2⟩
  obtain ⟨x1, x2⟩ := tw A B C hA hB nB
  obtain ⟨y1, y2⟩ := tw A' B' C' hA' hB' nB'
  rw [e] at x1 x2
  have eA : A = A' := x1.symm.trans y1
  have eBC : B ++ C = B' ++ C' := x2.symm.trans y2
  obtain ⟨u1, u2⟩ := tw2 B C hB hC
  obtain ⟨v1, v2⟩ := tw2 B' C' hB' hC'
  rw [eBC] at u1 u2
  exact ⟨eA, u1.symm.trans v1, u2.symm.trans v2⟩
theorem test_inj {fd op nu fd' op' nu' : Int} {tx tx' : ByteArray} {ot ot' : Int} (h : anyE fd op nu tx ot = 0) (h' : anyE fd' op' nu' tx' ot' = 0) (e : testS fd op nu tx ot = testS fd' op' nu' tx' ot') : fd = fd' ∧ op = op' ∧ nu = nu' ∧ tx = tx' ∧ ot = ot' := by
  unfold testS at e
  rw [if_pos h, if_pos h'] at e
  obtain ⟨l, hl⟩ := anyE_zero h
  obtain ⟨l', hl'⟩ := anyE_zero h'
  have v := valS_head hl
  have v' := valS_head hl'
  obtain ⟨h1, h2, h3, h4, h5, h6, h7⟩ := checkF_zero hl
  obtain ⟨k1, k2, k3, k4, k5, k6, k7⟩ := checkF_zero hl'
  have r1 := allow_range h1
  have r2 := allow_range k1
  have e1 := congrArg (fun s : ByteArray => s.data.toList) e
  simp only [ByteArray.data_append, Array.toList_append] at e1
  have nb : ∀ {o : Int}, 1 ≤ o ∧ o ≤ 8 → (opN o.toNat).data.toList ≠ [] := fun {o} ho => by
    have H := op_ne ⟨o.toNat - 1, by omega⟩
    have e : o.toNat - 1 + 1 = o.toNat := by omega
    simpa only [e] using H
  obtain ⟨eA, eB, eC⟩ := parts_unique (p := fun c => !opc c) (q := opc) (fun _ => rfl) (field_noop ⟨fd.toNat, by omega⟩) (field_noop ⟨fd'.toNat, by omega⟩) (op_all ⟨op.toNat, by omega⟩) (op_all ⟨op'.toNat, by omega⟩) (nb h3) (nb k3) v v' e1
  have efd : fd = fd' := fieldInt_inj r1 r2 (bytes_ext eA)
  have eop : op = op' := opInt_inj h3 k3 (bytes_ext eB)
  subst efd eop
  have eV : valS fd nu tx ot = valS fd nu' tx' ot' := bytes_ext eC
  have empty : ∀ {s : ByteArray}, s.size = 0 → s = ⟨#[]⟩ := fun {s} hs => bytes_ext (by
    have : s.data.toList.length = 0 := by rw [Array.length_toList]; exact hs
    rw [List.eq_nil_of_length_eq_zero this])
  refine ⟨rfl, rfl, ?_⟩
  cases ht : textB fd
  · have z1 : tx = ⟨#[]⟩ := empty (by rcases h7 with h | h; rw [ht] at h; cases h; exact h)
    have z2 : tx' = ⟨#[]⟩ := empty (by rcases k7 with h | h; rw [ht] at h; cases h; exact h)
    unfold valS at eV
    rw [if_neg (show ¬ textB fd = true by rw [ht]; decide), if_neg (show ¬ textB fd = true by rw [ht]; decide)] at eV
    by_cases o1 : ot = 0
    · by_cases o2 : ot' = 0
      · rw [if_neg (by simpa using o1), if_neg (by simpa using o2)] at eV
        exact ⟨numS_injF eV, by rw [z1, z2], by rw [o1, o2]⟩
      · rw [if_neg (by simpa using o1), if_pos o2] at eV
        have ha : allowB l' ot' = true := by rcases k2 with h | h; exact absurd h o2; exact h.1
        obtain ⟨c, r, e2, c1, c2⟩ := fieldInt_head (allow_range ha)
        obtain ⟨d, r', e3, d1⟩ := itoa_head nu
        have e4 : (numS nu).data.toList = d :: r' := by unfold numS; simpa using e3
        rw [eV, e2] at e4
        injection e4 with e4 _
        subst e4; omega
    · by_cases o2 : ot' = 0
      · rw [if_pos o1, if_neg (by simpa using o2)] at eV
        have ha : allowB l ot = true := by rcases h2 with h | h; exact absurd h o1; exact h.1
        obtain ⟨c, r, e2, c1, c2⟩ := fieldInt_head (allow_range ha)
        obtain ⟨d, r', e3, d1⟩ := itoa_head nu'
        have e4 : (numS nu').data.toList = d :: r' := by unfold numS; simpa using e3
        rw [← eV, e2] at e4
        injection e4 with e4 _
        subst e4; omega
      · rw [if_pos o1, if_pos o2] at eV
        have ha : allowB l ot = true := by rcases h2 with h | h; exact absurd h o1; exact h.1
        have ha' : allowB l' ot' = true := by rcases k2 with h | h; exact absurd h o2; exact h.1
        have n1 : nu = 0 := by rcases h5 with h | h; exact absurd h o1; exact h.1
        have n2 : nu' = 0 := by rcases k5 with h | h; exact absurd h o2; exact h.1
        exact ⟨by rw [n1, n2], by rw [z1, z2], fieldInt_inj (allow_range ha) (allow_range ha') eV⟩
  · have o1 : ot = 0 := by
      rcases h2 with h | h
      · exact h
      · have := owner_text h.2.1; rw [ht] at this; cases this
    have o2 : ot' = 0 := by
      rcases k2 with h | h
      · exact h
      · have := owner_text h.2.1; rw [ht] at this; cases this
    have s1 : nu = 0 ∧ tx.size ≠ 0 ∧ tx.size ≤ 640 := by rcases h6 with h | h; rw [ht] at h; cases h; exact h
    have s2 : nu' = 0 ∧ tx'.size ≠ 0 ∧ tx'.size ≤ 640 := by rcases k6 with h | h; rw [ht] at h; cases h; exact h
    have w1 : valS fd nu tx ot = quoteS tx := by unfold valS; rw [if_neg (by simpa using o1), if_pos ht]
    have w2 : valS fd nu' tx' ot' = quoteS tx' := by unfold valS; rw [if_neg (by simpa using o2), if_pos ht]
    rw [w1, w2] at eV
    exact ⟨by rw [s1.1, s2.1], quoteS_injF s1.2.2 s2.2.2 eV, by rw [o1, o2]⟩
end Go.Proofs.YtnpaoepkpdileaaDoor
