/- Laws on the truth of tests: plain facts. -/
import Derived.Test.YtnpaoepkpdileaaDoorFieldEval
namespace Go.Proofs.YtnpaoepkpdileaaDoor
theorem allow3 {f : Int} (h : 1 ≤ f ∧ f ≤ 21) : allowB 3 f = true := by unfold allowB; simp; exact h
theorem sound_num {f op nu : Int} (hf : 1 ≤ f ∧ f ≤ 21) (ht : textB f = false) (ho : 1 ≤ op ∧ op ≤ 8) : soundB f op nu ⟨#[]⟩ 0 = true := by
  have hz : (⟨#[]⟩ : ByteArray).size = 0 := rfl
  have : checkF f op nu ⟨#[]⟩ 0 3 = 0 := by
    unfold checkF
    rw [if_neg (by rw [allow3 hf]; decide), if_neg (by simp), if_neg (by omega), if_neg (by rw [ht]; simp), if_neg (by simp), if_neg (by rw [ht]; simp), if_neg (by rw [hz]; simp)]
  unfold soundB
  simp [this]
/-- The truth of a test of a number that is no item's. -/
theorem eval_num {c : Ctx} {L : List Itm} {f op nu : Int} (hf : 1 ≤ f ∧ f ≤ 16) (ht : textB f = false) (ho : 1 ≤ op ∧ op ≤ 8) : evalF c L f op nu ⟨#[]⟩ 0 = (hasF c f && cmpF op (valF c Itm.none f) nu) := by
  have hs := sound_num (nu := nu) (show 1 ≤ f ∧ f ≤ 21 by omega) ht ho
  have h1 : itemB f = false := by unfold itemB; simp; omega
  have h2 : itemB 0 = false := by decide
  have hh : holdsF c f op nu ⟨#[]⟩ 0 Itm.none = cmpF op (valF c Itm.none f) nu := by unfold holdsF; rw [if_neg (by rw [ht]; decide), if_pos rfl]
  unfold evalF
  cases hx : hasF c f
  · rw [if_pos (.inr (.inl rfl))]; rfl
  · rw [if_neg (by rw [hs]; simp), if_pos ⟨h1, h2⟩, hh]; rfl
theorem cmp_eq (a b : Int) : (cmpF 1 a b && cmpF 2 a b) = false ∧ (cmpF 1 a b || cmpF 2 a b) = true := by
  unfold cmpF
  by_cases h : a = b <;> simp [h]
theorem cmp_lt (a b : Int) : (cmpF 3 a b && cmpF 6 a b) = false ∧ (cmpF 3 a b || cmpF 6 a b) = true := by
  unfold cmpF
  by_cases h : a < b <;> simp [h] <;> omega
theorem cmp_le (a b : Int) : (cmpF 4 a b && cmpF 5 a b) = false ∧ (cmpF 4 a b || cmpF 5 a b) = true := by
  unfold cmpF
  by_cases h : a ≤ b <;> simp [h] <;> omega
/-- A test of items is true exactly if it is true of one item alone. -/
theorem eval_items {c : Ctx} {L : List Itm} {fd op nu : Int} {tx : ByteArray} {ot : Int} (h : itemB fd = true) : evalF c L fd op nu tx ot = L.any fun i => evalF c [i] fd op nu tx ot := by
  have hn : ¬ (itemB fd = false ∧ itemB ot = false) := by rw [h]; simp
  by_cases hb : soundB fd op nu tx ot = false ∨ hasF c fd = false ∨ (ot ≠ 0 ∧ hasF c ot = false)
  · have hz : ∀ M, evalF c M fd op nu tx ot = false := fun M => by unfold evalF; rw [if_pos hb]
    rw [hz]; simp [hz]
  · have hz : ∀ M, evalF c M fd op nu tx ot = M.any fun i => liveB i && holdsF c fd op nu tx ot i := fun M => by unfold evalF; rw [if_neg hb, if_neg hn]
    rw [hz]; simp [hz]
theorem eval_entry {c : Ctx} {L : List Itm} {fd op nu : Int} {tx : ByteArray} {ot : Int} (h : itemB fd = true) (hp : c.ph ≠ 2) : evalF c L fd op nu tx ot = false := by
  have : hasF c fd = false := by
    unfold itemB at h; unfold hasF
    simp at h
    rw [if_pos (by omega)]; simpa using hp
  unfold evalF
  rw [if_pos (.inr (.inl this))]
end Go.Proofs.YtnpaoepkpdileaaDoor
