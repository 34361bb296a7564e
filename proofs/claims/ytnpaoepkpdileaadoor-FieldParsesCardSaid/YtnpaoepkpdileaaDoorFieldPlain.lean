/- Fields of a context, and tests of them: plain functions. -/
import Derived.Test.YtnpaoepkpdileaaDoorPlain
namespace Go.Proofs.YtnpaoepkpdileaaDoor
def fieldL : List ByteArray := [⟨#[]⟩, ⟨#[112, 105, 100]⟩, ⟨#[112, 112, 105, 100]⟩, ⟨#[117, 105, 100]⟩, ⟨#[101, 117, 105, 100]⟩, ⟨#[103, 105, 100]⟩, ⟨#[101, 103, 105, 100]⟩, ⟨#[97, 117, 105, 100]⟩, ⟨#[115, 101, 115]⟩, ⟨#[97, 48]⟩, ⟨#[97, 49]⟩, ⟨#[97, 50]⟩, ⟨#[97, 51]⟩, ⟨#[101, 120, 101]⟩, ⟨#[99, 111, 109, 109]⟩, ⟨#[101, 120, 105, 116]⟩, ⟨#[115, 117, 99, 99, 101, 115, 115]⟩, ⟨#[105, 110, 111, 100, 101]⟩, ⟨#[100, 101, 118]⟩, ⟨#[111, 98, 106, 95, 117, 105, 100]⟩, ⟨#[111, 98, 106, 95, 103, 105, 100]⟩, ⟨#[107, 105, 110, 100]⟩, ⟨#[116, 121, 112, 101]⟩]
def fieldN (k : Nat) : ByteArray := fieldL.getD k ⟨#[]⟩
def opL : List ByteArray := [⟨#[]⟩, ⟨#[61]⟩, ⟨#[33, 61]⟩, ⟨#[60]⟩, ⟨#[60, 61]⟩, ⟨#[62]⟩, ⟨#[62, 61]⟩, ⟨#[38]⟩, ⟨#[38, 61]⟩]
def opN (k : Nat) : ByteArray := opL.getD k ⟨#[]⟩
/-- The name of a field, or the empty text. -/
def nameF (f : Int) : ByteArray := if f < 1 ∨ 22 < f then ⟨#[]⟩ else fieldN f.toNat
/-- The number of a name, or 0. -/
def numF (s : ByteArray) : Int := match (List.range 22).find? (fun n => (fieldN (n + 1)).toList == s.toList) with | some n => (n : Int) + 1 | none => 0
theorem numF_at {s : ByteArray} {k : Nat} (hk : k < 22) (h : ∀ j, j < k → fieldN (j + 1) ≠ s) (he : fieldN (k + 1) = s) : numF s = (k : Int) + 1 := by
  have : (List.range 22).find? (fun n => (fieldN (n + 1)).toList == s.toList) = some k := by
    rw [List.find?_range_eq_some]
    refine ⟨str_eq he, by simpa using hk, fun j hj => ?_⟩
    simp [str_ne (h j hj)]
  unfold numF; rw [this]
theorem numF_none {s : ByteArray} (h : ∀ j, j < 22 → fieldN (j + 1) ≠ s) : numF s = 0 := by
  have : (List.range 22).find? (fun n => (fieldN (n + 1)).toList == s.toList) = none := by
    rw [List.find?_range_eq_none]
    intro j hj
    simp [str_ne (h j hj)]
  unfold numF; rw [this]
def procB (f : Int) : Bool := decide ((1 ≤ f ∧ f ≤ 8) ∨ f = 13 ∨ f = 14)
/-- May a rule of the list l ask the field f? -/
def allowB (l f : Int) : Bool :=
  if l = 1 ∨ l = 4 then procB f
  else if l = 2 then decide (1 ≤ f ∧ f ≤ 14)
  else if l = 3 then decide (1 ≤ f ∧ f ≤ 21)
  else if l = 5 then procB f || decide (f = 22)
  else false
def textB (f : Int) : Bool := decide (f = 13 ∨ f = 14)
def ownerB (f : Int) : Bool := decide ((3 ≤ f ∧ f ≤ 7) ∨ f = 19 ∨ f = 20)
def itemB (f : Int) : Bool := decide (17 ≤ f ∧ f ≤ 21)
/-- The first error of a test in a rule of the list l. -/
def checkF (fd op nu : Int) (tx : ByteArray) (ot l : Int) : Int :=
  if allowB l fd = false then 120
  else if ot ≠ 0 ∧ (allowB l ot = false ∨ ownerB fd = false ∨ ownerB ot = false) then 120
  else if op < 1 ∨ 8 < op then 121
  else if 2 < op ∧ (textB fd = true ∨ ot ≠ 0) then 121
  else if ot ≠ 0 ∧ (nu ≠ 0 ∨ tx.size ≠ 0) then 122
  else if textB fd = true ∧ (nu ≠ 0 ∨ tx.size = 0 ∨ 640 < tx.size) then 122
  else if textB fd = false ∧ tx.size ≠ 0 then 122
  else 0
theorem allow_range {l f : Int} (h : allowB l f = true) : 1 ≤ f ∧ f ≤ 22 := by
  unfold allowB procB at h
  split at h
  · simp at h; omega
  · split at h
    · simp at h; omega
    · split at h
      · simp at h; omega
      · split at h
        · simp at h; omega
        · cases h
theorem owner_text {f : Int} (h : ownerB f = true) : textB f = false := by
  unfold ownerB at h; unfold textB; simp at *; omega
theorem checkF_zero {fd op nu : Int} {tx : ByteArray} {ot l : Int} (h : checkF fd op nu tx ot l = 0) : allowB l fd = true ∧ (ot = 0 ∨ (allowB l ot = true ∧ ownerB fd = true ∧ ownerB ot = true)) ∧ (1 ≤ op ∧ op ≤ 8) ∧ (op ≤ 2 ∨ (textB fd = false ∧ ot = 0)) ∧ (ot = 0 ∨ (nu = 0 ∧ tx.size = 0)) ∧ (textB fd = false ∨ (nu = 0 ∧ tx.size ≠ 0 ∧ tx.size ≤ 640)) ∧ (textB fd = true ∨ tx.size = 0) := by
  unfold checkF at h
  split at h
  · cases h
  · split at h
    · cases h
    · split at h
      · cases h
      · split at h
        · cases h
        · split at h
          · cases h
          · split at h
            · cases h
            · split at h
              · cases h
              · rename_i h1 h2 h3 h4 h5 h6 h7
                cases hx : allowB l fd <;> cases hy : textB fd <;> cases hz : allowB l ot <;> cases hu : ownerB fd <;> cases hv : ownerB ot <;> by_cases hot : ot = 0 <;> by_cases hnu : nu = 0 <;> simp_all <;> omega
end Go.Proofs.YtnpaoepkpdileaaDoor
