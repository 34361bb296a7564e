/- The name of a pair: proper of package value, name of the reference. -/
import Derived.Test.YtollifnnpihfdaaDoorSafe
namespace Go.Proofs.YtollifnnpihfdaaDoor
open Go.RowKit
/-- A letter; a byte of a name. -/
def nma (c : UInt8) : Bool := decide (97 ≤ c.toNat) && decide (c.toNat ≤ 122)
def nmd (c : UInt8) : Bool := nma c || (decide (48 ≤ c.toNat) && decide (c.toNat ≤ 57)) || decide (c.toNat = 95)
def nameB (l : List UInt8) : Bool := match l with
  | [] => false
  | a :: r => decide (l.length ≤ 16) && nma a && r.all nmd
theorem nma_nmd {c : UInt8} (h : nma c = true) : nmd c = true := by unfold nmd; rw [h]; rfl
theorem all_step (p : UInt8 → Bool) (s : ByteArray) (k : Nat) (h : k < s.size) (hp : (s.data.toList.take k).all p = true) (hc : p s[k] = true) : (s.data.toList.take (k + 1)).all p = true := by
  rw [take_snoc s k h, List.all_append, hp]; simp [hc]
theorem all_stop (p : UInt8 → Bool) (s : ByteArray) (k : Nat) (h : k < s.size) (hc : p s[k] = false) : s.data.toList.all p = false := by
  rw [← Bool.not_eq_true]; intro hall
  have := (List.all_eq_true.1 hall) s[k] (Array.mem_toList_iff.2 (Array.getElem_mem (xs := s.data) h))
  rw [hc] at this; cases this
theorem name_eq (s : ByteArray) (h0 : 0 < s.size) : nameB s.data.toList = (decide (s.size ≤ 16) && nma s[0] && s.data.toList.all nmd) := by
  have hh : s.data.toList = s[0] :: s.data.toList.tail := by
    have : s.data.toList = s.data.toList.drop 0 := rfl
    rw [this, List.drop_eq_getElem_cons (by simpa using h0)]; rfl
  have hl : s.data.toList.length = s.size := Array.length_toList
  rw [hh] at hl ⊢
  unfold nameB
  rw [hl, List.all_cons]
  cases hn : nma s[0]
  · simp [hn]
  · simp [hn, nma_nmd hn]
theorem nmd_false {c : UInt8} (h : ¬ nmd c = true) : ¬ (97 ≤ (c.toNat : Int) ∧ (c.toNat : Int) ≤ 122) ∧ ¬ (48 ≤ (c.toNat : Int) ∧ (c.toNat : Int) ≤ 57) ∧ (c.toNat : Int) ≠ 95 := by
  unfold nmd nma at h; simp at h; omega
theorem nmd_true {c : UInt8} (h : nmd c = true) : (97 ≤ (c.toNat : Int) ∧ (c.toNat : Int) ≤ 122) ∨ (48 ≤ (c.toNat : Int) ∧ (c.toNat : Int) ≤ 57) ∨ (c.toNat : Int) = 95 := by
  unfold nmd nma at h; simp at h; omega
theorem nma_true {c : UInt8} : nma c = true ↔ 97 ≤ (c.toNat : Int) ∧ (c.toNat : Int) ≤ 122 := by
  unfold nma; simp; omega
theorem nameB_empty (s : ByteArray) (h : s.size = 0) : nameB s.data.toList = false := by
  have : s.data.toList = [] := List.eq_nil_of_length_eq_zero (Array.length_toList.trans h)
  rw [this]; rfl
theorem str_empty {s : ByteArray} (h : s.size = 0) : s.toList = [] := by
  rw [ByteArray.toList_eq]; exact List.eq_nil_of_length_eq_zero (Array.length_toList.trans h)
theorem str_nonempty {s : ByteArray} (h : 0 < s.size) : s.toList ≠ [] := fun e => by
  rw [ByteArray.toList_eq] at e
  have : s.data.toList.length = s.size := Array.length_toList
  rw [e] at this; simp at this; omega
end Go.Proofs.YtollifnnpihfdaaDoor
