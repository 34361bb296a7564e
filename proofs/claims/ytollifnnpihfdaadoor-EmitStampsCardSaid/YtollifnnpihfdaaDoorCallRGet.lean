/- get, Name, Shape of the reference. -/
import Derived.Test.YtollifnnpihfdaaDoorCallGet
import Derived.Test.YtollifnnpihfdaaDoorBlk
namespace Go.Proofs.YtollifnnpihfdaaDoor
open Go.RowKit
attribute [local irreducible] rowC cellsC
theorem rowI_neg {z : Int} (h : z < 0) : rowI z = ⟨⟨#[]⟩, 0, 0, 0, 0⟩ := if_pos h
theorem rowI_great {z : Int} (h : 22 ≤ z) : rowI z = ⟨⟨#[]⟩, 0, 0, 0, 0⟩ := by
  unfold rowI
  rw [if_neg (by omega)]
  unfold rowC
  rw [List.getD_eq_getElem?_getD, List.getElem?_eq_none (by show rowsC.length ≤ _; have : rowsC.length = 22 := rfl; omega)]
  rfl
theorem rowI_nat (n : Nat) : rowI (n : Int) = rowC n := by unfold rowI; rw [if_neg (by omega), Int.toNat_natCast]
end Go.Proofs.YtollifnnpihfdaaDoor
