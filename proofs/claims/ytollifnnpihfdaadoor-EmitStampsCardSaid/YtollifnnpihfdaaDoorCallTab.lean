/- The functions of the table of calls. -/
import Derived.Test.YtollifnnpihfdaaDoorCallRows
import Derived.Deep.QuietTactic
import Derived.BigQuiet
namespace Go.Proofs.YtollifnnpihfdaaDoor
open Go.RowKit
theorem Calls10.below {B : Nat} {w w' : World} (h : Calls10 w) (hb : Below B w w') (hB : w.heap.size ≤ B) : Calls10 w' := Glob.below h hb hB
def existsB (z : Int) : Bool := decide (0 ≤ z) && decide (z < 22)
attribute [local irreducible] rowC cellsC
theorem vexists (z : Int) (w : World) : Calls Tryd.prog 37 #[.int .i64 z] w fun e w' => e = .returned (.bool (existsB z)) ∧ w = w' := by
  by_cases h0 : 0 ≤ z
  · by_cases h1 : z < 22
    · have H := Lib.hid (show existsB z = true by unfold existsB; simp [h0, h1])
      go_enter Tryd.func37, Tryd.ntmps37
      go_wp2
      go_ret
      exact ⟨by rw [H.out]; rfl, rfl⟩
    · have H := Lib.hid (show existsB z = false by unfold existsB; simp; omega)
      go_enter Tryd.func37, Tryd.ntmps37
      go_wp2
      go_ret
      exact ⟨by rw [H.out]; rfl, rfl⟩
  · have H := Lib.hid (show existsB z = false by unfold existsB; simp; omega)
    go_enter Tryd.func37, Tryd.ntmps37
    go_wp2
    go_ret
    exact ⟨by rw [H.out]; rfl, rfl⟩
theorem vname (n : Nat) (hn : n < 22) (w : World) (hc : Calls10 w) : Calls Tryd.prog 26 #[.int .i64 (n : Int)] w fun e w' => e = .returned (.string (rowC n).name) ∧ w = w' := by
  have hx : existsB (n : Int) = true := by unfold existsB; simp; omega
  have HX := Lib.hid hx
  have c0 := (hc.cell (n * 5)).trans (cellsC_at .u8 n hn).1
  clear hc hx
  go_enter Tryd.func26, Tryd.ntmps26
  go_wp2_with fail
  refine (vexists _ _).mono ?_
  rintro e w' ⟨rfl, rfl⟩
  rw [HX.out]
  go_wp2_with fail
  go_ret
  exact ⟨rfl, rfl⟩
theorem vname_out (z : Int) (hz : z < 0 ∨ 22 ≤ z) (w : World) : Calls Tryd.prog 26 #[.int .i64 z] w fun e w' => e = .returned (.string ⟨#[]⟩) ∧ w = w' := by
  have HX := Lib.hid (show existsB z = false by unfold existsB; simp; omega)
  clear hz
  go_enter Tryd.func26, Tryd.ntmps26
  go_wp2_with fail
  refine (vexists _ _).mono ?_
  rintro e w' ⟨rfl, rfl⟩
  rw [HX.out]
  go_wp2_with fail
  go_ret
  exact ⟨rfl, rfl⟩
end Go.Proofs.YtollifnnpihfdaaDoor
