/- Shape of the program; Count, get, Name, Shape of the reference. -/
import Derived.Test.YtokkbboahajbhaaGreatDoorCallRTab
namespace Go.Proofs.YtokkbboahajbhaaGreatDoor
open Go.RowKit
theorem results_four {fn : Func} {a b c d : Tmp} (h : fn.results = #[.tmp a, .tmp b, .tmp c, .tmp d]) (tmps : Array Value) (P : Program) (w : World) :
    (results fn tmps).run P w = .ok (.tuple #[tmps.getD a undef, tmps.getD b undef, tmps.getD c undef, tmps.getD d undef]) w := by
  simp [results, h]
attribute [local irreducible] rowC cellsC
theorem rcount (w : World) : Calls Tryz.prog 34 #[] w fun e w' => e = .returned (.int .i64 22) ∧ Below w.heap.size w w' := by
  go_enter Tryz.func34, Tryz.ntmps34
  go_wp2_with fail
  refine (rtable _).mono ?_
  rintro e w1 ⟨rfl, _, hb⟩
  go_wp2_with fail
  go_ret
  exact ⟨rfl, hb⟩
theorem vshape_out (z : Int) (hz : z < 0 ∨ 22 ≤ z) (w : World) : Calls Tryz.prog 27 #[.int .i64 z] w fun e w' => e = .returned (.tuple #[.int .i64 0, .int .i64 0, .int .i64 0, .int .i64 0]) ∧ w = w' := by
  have HX := Lib.hid (show existsB z = false by unfold existsB; simp; omega)
  clear hz
  go_enter Tryz.func27, Tryz.ntmps27
  go_wp2_with fail
  refine (vexists _ _).mono ?_
  rintro e w' ⟨rfl, rfl⟩
  rw [HX.out]
  go_wp2_with fail
  refine bodyPost_ret (results_four rfl _ _ _) rfl ?_
  exact ⟨rfl, rfl⟩
set_option maxHeartbeats 1000000 in
theorem vshape (n : Nat) (hn : n < 22) (w : World) (hc : Calls10 w) : Calls Tryz.prog 27 #[.int .i64 (n : Int)] w fun e w' => e = .returned (.tuple #[.int .i64 (rowC n).nums, .int .i64 (rowC n).pths, .int .i64 (rowC n).least, .int .i64 (rowC n).most]) ∧ Below w.heap.size w w' := by
  have HX := Lib.hid (show existsB (n : Int) = true by unfold existsB; simp; omega)
  obtain ⟨k0, k1, k2, k3, k4⟩ := cellsC_at .u8 n hn
  have c0 := (hc.cell (n * 5)).trans k0
  have c1 := (hc.cell (n * 5 + 1)).trans k1
  have c2 := (hc.cell (n * 5 + 2)).trans k2
  have c3 := (hc.cell (n * 5 + 3)).trans k3
  have c4 := (hc.cell (n * 5 + 4)).trans k4
  obtain ⟨s1, s2, s3, s4, _⟩ := rowC_small n
  clear hc k0 k1 k2 k3 k4
  generalize (rowC n).nums = a at *
  generalize (rowC n).pths = b at *
  generalize (rowC n).least = c at *
  generalize (rowC n).most = d at *
  generalize (rowC n).name = nm at *
  go_enter Tryz.func27, Tryz.ntmps27
  go_wp2_with fail
  refine (vexists _ _).mono ?_
  rintro e w' ⟨rfl, rfl⟩
  rw [HX.out]
  go_wp2_with fail
  go_quiet (fail)
  go_wp2_with fail
  refine bodyPost_ret (results_four rfl _ _ _) rfl ?_
  exact ⟨rfl, below_drewN ((Below.refl _ _).alloc (Nat.le_refl _) _) _⟩
end Go.Proofs.YtokkbboahajbhaaGreatDoor
