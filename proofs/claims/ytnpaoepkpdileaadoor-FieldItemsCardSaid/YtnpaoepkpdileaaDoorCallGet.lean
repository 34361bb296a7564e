/- Shape of the program; Count, get, Name, Shape of the reference. -/
import Derived.Test.YtnpaoepkpdileaaDoorCallRTab
namespace Go.Proofs.YtnpaoepkpdileaaDoor
open Go.RowKit
theorem results_four {fn : Func} {a b c d : Tmp} (h : fn.results = #[.tmp a, .tmp b, .tmp c, .tmp d]) (tmps : Array Value) (P : Program) (w : World) :
    (results fn tmps).run P w = .ok (.tuple #[tmps.getD a undef, tmps.getD b undef, tmps.getD c undef, tmps.getD d undef]) w := by
  simp [results, h]
attribute [local irreducible] rowC cellsC
theorem rcount (w : World) : Calls Tryd.prog 90 #[] w fun e w' => e = .returned (.int .i64 22) ∧ Below w.heap.size w w' := by
  go_enter Tryd.func90, Tryd.ntmps90
  go_wp2_with fail
  refine (rtable _).mono ?_
  rintro e w1 ⟨rfl, _, hb⟩
  go_wp2_with fail
  go_ret
  exact ⟨rfl, hb⟩
end Go.Proofs.YtnpaoepkpdileaaDoor
