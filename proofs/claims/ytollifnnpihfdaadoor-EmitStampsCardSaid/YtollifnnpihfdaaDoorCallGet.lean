/- Shape of the program; Count, get, Name, Shape of the reference. -/
import Derived.Test.YtollifnnpihfdaaDoorCallRTab
namespace Go.Proofs.YtollifnnpihfdaaDoor
open Go.RowKit
theorem results_four {fn : Func} {a b c d : Tmp} (h : fn.results = #[.tmp a, .tmp b, .tmp c, .tmp d]) (tmps : Array Value) (P : Program) (w : World) :
    (results fn tmps).run P w = .ok (.tuple #[tmps.getD a undef, tmps.getD b undef, tmps.getD c undef, tmps.getD d undef]) w := by
  simp [results, h]
attribute [local irreducible] rowC cellsC
end Go.Proofs.YtollifnnpihfdaaDoor
