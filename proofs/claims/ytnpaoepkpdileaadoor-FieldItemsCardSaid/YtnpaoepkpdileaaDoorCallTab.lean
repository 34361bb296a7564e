/- The functions of the table of calls. -/
import Derived.Test.YtnpaoepkpdileaaDoorCallRows
import Derived.Deep.QuietTactic
import Derived.BigQuiet
namespace Go.Proofs.YtnpaoepkpdileaaDoor
open Go.RowKit
def existsB (z : Int) : Bool := decide (0 ≤ z) && decide (z < 22)
attribute [local irreducible] rowC cellsC
end Go.Proofs.YtnpaoepkpdileaaDoor
