/- The two functions safe answer as safeB does, and leave the world alone. -/
import Derived.Test.YtollifnnpihfdaaDoorProg
import Derived.Test.YtollifnnpihfdaaDoorPlain
import Derived.WalkKit
import Derived.WalkSpells
import Derived.LoopTactic
import Derived.Lib.Hide
import Derived.Outline
namespace Go.Proofs.YtollifnnpihfdaaDoor
open Go.RowKit
end Go.Proofs.YtollifnnpihfdaaDoor
