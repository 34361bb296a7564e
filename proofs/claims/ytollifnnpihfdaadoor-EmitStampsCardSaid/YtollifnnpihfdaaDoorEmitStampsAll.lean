/- The walk of EmitStamps, with what the row lists. -/
import Derived.Test.YtollifnnpihfdaaDoorEmStamps
import Derived.Test.YtollifnnpihfdaaDoorCallLaid
import Derived.Test.YtollifnnpihfdaaDoorFrame
