/- The walk of FieldParses, with what the row lists. -/
import Derived.Test.YtnpaoepkpdileaaDoorFieldParses
import Derived.Test.YtnpaoepkpdileaaDoorFieldLaid
import Derived.Test.YtnpaoepkpdileaaDoorLaidRows
import Derived.Test.YtnpaoepkpdileaaDoorEnvOfN
import Derived.Test.YtnpaoepkpdileaaDoorFrame
