/- The walk of FieldBack, with what the row lists. -/
import Derived.Test.YtnpaoepkpdileaaDoorFieldBack
import Derived.Test.YtnpaoepkpdileaaDoorFieldLaid
import Derived.Test.YtnpaoepkpdileaaDoorLaidRows
import Derived.Test.YtnpaoepkpdileaaDoorEnvOfN
import Derived.Test.YtnpaoepkpdileaaDoorFrame
