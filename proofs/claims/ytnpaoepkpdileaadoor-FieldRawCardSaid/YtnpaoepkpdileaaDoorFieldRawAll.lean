/- The walk of FieldRaw, with what the row lists. -/
import Derived.Test.YtnpaoepkpdileaaDoorFieldRaw
import Derived.Test.YtnpaoepkpdileaaDoorFieldArg
import Derived.Test.YtnpaoepkpdileaaDoorFieldLaid
