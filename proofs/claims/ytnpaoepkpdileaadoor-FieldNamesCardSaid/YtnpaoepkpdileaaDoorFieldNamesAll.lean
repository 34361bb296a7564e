/- The walk of FieldNames, with what the row lists. -/
import Derived.Test.YtnpaoepkpdileaaDoorFieldNames
import Derived.Test.YtnpaoepkpdileaaDoorFieldLaid
