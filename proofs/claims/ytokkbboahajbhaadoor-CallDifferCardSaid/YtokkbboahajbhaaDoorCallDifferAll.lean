/- The walk of CallDiffer, with what the row lists. -/
import Derived.Test.YtokkbboahajbhaaDoorCallDiffer
import Derived.Test.YtokkbboahajbhaaDoorCallLaid
