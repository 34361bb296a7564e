/- The walk of ValueBuilt, with what the row lists. -/
import Derived.Test.YthidojkckhjciaaDoorBuilt
import Derived.Test.YthidojkckhjciaaDoorEnvOf
