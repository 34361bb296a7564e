/- The walk of ValueBack, with what the row lists. -/
import Derived.Test.YthidojkckhjciaaDoorBack
import Derived.Test.YthidojkckhjciaaDoorEnvOf
