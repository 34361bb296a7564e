/- The walks of the laws that read pairs, with what the row lists. -/
import Derived.Test.YthidojkckhjciaaDoorParses
import Derived.Test.YthidojkckhjciaaDoorEnvOf
