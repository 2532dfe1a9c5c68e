/- The logic's rules over this seat's program. No condition. -/
import Derived.Test.YtjmmmfibmdlclaaChecked
import Derived.Test.YtjmmmfibmdlclaaSd
import Derived.Test.YtjmmmfibmdlclaaSe
import Derived.Test.YtjmmmfibmdlclaaSh
import Derived.Test.YtjmmmfibmdlclaaSm
