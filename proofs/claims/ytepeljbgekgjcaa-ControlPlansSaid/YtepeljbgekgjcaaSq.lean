/- The logic's rules over this seat's program. No condition. -/
import Derived.Test.YtepeljbgekgjcaaChecked
import Derived.Test.YtepeljbgekgjcaaSd
import Derived.Test.YtepeljbgekgjcaaSe
import Derived.Test.YtepeljbgekgjcaaSh
import Derived.Test.YtepeljbgekgjcaaSm
import Derived.Test.YtepeljbgekgjcaaSz
