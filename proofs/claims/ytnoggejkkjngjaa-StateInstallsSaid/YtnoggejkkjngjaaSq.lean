/- The logic's rules over this seat's program. No condition. -/
import Derived.Test.YtnoggejkkjngjaaChecked
import Derived.Test.YtnoggejkkjngjaaSd
import Derived.Test.YtnoggejkkjngjaaSe
import Derived.Test.YtnoggejkkjngjaaSh
import Derived.Test.YtnoggejkkjngjaaSm
import Derived.Test.YtnoggejkkjngjaaSz
