/- The logic's rules over this seat's program. No condition. -/
import Derived.Test.YtdlpfeflndlpfaaChecked
import Derived.Test.YtdlpfeflndlpfaaSd
import Derived.Test.YtdlpfeflndlpfaaSe
import Derived.Test.YtdlpfeflndlpfaaSh
import Derived.Test.YtdlpfeflndlpfaaSm
import Derived.Test.YtdlpfeflndlpfaaSz
