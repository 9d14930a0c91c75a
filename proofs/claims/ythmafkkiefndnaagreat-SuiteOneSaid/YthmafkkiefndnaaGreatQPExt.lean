/- Extensions (rows of types, lengths, bytes): whether they may be, their bytes, those of bytes. -/
import Derived.Test.YthmafkkiefndnaaGreatQFH
import Derived.Test.YthmafkkiefndnaaGreatQFQ2
import Derived.Test.YthmafkkiefndnaaGreatQFQ5
import Derived.Test.YthmafkkiefndnaaGreatQFQ7
import Derived.Test.YthmafkkiefndnaaGreatQPBase
import Derived.Test.YthmafkkiefndnaaGreatQPCur
import Derived.Test.YthmafkkiefndnaaGreatQPOct
import Derived.Test.YthmafkkiefndnaaGreatQPTlv
import Derived.Test.YthmafkkiefndnaaGreatQPSub
import Derived.Test.YthmafkkiefndnaaGreatQPMsg
set_option linter.unusedVariables false
set_option linter.unusedSimpArgs false
set_option maxRecDepth 100000
namespace Go.VP
open Go Go.VI
def extB (l : List Sub) : Bool := l.all (subB 0 255)
theorem eright_is {l : List Sub} (hl : l.length ≤ 1000000000) : g_ext_Right (l, ()) = some ((extB l, ()), ()) := by
  rw [g_ext_Right_eq, subs_is hl]; rfl
end Go.VP
