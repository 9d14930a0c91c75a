/- RIPng: a datagram's head, its entries, its routes. -/
import Derived.Test.YthmafkkiefndnaaGreatQFQ2
import Derived.Test.YthmafkkiefndnaaGreatQFH
import Derived.Test.YthmafkkiefndnaaGreatQPBase
import Derived.Test.YthmafkkiefndnaaGreatQPCur
import Derived.Test.YthmafkkiefndnaaGreatQPOct
import Derived.Test.YthmafkkiefndnaaGreatQPTlv
import Derived.Test.YthmafkkiefndnaaGreatQPSub
import Derived.Test.YthmafkkiefndnaaGreatQPMsg
import Derived.Test.YthmafkkiefndnaaGreatQPAll
import Derived.Test.YthmafkkiefndnaaGreatQPAddr
import Derived.Test.YthmafkkiefndnaaGreatQPBits
import Derived.Test.YthmafkkiefndnaaGreatQPField
import Derived.Test.YthmafkkiefndnaaGreatQPRoute
import Derived.Test.YthmafkkiefndnaaGreatQPRipA
import Derived.Test.YthmafkkiefndnaaGreatQPRipB
import Derived.Test.YthmafkkiefndnaaGreatQPRipC
import Derived.Test.YthmafkkiefndnaaGreatQFQ0
import Derived.Test.YthmafkkiefndnaaGreatQPCtxU
import Derived.Test.YthmafkkiefndnaaGreatQPNgA
set_option linter.unusedVariables false
set_option linter.unusedSimpArgs false
set_option maxRecDepth 100000
namespace Go.VP
open Go Go.VI
structure EntKN (e : EntN) : Prop where
  addr : e.addr.length = 16
  tag : 0 ≤ e.tag ∧ e.tag < 65536
  fam : 0 ≤ e.family ∧ e.family < 256
  met : 0 ≤ e.metric ∧ e.metric < 256
end Go.VP
