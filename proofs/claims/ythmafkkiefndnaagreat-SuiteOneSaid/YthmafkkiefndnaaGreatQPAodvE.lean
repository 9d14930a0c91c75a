/- AODV: datagrams. -/
import Derived.Test.YthmafkkiefndnaaGreatQFH
import Derived.Test.YthmafkkiefndnaaGreatQFQ3
import Derived.Test.YthmafkkiefndnaaGreatQFQ5
import Derived.Test.YthmafkkiefndnaaGreatQFQ7
import Derived.Test.YthmafkkiefndnaaGreatQPBase
import Derived.Test.YthmafkkiefndnaaGreatQPCur
import Derived.Test.YthmafkkiefndnaaGreatQPOct
import Derived.Test.YthmafkkiefndnaaGreatQPTlv
import Derived.Test.YthmafkkiefndnaaGreatQPSub
import Derived.Test.YthmafkkiefndnaaGreatQPMsg
import Derived.Test.YthmafkkiefndnaaGreatQPAll
import Derived.Test.YthmafkkiefndnaaGreatQPAddr
import Derived.Test.YthmafkkiefndnaaGreatQPBits
import Derived.Test.YthmafkkiefndnaaGreatQPField
import Derived.Test.YthmafkkiefndnaaGreatQPRoute
import Derived.Test.YthmafkkiefndnaaGreatQPRipA
import Derived.Test.YthmafkkiefndnaaGreatQPRipB
import Derived.Test.YthmafkkiefndnaaGreatQPRipC
import Derived.Test.YthmafkkiefndnaaGreatQFQ0
import Derived.Test.YthmafkkiefndnaaGreatQFQ2
import Derived.Test.YthmafkkiefndnaaGreatQPRipE
import Derived.Test.YthmafkkiefndnaaGreatQPCtxU
import Derived.Test.YthmafkkiefndnaaGreatQPExt
import Derived.Test.YthmafkkiefndnaaGreatQPNgA
import Derived.Test.YthmafkkiefndnaaGreatQPNgB
import Derived.Test.YthmafkkiefndnaaGreatQPAodvA
import Derived.Test.YthmafkkiefndnaaGreatQPAodvB
set_option linter.unusedVariables false
set_option linter.unusedSimpArgs false
set_option maxRecDepth 100000
namespace Go.VP
open Go Go.VI
noncomputable def avB (m : Msg) : Bool := rqB m || (rpB m || reB m)
theorem avright_is {m : Msg} (g : GoodV m) : g_aodv_Right (m, ()) = some ((avB m, ()), ()) := by
  rw [g_aodv_Right_eq, rqright_is g, Option.bind_some]
  unfold avB
  dsimp only
  cases rqB m with
  | true => rfl
  | false =>
    rw [iff_, rpright_is g, Option.bind_some]
    dsimp only
    cases rpB m with
    | true => rfl
    | false => rw [iff_, errright_is g]; try rfl
end Go.VP
