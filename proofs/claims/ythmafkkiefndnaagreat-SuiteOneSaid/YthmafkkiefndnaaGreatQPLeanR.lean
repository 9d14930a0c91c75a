/- Messages of Babel that may be; what one TLV tells may be. -/
import Derived.Test.YthmafkkiefndnaaGreatQPBase
import Derived.Test.YthmafkkiefndnaaGreatQPCur
import Derived.Test.YthmafkkiefndnaaGreatQPOct
import Derived.Test.YthmafkkiefndnaaGreatQPTlv
import Derived.Test.YthmafkkiefndnaaGreatQPSub
import Derived.Test.YthmafkkiefndnaaGreatQPMsg
import Derived.Test.YthmafkkiefndnaaGreatQPAddr
import Derived.Test.YthmafkkiefndnaaGreatQPBits
import Derived.Test.YthmafkkiefndnaaGreatQPField
import Derived.Test.YthmafkkiefndnaaGreatQFH
import Derived.Test.YthmafkkiefndnaaGreatQPFieldB
import Derived.Test.YthmafkkiefndnaaGreatQPRoute
import Derived.Test.YthmafkkiefndnaaGreatQPRouteG
import Derived.Test.YthmafkkiefndnaaGreatQFQ3
import Derived.Test.YthmafkkiefndnaaGreatQPCtx
import Derived.Test.YthmafkkiefndnaaGreatQPCtxU
import Derived.Test.YthmafkkiefndnaaGreatQFQ2
import Derived.Test.YthmafkkiefndnaaGreatQPFold
import Derived.Test.YthmafkkiefndnaaGreatQPParts
import Derived.Test.YthmafkkiefndnaaGreatQPUpd
set_option linter.unusedVariables false
set_option linter.unusedSimpArgs false
set_option maxRecDepth 100000
namespace Go.VP
open Go Go.VI
structure OpqR (m : Msg) : Prop where
  kind : m.kind = 14
  bare : bareB m = true
  ty : 10 < m.type_ ∧ m.type_ < 256
  len : m.data.length < 256
inductive LeanR (m : Msg) : Prop
  | field (h : FieldR m)
  | route (h : RouteR m)
  | upd (h : UpdR m)
  | opq (h : OpqR m)
structure GoodL (m : Msg) : Prop where
  good : GoodM m
  ty : IntKind.has .i64 m.type_
  metric : IntKind.has .i64 m.metric
end Go.VP
