/- Messages of Babel that may be; what one TLV tells may be. -/
import Derived.Test.YtngoadonappnnaaQPBase
import Derived.Test.YtngoadonappnnaaQPCur
import Derived.Test.YtngoadonappnnaaQPOct
import Derived.Test.YtngoadonappnnaaQPTlv
import Derived.Test.YtngoadonappnnaaQPSub
import Derived.Test.YtngoadonappnnaaQPMsg
import Derived.Test.YtngoadonappnnaaQPAddr
import Derived.Test.YtngoadonappnnaaQPBits
import Derived.Test.YtngoadonappnnaaQPField
import Derived.Test.YtngoadonappnnaaQPFieldG
import Derived.Test.YtngoadonappnnaaQPFieldB
import Derived.Test.YtngoadonappnnaaQPRoute
import Derived.Test.YtngoadonappnnaaQPRouteG
import Derived.Test.YtngoadonappnnaaQPTake
import Derived.Test.YtngoadonappnnaaQPRouteB
import Derived.Test.YtngoadonappnnaaQPCtx
import Derived.Test.YtngoadonappnnaaQPCtxU
import Derived.Test.YtngoadonappnnaaQPCtxV
import Derived.Test.YtngoadonappnnaaQPCtxW
import Derived.Test.YtngoadonappnnaaQPCtxX
import Derived.Test.YtngoadonappnnaaQPIntake
import Derived.Test.YtngoadonappnnaaQPFold
import Derived.Test.YtngoadonappnnaaQPParts
import Derived.Test.YtngoadonappnnaaQPUpd
set_option linter.unusedVariables false
set_option linter.unusedSimpArgs false
set_option maxRecDepth 100000
namespace Go.VP
open Go Go.VI
structure OpqR (m : Msg) : Prop where
  kind : m.kind = 14
  bare : bareB m = true
  ty : 10 < m.type_ ∧ m.type_ < 256
  len : m.data.length < 256
inductive LeanR (m : Msg) : Prop
  | field (h : FieldR m)
  | route (h : RouteR m)
  | upd (h : UpdR m)
  | opq (h : OpqR m)
structure GoodL (m : Msg) : Prop where
  good : GoodM m
  ty : IntKind.has .i64 m.type_
  metric : IntKind.has .i64 m.metric
end Go.VP
