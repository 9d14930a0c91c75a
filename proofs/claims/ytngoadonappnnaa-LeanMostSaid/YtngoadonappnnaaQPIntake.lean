/- The messages of TLVs: one of them. -/
import Derived.Test.YtngoadonappnnaaQPBase
import Derived.Test.YtngoadonappnnaaQPCur
import Derived.Test.YtngoadonappnnaaQPOct
import Derived.Test.YtngoadonappnnaaQPTlv
import Derived.Test.YtngoadonappnnaaQPSub
import Derived.Test.YtngoadonappnnaaQPMsg
import Derived.Test.YtngoadonappnnaaQPAddr
import Derived.Test.YtngoadonappnnaaQPBits
import Derived.Test.YtngoadonappnnaaQPField
import Derived.Test.YtngoadonappnnaaQPFieldG
import Derived.Test.YtngoadonappnnaaQPRoute
import Derived.Test.YtngoadonappnnaaQPRouteG
import Derived.Test.YtngoadonappnnaaQPTake
import Derived.Test.YtngoadonappnnaaQPRouteB
import Derived.Test.YtngoadonappnnaaQPCtx
import Derived.Test.YtngoadonappnnaaQPCtxU
import Derived.Test.YtngoadonappnnaaQPCtxV
import Derived.Test.YtngoadonappnnaaQPCtxW
import Derived.Test.YtngoadonappnnaaQPCtxX
set_option linter.unusedVariables false
set_option linter.unusedSimpArgs false
set_option maxRecDepth 100000
namespace Go.VP
open Go Go.VI
def opaqueM (ty : Int) (d : Bs) : Msg := ⟨14, 0, 0, [], 0, 0, [], 0, 0, [], 0, [], 0, 0, 0, 0, 0, 0, 0, [], [], [], ty, d, []⟩
def resF (c : Ctx) (x : Msg × Bool × Int) : Ctx × List Msg × Int := if x.2.2 ≠ 0 then (c, [], x.2.2) else if x.2.1 = true then (c, [x.1], 0) else (c, [], 0)
def oneR (c : Ctx) (ty : Int) (d : Bs) : Ctx × List Msg × Int :=
  if ty = 0 ∨ ty = 1 then (c, [], 0) else if ty = 6 ∨ ty = 7 ∨ ty = 8 then stepC c ty d
  else if 2 ≤ ty ∧ ty ≤ 5 then resF c (fieldG ty d) else if ty = 9 ∨ ty = 10 then resF c (routeG ty d) else (c, [opaqueM ty d], 0)
end Go.VP
