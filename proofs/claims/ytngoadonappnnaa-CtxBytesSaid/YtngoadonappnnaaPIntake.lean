/- The messages of TLVs: one of them. -/
import Derived.Test.YtngoadonappnnaaPBase
import Derived.Test.YtngoadonappnnaaPCur
import Derived.Test.YtngoadonappnnaaPOct
import Derived.Test.YtngoadonappnnaaPTlv
import Derived.Test.YtngoadonappnnaaPSub
import Derived.Test.YtngoadonappnnaaPMsg
import Derived.Test.YtngoadonappnnaaPAddr
import Derived.Test.YtngoadonappnnaaPBits
import Derived.Test.YtngoadonappnnaaPField
import Derived.Test.YtngoadonappnnaaPFieldG
import Derived.Test.YtngoadonappnnaaPRoute
import Derived.Test.YtngoadonappnnaaPRouteG
import Derived.Test.YtngoadonappnnaaPTake
import Derived.Test.YtngoadonappnnaaPRouteB
import Derived.Test.YtngoadonappnnaaPCtx
import Derived.Test.YtngoadonappnnaaPCtxU
import Derived.Test.YtngoadonappnnaaPCtxV
import Derived.Test.YtngoadonappnnaaPCtxW
import Derived.Test.YtngoadonappnnaaPCtxX
set_option linter.unusedVariables false
set_option linter.unusedSimpArgs false
set_option maxRecDepth 100000
namespace Go.VP
open Go Go.VI
def opaqueM (ty : Int) (d : Bs) : Msg := ⟨14, 0, 0, [], 0, 0, [], 0, 0, [], 0, [], 0, 0, 0, 0, 0, 0, 0, [], [], [], ty, d, []⟩
def resF (c : Ctx) (x : Msg × Bool × Int) : Ctx × List Msg × Int := if x.2.2 ≠ 0 then (c, [], x.2.2) else if x.2.1 = true then (c, [x.1], 0) else (c, [], 0)
theorem res_is (c : Ctx) (x : Msg × Bool × Int) : (if (x.2.2 != 0) = true then (some ((c, [], x.2.2, ()), ()) : Option ((Ctx × List Msg × Int × Unit) × Unit)) else (if (!x.2.1) = true then some ((c, [], x.2.2, ()), ()) else some ((c, [x.1], 0, ()), ()))) = some (((resF c x).1, (resF c x).2.1, (resF c x).2.2, ()), ()) := by
  obtain ⟨m, k, e⟩ := x
  unfold resF
  dsimp only
  refine ne_step (fun h => by rw [if_pos h]) (fun h => ?_)
  rw [if_neg (show ¬ e ≠ 0 from fun q => q h)]
  cases k with
  | false => rw [ifnf, if_neg (by simp), h]
  | true => rw [ifnt, if_pos rfl]
/-- What a TLV says, and what is known behind it. -/
def oneR (c : Ctx) (ty : Int) (d : Bs) : Ctx × List Msg × Int :=
  if ty = 0 ∨ ty = 1 then (c, [], 0) else if ty = 6 ∨ ty = 7 ∨ ty = 8 then stepC c ty d
  else if 2 ≤ ty ∧ ty ≤ 5 then resF c (fieldG ty d) else if ty = 9 ∨ ty = 10 then resF c (routeG ty d) else (c, [opaqueM ty d], 0)
end Go.VP
