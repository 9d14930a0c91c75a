/- The messages of any bytes are the document's: for all arguments. -/
import Derived.Test.YtabekdfijifnfaaFQ12
import Derived.Test.YtabekdfijifnfaaPBase
import Derived.Test.YtabekdfijifnfaaPCur
import Derived.Test.YtabekdfijifnfaaPOct
import Derived.Test.YtabekdfijifnfaaPTlv
import Derived.Test.YtabekdfijifnfaaPSub
import Derived.Test.YtabekdfijifnfaaPMsg
import Derived.Test.YtabekdfijifnfaaPAll
import Derived.Test.YtabekdfijifnfaaPBody
import Derived.Test.YtabekdfijifnfaaPOk
import Derived.Test.YtabekdfijifnfaaPAddr
import Derived.Test.YtabekdfijifnfaaPBits
import Derived.Test.YtabekdfijifnfaaPField
import Derived.Test.YtabekdfijifnfaaPFieldG
import Derived.Test.YtabekdfijifnfaaPFieldB
import Derived.Test.YtabekdfijifnfaaPRoute
import Derived.Test.YtabekdfijifnfaaPRouteG
import Derived.Test.YtabekdfijifnfaaPTake
import Derived.Test.YtabekdfijifnfaaPRouteB
import Derived.Test.YtabekdfijifnfaaPCtx
import Derived.Test.YtabekdfijifnfaaPCtxU
import Derived.Test.YtabekdfijifnfaaPCtxV
import Derived.Test.YtabekdfijifnfaaPCtxW
import Derived.Test.YtabekdfijifnfaaPCtxX
import Derived.Test.YtabekdfijifnfaaPIntake
import Derived.Test.YtabekdfijifnfaaPFold
import Derived.Test.YtabekdfijifnfaaPParts
import Derived.Test.YtabekdfijifnfaaPUpd
import Derived.Test.YtabekdfijifnfaaPLeanR
import Derived.Test.YtabekdfijifnfaaPIntakeL
import Derived.Test.YtabekdfijifnfaaFGood
set_option linter.unusedVariables false
set_option linter.unusedSimpArgs false
set_option maxRecDepth 100000
namespace Go.VP
open Go Go.VI
theorem intakeParses_pure (x0 : List UInt8) (g0 : Good_string x0) : g_law23_IntakeParses (x0, ()) = some ((true, ()), ()) := by
  rw [g_law23_IntakeParses_eq]
  refine dq_body (fun h => ?_) (fun h => ?_)
  · rw [awb23]
  · rw [iparse_is, Option.bind_some, riparse_is, Option.bind_some, awb23]
    dsimp only [trip]
    have := parseI_right x0
    rw [ift, sameA_is (by omega) (parseI_small x0), Option.bind_some]
    dsimp only
    rw [ift, if_pos (by simp)]
    simp
end Go.VP
