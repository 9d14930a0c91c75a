/- What is read of any bytes has a datagram, which is read as the same, and written as it is: for all arguments. -/
import Derived.Test.YtabekdfijifnfaaQFQ9
import Derived.Test.YtabekdfijifnfaaQPBase
import Derived.Test.YtabekdfijifnfaaQPCur
import Derived.Test.YtabekdfijifnfaaQPOct
import Derived.Test.YtabekdfijifnfaaQPTlv
import Derived.Test.YtabekdfijifnfaaQPSub
import Derived.Test.YtabekdfijifnfaaQPMsg
import Derived.Test.YtabekdfijifnfaaQPAll
import Derived.Test.YtabekdfijifnfaaQPWrap
import Derived.Test.YtabekdfijifnfaaQPBody
import Derived.Test.YtabekdfijifnfaaQFH
import Derived.Test.YtabekdfijifnfaaQPAddr
import Derived.Test.YtabekdfijifnfaaQPBits
import Derived.Test.YtabekdfijifnfaaQPField
import Derived.Test.YtabekdfijifnfaaQPFieldG
import Derived.Test.YtabekdfijifnfaaQPRoute
import Derived.Test.YtabekdfijifnfaaQPRouteG
import Derived.Test.YtabekdfijifnfaaQPTake
import Derived.Test.YtabekdfijifnfaaQPRouteB
import Derived.Test.YtabekdfijifnfaaQPCtx
import Derived.Test.YtabekdfijifnfaaQPCtxU
import Derived.Test.YtabekdfijifnfaaQPFieldB
import Derived.Test.YtabekdfijifnfaaQPCtxV
import Derived.Test.YtabekdfijifnfaaQPCtxW
import Derived.Test.YtabekdfijifnfaaQPCtxX
import Derived.Test.YtabekdfijifnfaaQPIntake
import Derived.Test.YtabekdfijifnfaaQPFold
import Derived.Test.YtabekdfijifnfaaQPParts
import Derived.Test.YtabekdfijifnfaaQPUpd
import Derived.Test.YtabekdfijifnfaaQPLeanR
import Derived.Test.YtabekdfijifnfaaQPCtxL
import Derived.Test.YtabekdfijifnfaaQPLead
import Derived.Test.YtabekdfijifnfaaQPLean
import Derived.Test.YtabekdfijifnfaaQPLeanD
import Derived.Test.YtabekdfijifnfaaQPLeanB
import Derived.Test.YtabekdfijifnfaaQPIntakeL
import Derived.Test.YtabekdfijifnfaaQPOutS
import Derived.Test.YtabekdfijifnfaaQPOutlet
import Derived.Test.YtabekdfijifnfaaQPLawO
import Derived.Test.YtabekdfijifnfaaQFGood
set_option linter.unusedVariables false
set_option linter.unusedSimpArgs false
set_option maxRecDepth 100000
namespace Go.VP
open Go Go.VI
theorem outletAgain_pure (x0 : List UInt8) (g0 : Good_string x0) : g_law25_OutletAgain (x0, ()) = some ((true, ()), ()) := by
  rw [g_law25_OutletAgain_eq]
  refine dq_step' (fun _ => awb25 _) (fun hb => ?_)
  rw [riparse_is, Option.bind_some]
  dsimp only [trip]
  refine ne_step (fun _ => awb25 _) (fun he => ?_)
  obtain ⟨h1, h2, h3⟩ := parse_again (b := x0) (by omega) he
  have hr := parseI_right x0
  have hg : ∀ m ∈ (parseI x0).1, GoodL m := fun m hm => (hr.1 m hm).2
  rw [oenc_is (by omega) hg, Option.bind_some]
  dsimp only [trip]
  rw [riparse_is, Option.bind_some, h3]
  dsimp only [trip]
  rw [oenc_is (by omega) hg, Option.bind_some, awb25]
  dsimp only [trip]
  rw [ift]
  refine bq_step (fun _ => ?_) (fun q => absurd h1 q)
  refine bq_step (fun _ => ?_) (fun q => absurd rfl q)
  refine bq_step (fun _ => ?_) (fun q => absurd h1 q)
  rw [sameA_is (by omega) (fun m hm => (hg m hm).small), Option.bind_some]
  dsimp only
  rw [ift]; simp
end Go.VP
