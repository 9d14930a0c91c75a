/- The datagram of any messages, or why there is none, and their plain size, are the document's: for all arguments. -/
import Derived.Test.YtabekdfijifnfaaQFQ5
import Derived.Test.YtabekdfijifnfaaQPBase
import Derived.Test.YtabekdfijifnfaaQPCur
import Derived.Test.YtabekdfijifnfaaQPOct
import Derived.Test.YtabekdfijifnfaaQPTlv
import Derived.Test.YtabekdfijifnfaaQPSub
import Derived.Test.YtabekdfijifnfaaQPMsg
import Derived.Test.YtabekdfijifnfaaQPAll
import Derived.Test.YtabekdfijifnfaaQPWrap
import Derived.Test.YtabekdfijifnfaaQPBody
import Derived.Test.YtabekdfijifnfaaQFH
import Derived.Test.YtabekdfijifnfaaQPAddr
import Derived.Test.YtabekdfijifnfaaQPBits
import Derived.Test.YtabekdfijifnfaaQPField
import Derived.Test.YtabekdfijifnfaaQPFieldG
import Derived.Test.YtabekdfijifnfaaQPRoute
import Derived.Test.YtabekdfijifnfaaQPRouteG
import Derived.Test.YtabekdfijifnfaaQPTake
import Derived.Test.YtabekdfijifnfaaQPRouteB
import Derived.Test.YtabekdfijifnfaaQPCtx
import Derived.Test.YtabekdfijifnfaaQPCtxU
import Derived.Test.YtabekdfijifnfaaQPFieldB
import Derived.Test.YtabekdfijifnfaaQPCtxV
import Derived.Test.YtabekdfijifnfaaQPCtxW
import Derived.Test.YtabekdfijifnfaaQPCtxX
import Derived.Test.YtabekdfijifnfaaQPIntake
import Derived.Test.YtabekdfijifnfaaQPFold
import Derived.Test.YtabekdfijifnfaaQPParts
import Derived.Test.YtabekdfijifnfaaQPUpd
import Derived.Test.YtabekdfijifnfaaQPLeanR
import Derived.Test.YtabekdfijifnfaaQPCtxL
import Derived.Test.YtabekdfijifnfaaQPLead
import Derived.Test.YtabekdfijifnfaaQPLean
import Derived.Test.YtabekdfijifnfaaQPLeanD
import Derived.Test.YtabekdfijifnfaaQPLeanB
import Derived.Test.YtabekdfijifnfaaQPIntakeL
import Derived.Test.YtabekdfijifnfaaQPOutS
import Derived.Test.YtabekdfijifnfaaQPOutlet
import Derived.Test.YtabekdfijifnfaaQPLawO
import Derived.Test.YtabekdfijifnfaaQFGood
set_option linter.unusedVariables false
set_option linter.unusedSimpArgs false
set_option maxRecDepth 100000
namespace Go.VP
open Go Go.VI
theorem outletEncodes_pure (x0 : List S_api_Msg) (g0 : Good_list_api_Msg x0) : g_law25_OutletEncodes (x0, ()) = some ((true, ()), ()) := by
  have g0 : ∀ m ∈ x0, Good_api_Msg m := g0.1.2
  rw [g_law25_OutletEncodes_eq]
  obtain ⟨b, hb, hb'⟩ := fewA_is (a := x0) (k := 40) (by omega) (fun m hm => goodMsgA (g0 m hm))
  rw [hb, Option.bind_some]
  dsimp only
  cases b with
  | false => rw [ifnf]; exact awb25 _
  | true =>
  obtain ⟨hl, hf⟩ := hb' rfl
  have hg := goodAll g0 hf
  rw [ifnt, oenc_is (by omega) hg, Option.bind_some, roenc_is (by omega) hg, Option.bind_some, awb25]
  dsimp only [trip]
  rw [ift, if_pos (by simp), if_pos (by simp), if_pos (by simp), oplain_is (by omega) hg, Option.bind_some, roplain_is (by omega) hg, Option.bind_some]
  simp
end Go.VP
