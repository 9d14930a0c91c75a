/- A message's bytes where anything is known, what is known behind it, and its plain bytes, are the document's: for all arguments. -/
import Derived.Test.YtngoadonappnnaaQFQ8
import Derived.Test.YtngoadonappnnaaQPBase
import Derived.Test.YtngoadonappnnaaQPCur
import Derived.Test.YtngoadonappnnaaQPOct
import Derived.Test.YtngoadonappnnaaQPTlv
import Derived.Test.YtngoadonappnnaaQPSub
import Derived.Test.YtngoadonappnnaaQPMsg
import Derived.Test.YtngoadonappnnaaQPAll
import Derived.Test.YtngoadonappnnaaQPAddr
import Derived.Test.YtngoadonappnnaaQPBits
import Derived.Test.YtngoadonappnnaaQPField
import Derived.Test.YtngoadonappnnaaQPFieldG
import Derived.Test.YtngoadonappnnaaQPFieldB
import Derived.Test.YtngoadonappnnaaQPRoute
import Derived.Test.YtngoadonappnnaaQPRouteG
import Derived.Test.YtngoadonappnnaaQPTake
import Derived.Test.YtngoadonappnnaaQPRouteB
import Derived.Test.YtngoadonappnnaaQPCtx
import Derived.Test.YtngoadonappnnaaQPCtxU
import Derived.Test.YtngoadonappnnaaQPCtxV
import Derived.Test.YtngoadonappnnaaQPCtxW
import Derived.Test.YtngoadonappnnaaQPCtxX
import Derived.Test.YtngoadonappnnaaQPIntake
import Derived.Test.YtngoadonappnnaaQPFold
import Derived.Test.YtngoadonappnnaaQPParts
import Derived.Test.YtngoadonappnnaaQPOk
import Derived.Test.YtngoadonappnnaaQPUpd
import Derived.Test.YtngoadonappnnaaQPLeanR
import Derived.Test.YtngoadonappnnaaQPCtxL
import Derived.Test.YtngoadonappnnaaQPLead
import Derived.Test.YtngoadonappnnaaQPLean
import Derived.Test.YtngoadonappnnaaQPLeanD
import Derived.Test.YtngoadonappnnaaQPLeanB
import Derived.Test.YtngoadonappnnaaQPLeanT
import Derived.Test.YtngoadonappnnaaQFGood
set_option linter.unusedVariables false
set_option linter.unusedSimpArgs false
set_option maxRecDepth 100000
namespace Go.VP
open Go Go.VI
theorem aw24_go : ((g_law24_awake ()).bind fun r5 => some ((r5.1.1, ()), ())) = (some ((true, ()), ()) : Option ((Bool × Unit) × Unit)) := awb24 _
theorem leanTells_pure (x0 : S_api_Ctx) (g0 : Good_api_Ctx x0) (x1 : S_api_Msg) (g1 : Good_api_Msg x1) : g_law24_LeanTells (x0, x1, ()) = some ((true, ()), ()) := by
  rw [g_law24_LeanTells_eq]
  obtain ⟨b, hb, hb'⟩ := few_is (goodMsgA g1)
  rw [hb, Option.bind_some]
  dsimp only
  cases b with
  | false => rw [ifnf]; exact aw24_go
  | true =>
  have g := goodL g1 (hb' rfl).lite
  rw [ifnt]
  refine dq_step' (fun _ => aw24_go) (fun h1 => ?_)
  rw [rok_is, Option.bind_some]
  dsimp only
  cases hok : okB x0 with
  | false => rw [ifnf]; exact aw24_go
  | true =>
  have hc := okB_iff.1 hok
  rw [ifnt, lput_main hc g, Option.bind_some, rput_main hc g, Option.bind_some, lplain_is g, Option.bind_some, rplain_is g, Option.bind_some, awb24]
  dsimp only
  rw [ift, lright_is g, Option.bind_some, rlright_is g, Option.bind_some]
  dsimp only
  rw [if_pos (by simp), if_pos (by simp), ctx_eqs2, ift, if_pos (by simp), if_pos (by simp)]
  simp
end Go.VP
