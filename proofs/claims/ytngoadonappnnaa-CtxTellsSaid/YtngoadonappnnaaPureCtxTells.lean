/- Whether any such thing, and any message, may be, and what any TLV makes of it, are the document's: for all arguments. -/
import Derived.Test.YtngoadonappnnaaFQ9
import Derived.Test.YtngoadonappnnaaPBase
import Derived.Test.YtngoadonappnnaaPCur
import Derived.Test.YtngoadonappnnaaPOct
import Derived.Test.YtngoadonappnnaaPTlv
import Derived.Test.YtngoadonappnnaaPSub
import Derived.Test.YtngoadonappnnaaPMsg
import Derived.Test.YtngoadonappnnaaPAll
import Derived.Test.YtngoadonappnnaaPAddr
import Derived.Test.YtngoadonappnnaaPBits
import Derived.Test.YtngoadonappnnaaPField
import Derived.Test.YtngoadonappnnaaPFieldG
import Derived.Test.YtngoadonappnnaaPFieldB
import Derived.Test.YtngoadonappnnaaPRoute
import Derived.Test.YtngoadonappnnaaPRouteG
import Derived.Test.YtngoadonappnnaaPTake
import Derived.Test.YtngoadonappnnaaPRouteB
import Derived.Test.YtngoadonappnnaaPCtx
import Derived.Test.YtngoadonappnnaaPCtxU
import Derived.Test.YtngoadonappnnaaPOk
import Derived.Test.YtngoadonappnnaaPCtxV
import Derived.Test.YtngoadonappnnaaPCtxW
import Derived.Test.YtngoadonappnnaaPCtxX
import Derived.Test.YtngoadonappnnaaPIntake
import Derived.Test.YtngoadonappnnaaPFold
import Derived.Test.YtngoadonappnnaaPParts
import Derived.Test.YtngoadonappnnaaPUpd
import Derived.Test.YtngoadonappnnaaPLeanR
import Derived.Test.YtngoadonappnnaaPCtxL
import Derived.Test.YtngoadonappnnaaFGood
set_option linter.unusedVariables false
set_option linter.unusedSimpArgs false
set_option maxRecDepth 100000
namespace Go.VP
open Go Go.VI
theorem ctxTells_pure (x0 : S_api_Ctx) (g0 : Good_api_Ctx x0) (x1 : S_api_Tlv) (g1 : Good_api_Tlv x1) (x2 : S_api_Msg) (g2 : Good_api_Msg x2) : g_law22_CtxTells (x0, x1, x2, ()) = some ((true, ()), ()) := by
  rw [g_law22_CtxTells_eq]
  obtain ⟨b, hb, hb'⟩ := few_is (goodMsgA g2)
  rw [hb, Option.bind_some]
  dsimp only
  cases b with
  | false => rw [ifnf]; exact awb22 _
  | true =>
  have gl := goodL g2 (hb' rfl).lite
  rw [ifnt]
  refine dq_step' (fun _ => awb22 _) (fun h1 => ?_)
  refine dq_step' (fun _ => awb22 _) (fun h2 => ?_)
  rw [okp_is, Option.bind_some, rok_is, Option.bind_some]
  dsimp only
  rw [if_neg (by simp), cright_is gl, Option.bind_some, rcright_is gl (.inr (.inr trivial)), Option.bind_some]
  dsimp only
  rw [if_neg (by simp), cfam_is, Option.bind_some, rcfam_is, Option.bind_some]
  dsimp only
  rw [if_neg (by simp), Option.bind_some]
  dsimp only
  cases hok : okB x0 with
  | false => rw [ifnf]; exact awb22 _
  | true =>
  have hc := okB_iff.1 hok
  rw [ifnt]
  refine dq_step' (fun _ => awb22 _) (fun h3 => ?_)
  refine dq_step' (fun _ => awb22 _) (fun h4 => ?_)
  obtain ⟨ty, at_, d⟩ := x1
  dsimp only at h1 h3 h4
  rw [cstep_is hc (by omega), Option.bind_some, rcstep_is hc (by omega) (by omega), Option.bind_some, awb22]
  dsimp only
  have hs : (stepC x0 ty d).2.1.length ≤ 1 ∧ ∀ m ∈ (stepC x0 ty d).2.1, Small m := by
    rcases stepC_cases (ty := ty) (d := d) hc (by omega) with h | ⟨m, h, _, hg, _⟩
    · rw [h]; exact ⟨by simp, fun m hm => by cases hm⟩
    · rw [h]; exact ⟨by simp, fun x hx => by rw [List.mem_singleton] at hx; subst hx; exact hg.small'⟩
  rw [ift, ctx_eqs2, ift, sameA_is (by omega) hs.2, Option.bind_some]
  dsimp only
  rw [ift]; simp
end Go.VP
