/- A message's bytes, taken where that is known, tell it alone, and leave behind them what Put tells: for all arguments. -/
import Derived.Test.YtngoadonappnnaaQFQ5
import Derived.Test.YtngoadonappnnaaQPBase
import Derived.Test.YtngoadonappnnaaQPCur
import Derived.Test.YtngoadonappnnaaQPOct
import Derived.Test.YtngoadonappnnaaQPTlv
import Derived.Test.YtngoadonappnnaaQPSub
import Derived.Test.YtngoadonappnnaaQPMsg
import Derived.Test.YtngoadonappnnaaQPAll
import Derived.Test.YtngoadonappnnaaQPAddr
import Derived.Test.YtngoadonappnnaaQPBits
import Derived.Test.YtngoadonappnnaaQPField
import Derived.Test.YtngoadonappnnaaQPFieldG
import Derived.Test.YtngoadonappnnaaQPFieldB
import Derived.Test.YtngoadonappnnaaQPRoute
import Derived.Test.YtngoadonappnnaaQPRouteG
import Derived.Test.YtngoadonappnnaaQPTake
import Derived.Test.YtngoadonappnnaaQPRouteB
import Derived.Test.YtngoadonappnnaaQPCtx
import Derived.Test.YtngoadonappnnaaQPCtxU
import Derived.Test.YtngoadonappnnaaQPCtxV
import Derived.Test.YtngoadonappnnaaQPCtxW
import Derived.Test.YtngoadonappnnaaQPCtxX
import Derived.Test.YtngoadonappnnaaQPIntake
import Derived.Test.YtngoadonappnnaaQPFold
import Derived.Test.YtngoadonappnnaaQPParts
import Derived.Test.YtngoadonappnnaaQPOk
import Derived.Test.YtngoadonappnnaaQPUpd
import Derived.Test.YtngoadonappnnaaQPLeanR
import Derived.Test.YtngoadonappnnaaQPCtxL
import Derived.Test.YtngoadonappnnaaQPLead
import Derived.Test.YtngoadonappnnaaQPLean
import Derived.Test.YtngoadonappnnaaQPLeanD
import Derived.Test.YtngoadonappnnaaQPLeanB
import Derived.Test.YtngoadonappnnaaQPLeanT
import Derived.Test.YtngoadonappnnaaQFGood
set_option linter.unusedVariables false
set_option linter.unusedSimpArgs false
set_option maxRecDepth 100000
namespace Go.VP
open Go Go.VI
theorem aw24_go : ((g_law24_awake ()).bind fun r5 => some ((r5.1.1, ()), ())) = (some ((true, ()), ()) : Option ((Bool × Unit) × Unit)) := awb24 _
theorem leanBack_pure (x0 : S_api_Ctx) (g0 : Good_api_Ctx x0) (x1 : S_api_Msg) (g1 : Good_api_Msg x1) : g_law24_LeanBack (x0, x1, ()) = some ((true, ()), ()) := by
  rw [g_law24_LeanBack_eq]
  obtain ⟨b, hb, hb'⟩ := few_is (goodMsgA g1)
  rw [hb, Option.bind_some]
  dsimp only
  cases b with
  | false => rw [ifnf]; exact aw24_go
  | true =>
  have g := goodL g1 (hb' rfl).lite
  rw [ifnt]
  refine dq_step' (fun _ => aw24_go) (fun h1 => ?_)
  rw [rok_is, Option.bind_some]
  dsimp only
  cases hok : okB x0 with
  | false => rw [ifnf]; exact aw24_go
  | true =>
  have hc := okB_iff.1 hok
  rw [ifnt, lput_main hc g, Option.bind_some]
  dsimp only
  refine ne_step (fun he => ?_) (fun he => ?_)
  · obtain ⟨e1, e2, e3, e4⟩ := putL_err he
    rw [awb24]
    dsimp only
    rw [ift, e1, if_pos (by simp), e2, ctx_eqs2, ift, lright_is g, Option.bind_some]
    dsimp only
    have : ((putL x0 x1).2.2 == 1) = !leanB x1 := by
      rw [Bool.eq_iff_iff]; simp [e4]
    rw [this]; simp
  · have hR : LeanR x1 := by
      cases hl : leanB x1 with
      | true => exact leanR_iff.1 hl
      | false => unfold putL at he; rw [hl, if_pos rfl] at he; exact absurd he (show ¬ ((1 : Int) = 0) by decide)
    have hs := putL_back hc hR he
    have hd := putL_ok hc hR
    have hlen := putL_len x0 x1
    rw [rtake24_is hc (by omega) hs, Option.bind_some, awb24]
    dsimp only
    rw [ift, ift, ctx_eqs2, ift, rok_is, okB_iff.2 hd, Option.bind_some]
    dsimp only
    rw [ift]
    refine bq_step (fun _ => ?_) (fun h => absurd rfl h)
    have hg : ([x1] : List Msg)[0]? = some x1 := rfl
    rw [hg, Option.bind_some, same_is g.small'.1 g.small'.2, eqB_refl]; rfl
end Go.VP
