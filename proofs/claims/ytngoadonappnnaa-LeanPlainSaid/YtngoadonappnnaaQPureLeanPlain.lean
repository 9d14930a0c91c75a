/- A message's bytes are never more than its plain ones, which tell it where nothing is known: for all arguments. -/
import Derived.Test.YtngoadonappnnaaQFQ8
import Derived.Test.YtngoadonappnnaaQPBase
import Derived.Test.YtngoadonappnnaaQPCur
import Derived.Test.YtngoadonappnnaaQPOct
import Derived.Test.YtngoadonappnnaaQPTlv
import Derived.Test.YtngoadonappnnaaQPSub
import Derived.Test.YtngoadonappnnaaQPMsg
import Derived.Test.YtngoadonappnnaaQPAll
import Derived.Test.YtngoadonappnnaaQPAddr
import Derived.Test.YtngoadonappnnaaQPBits
import Derived.Test.YtngoadonappnnaaQPField
import Derived.Test.YtngoadonappnnaaQPFieldG
import Derived.Test.YtngoadonappnnaaQPFieldB
import Derived.Test.YtngoadonappnnaaQPRoute
import Derived.Test.YtngoadonappnnaaQPRouteG
import Derived.Test.YtngoadonappnnaaQPTake
import Derived.Test.YtngoadonappnnaaQPRouteB
import Derived.Test.YtngoadonappnnaaQPCtx
import Derived.Test.YtngoadonappnnaaQPCtxU
import Derived.Test.YtngoadonappnnaaQPCtxV
import Derived.Test.YtngoadonappnnaaQPCtxW
import Derived.Test.YtngoadonappnnaaQPCtxX
import Derived.Test.YtngoadonappnnaaQPIntake
import Derived.Test.YtngoadonappnnaaQPFold
import Derived.Test.YtngoadonappnnaaQPParts
import Derived.Test.YtngoadonappnnaaQPOk
import Derived.Test.YtngoadonappnnaaQPUpd
import Derived.Test.YtngoadonappnnaaQPLeanR
import Derived.Test.YtngoadonappnnaaQPCtxL
import Derived.Test.YtngoadonappnnaaQPLead
import Derived.Test.YtngoadonappnnaaQPLean
import Derived.Test.YtngoadonappnnaaQPLeanD
import Derived.Test.YtngoadonappnnaaQPLeanB
import Derived.Test.YtngoadonappnnaaQPLeanT
import Derived.Test.YtngoadonappnnaaQFGood
set_option linter.unusedVariables false
set_option linter.unusedSimpArgs false
set_option maxRecDepth 100000
namespace Go.VP
open Go Go.VI
theorem aw24_go : ((g_law24_awake ()).bind fun r5 => some ((r5.1.1, ()), ())) = (some ((true, ()), ()) : Option ((Bool × Unit) × Unit)) := awb24 _
theorem plain_no {m : Msg} (h : leanB m = false) : plainL m = ([], false) := by unfold plainL; rw [if_pos h]
theorem plain_yes {m : Msg} (h : leanB m = true) : (plainL m).2 = true := by
  unfold plainL
  rw [h, if_neg (show ¬ (true = false) by simp)]
  split <;> rfl
theorem leanPlain_pure (x0 : S_api_Ctx) (g0 : Good_api_Ctx x0) (x1 : S_api_Msg) (g1 : Good_api_Msg x1) : g_law24_LeanPlain (x0, x1, ()) = some ((true, ()), ()) := by
  rw [g_law24_LeanPlain_eq]
  obtain ⟨b, hb, hb'⟩ := few_is (goodMsgA g1)
  rw [hb, Option.bind_some]
  dsimp only
  cases b with
  | false => rw [ifnf]; exact aw24_go
  | true =>
  have g := goodL g1 (hb' rfl).lite
  rw [ifnt]
  refine dq_step' (fun _ => aw24_go) (fun h1 => ?_)
  rw [rok_is, Option.bind_some]
  dsimp only
  cases hok : okB x0 with
  | false => rw [ifnf]; exact aw24_go
  | true =>
  have hc := okB_iff.1 hok
  rw [ifnt, lput_main hc g, Option.bind_some, lplain_is g, Option.bind_some, lright_is g, Option.bind_some]
  dsimp only
  cases hl : leanB x1 with
  | false =>
    have hp := plain_no hl
    have he : putL x0 x1 = ([], x0, 1) := by unfold putL; rw [if_pos hl]
    rw [hp, he]
    dsimp only
    rw [if_neg (by decide), iff_]
    refine bq_step (fun h => absurd h (by decide)) (fun _ => ?_)
    rw [ifnf, awb24]; rfl
  | true =>
    have hR := leanR_iff.1 hl
    have h2 := plain_yes hl
    have hpl := plainL_len x1
    have hs := plainL_back (c := ⟨[], [], [], [], [], [], []⟩) okC_none hR (fun _ _ _ => by unfold nextC; split <;> rfl)
    have hsh := @putL_short x0 x1 hR
    have her := @putL_err x0 x1
    rw [h2, if_neg (by decide), ift]
    have last : ((g_law24_take ((S_api_Ctx.mk ([] : List UInt8) ([] : List UInt8) ([] : List UInt8) ([] : List UInt8) ([] : List UInt8) ([] : List UInt8) ([] : List UInt8)), (plainL x1).1, ())).bind fun r10 => ((g_law24_awake ()).bind fun r11 => (if r11.1.1 = true then (if r10.1.2.2.1 = true then (if ((r10.1.1.length : Int) == 1) = true then (r10.1.1[0]?.bind fun (y12 : S_api_Msg) => ((g_ref07_Same (y12, x1, ())).bind fun r13 => some ((r13.1.1, ()), ()))) else some ((false, ()), ())) else some ((false, ()), ())) else some ((false, ()), ())))) = (some ((true, ()), ()) : Option ((Bool × Unit) × Unit)) := by
      rw [rtake24_is okC_none (by omega) hs, Option.bind_some, awb24]
      dsimp only
      rw [ift, ift]
      refine bq_step (fun _ => ?_) (fun h => absurd rfl h)
      have hg : ([x1] : List Msg)[0]? = some x1 := rfl
      rw [hg, Option.bind_some, same_is g.small'.1 g.small'.2, eqB_refl]; rfl
    generalize putL x0 x1 = P at *
    refine ne_step (fun he => ?_) (fun he => ?_)
    · obtain ⟨e1, e2, e3, e4⟩ := her he
      have h9 : P.2.2 = 9 := by
        rcases e3 with e | e
        · have := e4.1 e; rw [hl] at this; cases this
        · exact e
      refine ne_step (fun h => absurd h9 h) (fun _ => ?_)
      refine bq_step (fun h => absurd h he) (fun _ => ?_)
      rw [ifnt]; exact last
    · refine bq_step (fun _ => ?_) (fun h => absurd he h)
      have := hsh he
      rw [ifn (by omega), ifnt]; exact last
end Go.VP
