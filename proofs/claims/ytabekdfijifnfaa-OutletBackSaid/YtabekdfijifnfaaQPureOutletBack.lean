/- Messages that have a datagram are read of it, and it has no more bytes than the plain one: for all arguments. -/
import Derived.Test.YtabekdfijifnfaaQFQ9
import Derived.Test.YtabekdfijifnfaaQPBase
import Derived.Test.YtabekdfijifnfaaQPCur
import Derived.Test.YtabekdfijifnfaaQPOct
import Derived.Test.YtabekdfijifnfaaQPTlv
import Derived.Test.YtabekdfijifnfaaQPSub
import Derived.Test.YtabekdfijifnfaaQPMsg
import Derived.Test.YtabekdfijifnfaaQPAll
import Derived.Test.YtabekdfijifnfaaQPWrap
import Derived.Test.YtabekdfijifnfaaQPBody
import Derived.Test.YtabekdfijifnfaaQFH
import Derived.Test.YtabekdfijifnfaaQPAddr
import Derived.Test.YtabekdfijifnfaaQPBits
import Derived.Test.YtabekdfijifnfaaQPField
import Derived.Test.YtabekdfijifnfaaQPFieldG
import Derived.Test.YtabekdfijifnfaaQPRoute
import Derived.Test.YtabekdfijifnfaaQPRouteG
import Derived.Test.YtabekdfijifnfaaQPTake
import Derived.Test.YtabekdfijifnfaaQPRouteB
import Derived.Test.YtabekdfijifnfaaQPCtx
import Derived.Test.YtabekdfijifnfaaQPCtxU
import Derived.Test.YtabekdfijifnfaaQPFieldB
import Derived.Test.YtabekdfijifnfaaQPCtxV
import Derived.Test.YtabekdfijifnfaaQPCtxW
import Derived.Test.YtabekdfijifnfaaQPCtxX
import Derived.Test.YtabekdfijifnfaaQPIntake
import Derived.Test.YtabekdfijifnfaaQPFold
import Derived.Test.YtabekdfijifnfaaQPParts
import Derived.Test.YtabekdfijifnfaaQPUpd
import Derived.Test.YtabekdfijifnfaaQPLeanR
import Derived.Test.YtabekdfijifnfaaQPCtxL
import Derived.Test.YtabekdfijifnfaaQPLead
import Derived.Test.YtabekdfijifnfaaQPLean
import Derived.Test.YtabekdfijifnfaaQPLeanD
import Derived.Test.YtabekdfijifnfaaQPLeanB
import Derived.Test.YtabekdfijifnfaaQPIntakeL
import Derived.Test.YtabekdfijifnfaaQPOutS
import Derived.Test.YtabekdfijifnfaaQPOutlet
import Derived.Test.YtabekdfijifnfaaQPLawO
import Derived.Test.YtabekdfijifnfaaQFGood
set_option linter.unusedVariables false
set_option linter.unusedSimpArgs false
set_option maxRecDepth 100000
namespace Go.VP
open Go Go.VI
theorem outletBack_pure (x0 : List S_api_Msg) (g0 : Good_list_api_Msg x0) : g_law25_OutletBack (x0, ()) = some ((true, ()), ()) := by
  have g0 : ∀ m ∈ x0, Good_api_Msg m := g0.1.2
  rw [g_law25_OutletBack_eq]
  obtain ⟨b, hb, hb'⟩ := fewA_is (a := x0) (k := 40) (by omega) (fun m hm => goodMsgA (g0 m hm))
  rw [hb, Option.bind_some]
  dsimp only
  cases b with
  | false => rw [ifnf]; exact awb25 _
  | true =>
  obtain ⟨hl, hf⟩ := hb' rfl
  have hg := goodAll g0 hf
  rw [ifnt, oenc_is (by omega) hg, Option.bind_some]
  dsimp only [trip]
  refine ne_step (fun he => ?_) (fun he => ?_)
  · obtain ⟨e1, e2, e3, e4⟩ := encO_err he
    have hz := (plainGo_zero (l := x0) (n := 4) (by omega)).1
    rw [awb25]
    dsimp only
    rw [ift, e1, if_pos (by simp), ifd e2, ifd e3, oplain_is (by omega) hg, Option.bind_some]
    dsimp only
    have : ((encO x0).2.2 == 1) = (plainGo x0 4 == 0) := by
      rw [Bool.eq_iff_iff]; simp only [beq_iff_eq]; exact e4.trans hz.symm
    rw [this]; simp
  · obtain ⟨hB, s, d, h1, h2, h3, h4, h5⟩ := encO_ok he
    have hp := parse_out h4 h2
    have hsh := outS_short (n := 4) hB h1
    rw [h3] at h5 ⊢
    dsimp only at h5 ⊢
    rw [riparse_is, Option.bind_some, awb25, hp]
    dsimp only [trip]
    rw [ift]
    refine bq_step (fun _ => ?_) (fun q => absurd rfl q)
    rw [sameA_is (by omega) (fun m hm => (hg m hm).small), Option.bind_some]
    dsimp only
    rw [ift, oplain_is (by omega) hg, Option.bind_some]
    dsimp only
    rw [ifd (by omega), decide_eq_true (by omega)]
end Go.VP
