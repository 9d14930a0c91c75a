/- The first messages of a list have a datagram whose body the whole one's begins with: for all arguments. -/
import Derived.Test.YtabekdfijifnfaaQFQ9
import Derived.Test.YtabekdfijifnfaaQPBase
import Derived.Test.YtabekdfijifnfaaQPCur
import Derived.Test.YtabekdfijifnfaaQPOct
import Derived.Test.YtabekdfijifnfaaQPTlv
import Derived.Test.YtabekdfijifnfaaQPSub
import Derived.Test.YtabekdfijifnfaaQPMsg
import Derived.Test.YtabekdfijifnfaaQPAll
import Derived.Test.YtabekdfijifnfaaQPWrap
import Derived.Test.YtabekdfijifnfaaQPBody
import Derived.Test.YtabekdfijifnfaaQFH
import Derived.Test.YtabekdfijifnfaaQPAddr
import Derived.Test.YtabekdfijifnfaaQPBits
import Derived.Test.YtabekdfijifnfaaQPField
import Derived.Test.YtabekdfijifnfaaQPFieldG
import Derived.Test.YtabekdfijifnfaaQPRoute
import Derived.Test.YtabekdfijifnfaaQPRouteG
import Derived.Test.YtabekdfijifnfaaQPTake
import Derived.Test.YtabekdfijifnfaaQPRouteB
import Derived.Test.YtabekdfijifnfaaQPCtx
import Derived.Test.YtabekdfijifnfaaQPCtxU
import Derived.Test.YtabekdfijifnfaaQPFieldB
import Derived.Test.YtabekdfijifnfaaQPCtxV
import Derived.Test.YtabekdfijifnfaaQPCtxW
import Derived.Test.YtabekdfijifnfaaQPCtxX
import Derived.Test.YtabekdfijifnfaaQPIntake
import Derived.Test.YtabekdfijifnfaaQPFold
import Derived.Test.YtabekdfijifnfaaQPParts
import Derived.Test.YtabekdfijifnfaaQPUpd
import Derived.Test.YtabekdfijifnfaaQPLeanR
import Derived.Test.YtabekdfijifnfaaQPCtxL
import Derived.Test.YtabekdfijifnfaaQPLead
import Derived.Test.YtabekdfijifnfaaQPLean
import Derived.Test.YtabekdfijifnfaaQPLeanD
import Derived.Test.YtabekdfijifnfaaQPLeanB
import Derived.Test.YtabekdfijifnfaaQPIntakeL
import Derived.Test.YtabekdfijifnfaaQPOutS
import Derived.Test.YtabekdfijifnfaaQPOutlet
import Derived.Test.YtabekdfijifnfaaQPLawO
import Derived.Test.YtabekdfijifnfaaQFGood
set_option linter.unusedVariables false
set_option linter.unusedSimpArgs false
set_option maxRecDepth 100000
namespace Go.VP
open Go Go.VI
theorem outletFirst_pure (x0 : List S_api_Msg) (g0 : Good_list_api_Msg x0) (x1 : Int) (g1 : Good_uint8 x1) : g_law25_OutletFirst (x0, x1, ()) = some ((true, ()), ()) := by
  have g0 : ∀ m ∈ x0, Good_api_Msg m := g0.1.2
  have hx : 0 ≤ x1 ∧ x1 ≤ 255 := has8.1 g1.1
  rw [g_law25_OutletFirst_eq]
  obtain ⟨b, hb, hb'⟩ := fewA_is (a := x0) (k := 40) (by omega) (fun m hm => goodMsgA (g0 m hm))
  rw [hb, Option.bind_some]
  dsimp only
  cases b with
  | false => rw [ifnf]; exact awb25 _
  | true =>
  obtain ⟨hl, hf⟩ := hb' rfl
  have hg := goodAll g0 hf
  have hmod : (IntKind.wrap .i64 x1).tmod (IntKind.wrap .i64 ((x0.length : Int) + 1)) = x1 % (x0.length + 1) := by
    rw [w64 (by omega) (by omega), w64 (by omega) (by omega), Int.tmod_eq_emod_of_nonneg (by omega)]
  obtain ⟨k, hk⟩ : ∃ k : Nat, x1 % ((x0.length : Int) + 1) = (k : Int) := ⟨(x1 % ((x0.length : Int) + 1)).toNat, by have := Int.emod_nonneg x1 (show (x0.length : Int) + 1 ≠ 0 by omega); omega⟩
  have hkl : k ≤ x0.length := by have := Int.emod_lt_of_pos x1 (show 0 < (x0.length : Int) + 1 by omega); omega
  have hp : 0 ≤ (k : Int) ∧ (k : Int) ≤ (x0.length : Int) := by omega
  have hg1 : ∀ m ∈ x0.take k, GoodL m := fun m hm => hg m (List.mem_of_mem_take hm)
  rw [ifnt, if_pos (by rw [w64 (by omega) (by omega)]; omega), hmod, hk, oenc_is (by omega) hg, Option.bind_some, if_pos hp, Int.toNat_natCast, oenc_is (by rw [List.length_take]; omega) hg1, Option.bind_some]
  dsimp only [trip]
  refine ne_step (fun _ => awb25 _) (fun he => ?_)
  obtain ⟨hB, s, d, h1, h2, h3, h4, h5⟩ := encO_ok he
  rw [← List.take_append_drop k x0] at h1
  obtain ⟨s1, d1, s2, q1, q2, q3⟩ := outS_app h1
  have hs1 : (s1.length : Int) ≤ 65531 := by rw [q3, List.length_append] at h2; omega
  have hpre := encO_of (l := x0.take k) (fun m hm => hB m (List.mem_of_mem_take hm)) q1 hs1
  have hb1 := (body_wrap (s := s) (t := []) (by omega) (by simp; omega)).1
  have hb2 := (body_wrap (s := s1) (t := []) (by omega) (by simp; omega)).1
  rw [List.append_nil] at hb1 hb2
  rw [h3, hpre]
  dsimp only
  rw [rbody_is, Option.bind_some, rbody_is, Option.bind_some, awb25, hb1, hb2]
  dsimp only [trip]
  have hle : s1.length ≤ s.length := by rw [q3, List.length_append]; omega
  rw [ift]
  refine bq_step (fun _ => ?_) (fun q => absurd rfl q)
  refine bq_step (fun _ => ?_) (fun q => absurd rfl q)
  refine bq_step (fun _ => ?_) (fun q => absurd rfl q)
  rw [ifd (by omega), if_pos (by omega), Int.toNat_natCast, q3, List.take_left]
  simp
end Go.VP
