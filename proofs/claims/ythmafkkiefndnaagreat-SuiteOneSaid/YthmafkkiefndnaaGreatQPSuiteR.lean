/- The suite: whether a message may be, of any protocol. -/
import Derived.Test.YthmafkkiefndnaaGreatQFQ7
import Derived.Test.YthmafkkiefndnaaGreatQPBase
import Derived.Test.YthmafkkiefndnaaGreatQPCur
import Derived.Test.YthmafkkiefndnaaGreatQPOct
import Derived.Test.YthmafkkiefndnaaGreatQPTlv
import Derived.Test.YthmafkkiefndnaaGreatQPSub
import Derived.Test.YthmafkkiefndnaaGreatQPMsg
import Derived.Test.YthmafkkiefndnaaGreatQPAll
import Derived.Test.YthmafkkiefndnaaGreatQPAddr
import Derived.Test.YthmafkkiefndnaaGreatQPBits
import Derived.Test.YthmafkkiefndnaaGreatQPField
import Derived.Test.YthmafkkiefndnaaGreatQFH
import Derived.Test.YthmafkkiefndnaaGreatQPFieldB
import Derived.Test.YthmafkkiefndnaaGreatQPRoute
import Derived.Test.YthmafkkiefndnaaGreatQPRouteG
import Derived.Test.YthmafkkiefndnaaGreatQFQ3
import Derived.Test.YthmafkkiefndnaaGreatQPCtx
import Derived.Test.YthmafkkiefndnaaGreatQPCtxU
import Derived.Test.YthmafkkiefndnaaGreatQFQ2
import Derived.Test.YthmafkkiefndnaaGreatQPFold
import Derived.Test.YthmafkkiefndnaaGreatQPParts
import Derived.Test.YthmafkkiefndnaaGreatQPUpd
import Derived.Test.YthmafkkiefndnaaGreatQPLeanR
import Derived.Test.YthmafkkiefndnaaGreatQFQ15
import Derived.Test.YthmafkkiefndnaaGreatQFQ5
import Derived.Test.YthmafkkiefndnaaGreatQFQ6
import Derived.Test.YthmafkkiefndnaaGreatQPCtxL
import Derived.Test.YthmafkkiefndnaaGreatQPLean
import Derived.Test.YthmafkkiefndnaaGreatQPRipA
import Derived.Test.YthmafkkiefndnaaGreatQPRipB
import Derived.Test.YthmafkkiefndnaaGreatQPRipC
import Derived.Test.YthmafkkiefndnaaGreatQFQ0
import Derived.Test.YthmafkkiefndnaaGreatQPRipE
import Derived.Test.YthmafkkiefndnaaGreatQPRipF
import Derived.Test.YthmafkkiefndnaaGreatQPExt
import Derived.Test.YthmafkkiefndnaaGreatQPNgA
import Derived.Test.YthmafkkiefndnaaGreatQPNgB
import Derived.Test.YthmafkkiefndnaaGreatQPAodvA
import Derived.Test.YthmafkkiefndnaaGreatQPAodvB
import Derived.Test.YthmafkkiefndnaaGreatQPAodvE
import Derived.Test.YthmafkkiefndnaaGreatQFGood
set_option linter.unusedVariables false
set_option linter.unusedSimpArgs false
set_option maxRecDepth 100000
namespace Go.VP
open Go Go.VI
structure GoodQ (m : Msg) : Prop where
  rip : RM m
  ng : GoodG m
  av : GoodV m
  lean : GoodL m
theorem goodQ {m : Msg} (g : Good_api_Msg m) (h : Few m) : GoodQ m := by
  have hl := h.lite
  have g0 := g
  obtain ⟨g1, g2, g3, g4, g5, g6, g7, g8, g9, g10, g11, g12, g13, g14, g15, g16, g17, g18, g19, g20, g21, g22, g23, _⟩ := g
  have h1 := hl.list
  have h2 := hl.subs
  exact ⟨goodRM g0 h, ⟨g9, g8, g2, by omega, by omega⟩, ⟨g18, g13, g14, g17, g15, by omega, fun d hd => (g22.2 d hd).2.1, hl.fewS, by omega⟩, goodL g0 hl⟩
open Classical in
noncomputable def rightP (p : Int) (m : Msg) : Bool := if p = 1 then rightR m else if p = 2 then ngB m else if p = 3 then avB m else if p = 4 then leanB m else false
theorem sright2_is {p : Int} {m : Msg} (g : GoodQ m) : g_suite_Right (p, m, ()) = some ((rightP p m, ()), ()) := by
  rw [g_suite_Right_eq]
  unfold rightP
  refine bq_step (fun h => by rw [if_pos h, ripRight_is g.rip]; rfl) (fun h1 => ?_)
  rw [if_neg h1]
  refine bq_step (fun h => by rw [if_pos h, ngright_is g.ng]; rfl) (fun h2 => ?_)
  rw [if_neg h2]
  refine bq_step (fun h => by rw [if_pos h, avright_is g.av]; rfl) (fun h3 => ?_)
  rw [if_neg h3]
  refine bq_step (fun h => by rw [if_pos h, lright_is g.lean]; rfl) (fun h4 => ?_)
  rw [if_neg h4]
theorem rightP_kind {p : Int} {m : Msg} (h : rightP p m = true) : (p = 1 ∧ m.kind = 1) ∨ (p = 2 ∧ m.kind = 2) ∨ (p = 3 ∧ 3 ≤ m.kind ∧ m.kind ≤ 6) ∨ (p = 4 ∧ 7 ≤ m.kind ∧ m.kind ≤ 14) := by
  unfold rightP at h
  split at h
  · exact .inl ⟨by assumption, (rightR_true.1 h).1⟩
  split at h
  · exact .inr (.inl ⟨by assumption, (ngR_iff.1 h).kind⟩)
  split at h
  · refine .inr (.inr (.inl ⟨by assumption, ?_⟩))
    unfold avB at h
    simp only [Bool.or_eq_true, rqB_iff, rpB_iff, reB_iff] at h
    rcases h with h | (h | h) | h <;> (have := h.kind; omega)
  split at h
  · refine .inr (.inr (.inr ⟨by assumption, ?_⟩))
    unfold leanB at h
    split at h
    · omega
    split at h
    · omega
    split at h
    · omega
    · have := fieldB_kind h; omega
  · cases h
end Go.VP
