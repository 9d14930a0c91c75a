/- What is laid of a message where something is known: program and document. -/
import Derived.Test.YthmafkkiefndnaaGreatQFH
import Derived.Test.YthmafkkiefndnaaGreatQFQ6
import Derived.Test.YthmafkkiefndnaaGreatQPBase
import Derived.Test.YthmafkkiefndnaaGreatQPCur
import Derived.Test.YthmafkkiefndnaaGreatQPOct
import Derived.Test.YthmafkkiefndnaaGreatQPTlv
import Derived.Test.YthmafkkiefndnaaGreatQPSub
import Derived.Test.YthmafkkiefndnaaGreatQPMsg
import Derived.Test.YthmafkkiefndnaaGreatQPAll
import Derived.Test.YthmafkkiefndnaaGreatQFQ15
import Derived.Test.YthmafkkiefndnaaGreatQFQ5
import Derived.Test.YthmafkkiefndnaaGreatQFQ3
import Derived.Test.YthmafkkiefndnaaGreatQPAddr
import Derived.Test.YthmafkkiefndnaaGreatQPBits
import Derived.Test.YthmafkkiefndnaaGreatQPField
import Derived.Test.YthmafkkiefndnaaGreatQPFieldB
import Derived.Test.YthmafkkiefndnaaGreatQPRoute
import Derived.Test.YthmafkkiefndnaaGreatQPRouteG
import Derived.Test.YthmafkkiefndnaaGreatQPCtx
import Derived.Test.YthmafkkiefndnaaGreatQPCtxU
import Derived.Test.YthmafkkiefndnaaGreatQFQ2
import Derived.Test.YthmafkkiefndnaaGreatQPFold
import Derived.Test.YthmafkkiefndnaaGreatQPParts
import Derived.Test.YthmafkkiefndnaaGreatQPUpd
import Derived.Test.YthmafkkiefndnaaGreatQPLeanR
import Derived.Test.YthmafkkiefndnaaGreatQPCtxL
set_option linter.unusedVariables false
set_option linter.unusedSimpArgs false
set_option maxRecDepth 100000
namespace Go.VP
open Go Go.VI
noncomputable def opqB (m : Msg) : Bool := bareB m && (decide (10 < m.type_) && (decide (m.type_ < 256) && decide (m.data.length < 256)))
noncomputable def leanB (m : Msg) : Bool := if m.kind = 11 then updB m else if m.kind = 12 ∨ m.kind = 13 then routeB m else if m.kind = 14 then opqB m else fieldB m
theorem fieldB_kind {m : Msg} (h : fieldB m = true) : 7 ≤ m.kind ∧ m.kind ≤ 10 := by
  rcases (fieldR_iff.1 h).kinds with h | h | ⟨h, _⟩ | ⟨h, _⟩ <;> omega
theorem lright_is {m : Msg} (g : GoodL m) : g_lean_Right (m, ()) = some ((leanB m, ()), ()) := by
  have op : (if bareB m = true then (if (decide (10 < m.type_)) = true then (if (decide (m.type_ < 256)) = true then some (((decide ((m.data.length : Int) < 256)), ()), ()) else some ((false, ()), ())) else some ((false, ()), ())) else some ((false, ()), ())) = (some ((opqB m, ()), ()) : Option ((Bool × Unit) × Unit)) := by
    unfold opqB
    have e : decide ((m.data.length : Int) < 256) = decide (m.data.length < 256) := by rw [Bool.eq_iff_iff]; simp; omega
    rw [e]
    cases bareB m
    · rfl
    cases decide (10 < m.type_)
    · rfl
    cases decide (m.type_ < 256)
    · rfl
    · rfl
  rw [g_lean_Right_eq, cright_is g, rtright_is g.good, bare_is, right_is g.good]
  simp only [Option.bind_some, op]
  unfold leanB
  refine bq_step (fun h => by rw [if_pos h]) (fun h => ?_)
  rw [if_neg h]
  refine bq_step (fun h2 => ?_) (fun h2 => ?_)
  · rw [if_pos (by simp [h2]), if_pos (.inl h2)]
  · refine bq_step (fun h3 => by rw [if_pos (.inr h3)]) (fun h3 => ?_)
    rw [if_neg (show ¬ (m.kind = 12 ∨ m.kind = 13) by omega)]
    exact bq_step (fun h4 => by rw [if_pos h4]) (fun h4 => by rw [if_neg h4])
theorem UpdR.fam {m : Msg} (h : UpdR m) (hm : m.metric ≠ 65535) : (famE m.ae = 0 ∨ famE m.ae = 1) ∧ (m.next ≠ [] → (famE m.ae = 0 ∧ m.next.length = 4) ∨ (famE m.ae = 1 ∧ m.next.length = 16)) := by
  have hn := h.near hm
  have hf := famE_rng (ae := m.ae) (by have := h.pre.1; omega)
  refine ⟨by omega, fun hne => ?_⟩
  exact famF_cases (by rcases hn.2.2 with q | q; exact absurd q hne; exact q) (by omega)
end Go.VP
