/- What a parser of Babel knows: whether it may be. -/
import Derived.Test.YtngoadonappnnaaQFQ2
import Derived.Test.YtngoadonappnnaaQPBase
import Derived.Test.YtngoadonappnnaaQPCur
import Derived.Test.YtngoadonappnnaaQPOct
import Derived.Test.YtngoadonappnnaaQPTlv
import Derived.Test.YtngoadonappnnaaQPSub
import Derived.Test.YtngoadonappnnaaQPMsg
import Derived.Test.YtngoadonappnnaaQPAddr
import Derived.Test.YtngoadonappnnaaQPBits
import Derived.Test.YtngoadonappnnaaQPField
import Derived.Test.YtngoadonappnnaaQPFieldG
import Derived.Test.YtngoadonappnnaaQPRoute
import Derived.Test.YtngoadonappnnaaQPRouteG
import Derived.Test.YtngoadonappnnaaQPTake
import Derived.Test.YtngoadonappnnaaQPRouteB
import Derived.Test.YtngoadonappnnaaQPCtx
import Derived.Test.YtngoadonappnnaaQPCtxU
set_option linter.unusedVariables false
set_option linter.unusedSimpArgs false
set_option maxRecDepth 100000
namespace Go.VP
open Go Go.VI
def okB (c : Ctx) : Bool := decide (c.prefix_c0 = []) && (decide (c.prefix_c1 = [] ∨ c.prefix_c1.length = 4) && (decide (c.prefix_c2 = [] ∨ c.prefix_c2.length = 16) && (decide (c.prefix_c3 = [] ∨ linkB c.prefix_c3 = true) && (decide (c.next_c0 = [] ∨ c.next_c0.length = 4) && (decide (c.next_c1 = [] ∨ c.next_c1.length = 16) && decide (c.id = [] ∨ c.id.length = 8))))))
theorem okB_iff {c : Ctx} : okB c = true ↔ okC c := by
  unfold okB okC
  simp only [Bool.and_eq_true, decide_eq_true_eq]
theorem ei_step {R : Type} {x : Bs} {k : Nat} {T F r : R} (h : x = [] ∨ x.length = k → T = r) (h' : ¬ (x = [] ∨ x.length = k) → F = r) : (if (!(x == ([] : Bs))) = true then (if ((x.length : Int) != (k : Int)) = true then F else T) else T) = r := by
  by_cases h1 : x = []
  · rw [if_neg (by simp [h1])]; exact h (.inl h1)
  · rw [if_pos (by simp [h1])]
    refine ne_step (fun e => h' (fun q => ?_)) (fun e => h (.inr (by omega)))
    rcases q with q | q
    · exact h1 q
    · exact e (by omega)
theorem ej_step {R : Type} {x : Bs} {k : Nat} {T F r : R} (h : x = [] ∨ x.length = k → T = r) (h' : ¬ (x = [] ∨ x.length = k) → F = r) : (if (x == ([] : Bs)) = true then T else (if ((x.length : Int) == (k : Int)) = true then T else F)) = r := by
  by_cases h1 : x = []
  · rw [if_pos (by simp [h1])]; exact h (.inl h1)
  · rw [if_neg (by simpa using h1)]
    refine bq_step (fun e => h (.inr (by omega))) (fun e => h' (fun q => ?_))
    rcases q with q | q
    · exact h1 q
    · exact e (by omega)
theorem ok_last {x : Bs} : (if (x == ([] : Bs)) = true then (some ((true, ()), ()) : Option ((Bool × Unit) × Unit)) else some (((x.length : Int) == 8, ()), ())) = some ((decide (x = [] ∨ x.length = 8), ()), ()) := by
  by_cases h1 : x = []
  · rw [if_pos (by simp [h1]), decide_eq_true (.inl h1)]
  · rw [if_neg (by simpa using h1)]
    have : ((x.length : Int) == 8) = decide (x = [] ∨ x.length = 8) := by
      rw [Bool.eq_iff_iff]; simp [h1]; omega
    rw [this]
theorem rok_is (c : Ctx) : g_ref22_Ok (c, ()) = some ((okB c, ()), ()) := by
  rw [g_ref22_Ok_eq]
  unfold okB
  simp only [rlink_is, Option.bind_some]
  by_cases h0 : c.prefix_c0 = []
  rotate_left
  · rw [if_pos (by simp [h0]), decide_eq_false h0, Bool.false_and]
  rw [if_neg (by simp [h0]), decide_eq_true h0, Bool.true_and]
  refine ei_step (k := 4) (fun h => ?_) (fun h => by rw [decide_eq_false h, Bool.false_and])
  rw [decide_eq_true h, Bool.true_and]
  refine ei_step (k := 16) (fun h => ?_) (fun h => by rw [decide_eq_false h, Bool.false_and])
  rw [decide_eq_true h, Bool.true_and]
  have key : ∀ (T F r : Option ((Bool × Unit) × Unit)), ((c.prefix_c3 = [] ∨ linkB c.prefix_c3 = true) → T = r) → (¬ (c.prefix_c3 = [] ∨ linkB c.prefix_c3 = true) → F = r) → (if (!(c.prefix_c3 == ([] : Bs))) = true then (if (!linkB c.prefix_c3) = true then F else T) else T) = r := fun T F r h h' => by
    by_cases h1 : c.prefix_c3 = []
    · rw [if_neg (by simp [h1])]; exact h (.inl h1)
    · rw [if_pos (by simp [h1])]
      cases h2 : linkB c.prefix_c3 with
      | true => exact h (.inr h2)
      | false => exact h' (fun q => by rcases q with q | q; exact h1 q; rw [h2] at q; cases q)
  refine key _ _ _ (fun h => ?_) (fun h => by rw [decide_eq_false h, Bool.false_and])
  rw [decide_eq_true h, Bool.true_and]
  refine ej_step (k := 4) (fun h => ?_) (fun h => by rw [decide_eq_false h, Bool.false_and])
  rw [decide_eq_true h, Bool.true_and]
  refine ej_step (k := 16) (fun h => ?_) (fun h => by rw [decide_eq_false h, Bool.false_and])
  rw [decide_eq_true h, Bool.true_and]
  exact ok_last
end Go.VP
