/- RIP: whether a route may be; the routes of bytes. -/
import Derived.Test.YthmafkkiefndnaaGreatQFQ1
import Derived.Test.YthmafkkiefndnaaGreatQFQ2
import Derived.Test.YthmafkkiefndnaaGreatQFQ7
import Derived.Test.YthmafkkiefndnaaGreatQPBase
import Derived.Test.YthmafkkiefndnaaGreatQPCur
import Derived.Test.YthmafkkiefndnaaGreatQPOct
import Derived.Test.YthmafkkiefndnaaGreatQPTlv
import Derived.Test.YthmafkkiefndnaaGreatQPSub
import Derived.Test.YthmafkkiefndnaaGreatQPMsg
import Derived.Test.YthmafkkiefndnaaGreatQPBits
import Derived.Test.YthmafkkiefndnaaGreatQPRipA
set_option linter.unusedVariables false
set_option linter.unusedSimpArgs false
set_option maxRecDepth 100000
namespace Go.VP
open Go Go.VI
def okR (m : Msg) : Prop := m.kind = 1 ∧ bareB m = true ∧ (m.cmd = 1 ∨ m.cmd = 2) ∧ (m.ver = 1 ∨ m.ver = 2) ∧ m.prefix_.length = 4 ∧ m.next.length = 4 ∧ (m.auth = [] ∨ (m.ver = 2 ∧ m.auth.length = 18)) ∧
  ((m.family = 0 ∧ m.cmd = 1 ∧ m.tag = 0 ∧ m.plen = 0 ∧ m.prefix_ = z4 ∧ m.next = z4 ∧ m.metric = 16) ∨
   (m.family = 2 ∧ 1 ≤ m.metric ∧ m.metric ≤ 16 ∧
     ((m.ver = 1 ∧ m.tag = 0 ∧ m.plen = 32 ∧ m.next = z4) ∨ (m.ver = 2 ∧ 0 ≤ m.tag ∧ m.tag ≤ 65535 ∧ 0 ≤ m.plen ∧ m.plen ≤ 32 ∧ cleanB m.prefix_ m.plen = true))))
open Classical in
noncomputable def rightR (m : Msg) : Bool := decide (okR m)
theorem rightR_true {m : Msg} : rightR m = true ↔ okR m := by unfold rightR; simp
structure RM (m : Msg) : Prop where
  tag : IntKind.has .i64 m.tag
  plen : IntKind.has .i64 m.plen
  list : m.list.length ≤ 1000000000
  subs : m.subs.length ≤ 1000000000
theorem dq_step {R : Type} {p : Prop} [Decidable p] {t f r : R} (h : p → t = r) (h' : ¬ p → f = r) : (if decide p = true then t else f) = r := by
  by_cases hp : p
  · rw [ifd hp]; exact h hp
  · rw [ifn hp]; exact h' hp
theorem nb_step {R : Type} {b : Bool} {t f r : R} (h : b = false → t = r) (h' : b = true → f = r) : (if (!b) = true then t else f) = r := by
  cases b
  · exact h rfl
  · exact h' rfl
theorem two_step {R : Type} {x a b : Int} {F V r : R} (h1 : ¬ (x = a ∨ x = b) → F = r) (h2 : (x = a ∨ x = b) → V = r) : (if (x != a) = true then (if (x != b) = true then F else V) else V) = r :=
  ne_step (fun ha => ne_step (fun hb => h1 (by omega)) (fun hb => h2 (.inr hb))) (fun ha => h2 (.inl ha))
theorem au_step {R : Type} {s : Bs} {v : Int} {F T r : R} (h1 : ¬ (s = [] ∨ (v ≠ 1 ∧ s.length = 18)) → F = r) (h2 : (s = [] ∨ (v ≠ 1 ∧ s.length = 18)) → T = r) : (if (!(s == ([] : Bs))) = true then (if (v == 1) = true then F else (if ((s.length : Int) != 18) = true then F else T)) else T) = r :=
  nq_step (fun ha => bq_step (fun hb => h1 (by grind)) (fun hb => ne_step (fun hc => h1 (by grind)) (fun hc => h2 (by grind)))) (fun ha => h2 (.inl ha))
theorem pright4 {a : Bs} {n : Int} (h : a.length = 4) (hn : IntKind.has .i64 n) : g_prefix_Right (a, n, ()) = some ((decide (0 ≤ n ∧ n ≤ 32) && cleanB a n, ()), ()) := by
  rw [g_prefix_Right_eq, if_pos (by simp [h]), clean_is (by omega) hn, Option.bind_some]
  dsimp only
  refine dq_step (fun h0 => ?_) (fun h0 => ?_)
  · rw [w64 (by omega) (by omega)]
    refine dq_step (fun h1 => ?_) (fun h1 => ?_)
    · rw [decide_eq_true (by omega)]; rfl
    · rw [decide_eq_false (by omega)]; rfl
  · rw [decide_eq_false (by omega)]; rfl
theorem ripRight_is {m : Msg} (g : RM m) : g_rip_Right (m, ()) = some ((rightR m, ()), ()) := by
  have no : ¬ okR m → (some ((false, ()), ()) : Option ((Bool × Unit) × Unit)) = some ((rightR m, ()), ()) := fun h => by
    have : rightR m = false := by cases e : rightR m with | false => rfl | true => exact absurd (rightR_true.1 e) h
    rw [this]
  have yes : ∀ {b : Bool}, (b = true ↔ okR m) → (some ((b, ()), ()) : Option ((Bool × Unit) × Unit)) = some ((rightR m, ()), ()) := fun {b} h => by
    have : b = rightR m := by rw [Bool.eq_iff_iff, h, rightR_true]
    rw [this]
  rw [g_rip_Right_eq]
  refine ne_step (fun hk => no fun h => hk h.1) (fun hk => ?_)
  rw [bare_is, Option.bind_some]
  refine nb_step (fun hb => no fun h => by have := h.2.1; dsimp only at hb; rw [hb] at this; cases this) (fun hb => ?_)
  dsimp only at hb
  rw [g_rip_four_eq, Option.bind_some]
  refine nb_step (fun hp => no fun h => by have := h.2.2.2.2.1; dsimp only at hp; simp at hp; omega) (fun hp => ?_)
  have hp4 : m.prefix_.length = 4 := by simp at hp; omega
  rw [g_rip_four_eq, Option.bind_some]
  refine nb_step (fun hp => no fun h => by have := h.2.2.2.2.2.1; dsimp only at hp; simp at hp; omega) (fun hn => ?_)
  have hn4 : m.next.length = 4 := by simp at hn; omega
  refine two_step (fun hc => no fun h => hc h.2.2.1) (fun hc => ?_)
  refine two_step (fun hv => no fun h => hv h.2.2.2.1) (fun hv => ?_)
  refine au_step (fun ha => no fun h => ha (by have := h.2.2.2.2.2.2.1; grind)) (fun ha => ?_)
  have ha' : m.auth = [] ∨ (m.ver = 2 ∧ m.auth.length = 18) := by grind
  have z8 := zero8 hp4 hn4
  have zn := zero4 hn4
  refine bq_step (fun f0 => ?_) (fun f0 => ?_)
  · refine bq_step (fun c1 => ?_) (fun c1 => no (by grind [okR]))
    refine bq_step (fun t0 => ?_) (fun t0 => no (by grind [okR]))
    refine bq_step (fun p0 => ?_) (fun t0 => no (by grind [okR]))
    refine bq_step (fun m0 => ?_) (fun t0 => no (by grind [okR]))
    rw [if_pos (maxB_of (by omega)), zero_is (by simp; omega), Option.bind_some]
    exact yes (by rw [z8]; grind [okR])
  · refine ne_step (fun f2 => no (by grind [okR])) (fun f2 => ?_)
    refine dq_step (fun h1 => no (by grind [okR])) (fun h1 => ?_)
    refine dq_step (fun h2 => no (by grind [okR])) (fun h2 => ?_)
    refine bq_step (fun v1 => ?_) (fun v1 => ?_)
    · refine bq_step (fun t0 => ?_) (fun t0 => no (by grind [okR]))
      refine bq_step (fun p0 => ?_) (fun t0 => no (by grind [okR]))
      rw [zero_is (by omega), Option.bind_some]
      exact yes (by rw [zn]; grind [okR])
    · have ft := fits_is (k := 2) g.tag (by omega) (by omega)
      rw [show ((2 : Nat) : Int) = 2 from rfl] at ft
      rw [ft, Option.bind_some]
      dsimp only
      have hf : fitsB m.tag 2 = true ↔ 0 ≤ m.tag ∧ m.tag ≤ 65535 := by unfold fitsB; rw [decide_eq_true_eq]; omega
      cases hfb : fitsB m.tag 2 with
      | false => rw [iff_]; exact no (fun h => by have : ¬ (0 ≤ m.tag ∧ m.tag ≤ 65535) := by rw [← hf, hfb]; simp
                                                  grind [okR])
      | true =>
        have := hf.1 hfb
        rw [ift, pright4 hp4 g.plen, Option.bind_some]
        exact yes (by rw [Bool.and_eq_true, decide_eq_true_eq]; grind [okR])
end Go.VP
