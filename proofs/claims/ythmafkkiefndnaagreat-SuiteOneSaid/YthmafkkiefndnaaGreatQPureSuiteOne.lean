/- A message is of one protocol at most: for all arguments. -/
import Derived.Test.YthmafkkiefndnaaGreatQFQ15
import Derived.Test.YthmafkkiefndnaaGreatQPBase
import Derived.Test.YthmafkkiefndnaaGreatQPCur
import Derived.Test.YthmafkkiefndnaaGreatQPOct
import Derived.Test.YthmafkkiefndnaaGreatQPTlv
import Derived.Test.YthmafkkiefndnaaGreatQPSub
import Derived.Test.YthmafkkiefndnaaGreatQPMsg
import Derived.Test.YthmafkkiefndnaaGreatQPAll
import Derived.Test.YthmafkkiefndnaaGreatQPAddr
import Derived.Test.YthmafkkiefndnaaGreatQPBits
import Derived.Test.YthmafkkiefndnaaGreatQPField
import Derived.Test.YthmafkkiefndnaaGreatQFH
import Derived.Test.YthmafkkiefndnaaGreatQPFieldB
import Derived.Test.YthmafkkiefndnaaGreatQPRoute
import Derived.Test.YthmafkkiefndnaaGreatQPRouteG
import Derived.Test.YthmafkkiefndnaaGreatQFQ3
import Derived.Test.YthmafkkiefndnaaGreatQPCtx
import Derived.Test.YthmafkkiefndnaaGreatQPCtxU
import Derived.Test.YthmafkkiefndnaaGreatQFQ2
import Derived.Test.YthmafkkiefndnaaGreatQPFold
import Derived.Test.YthmafkkiefndnaaGreatQPParts
import Derived.Test.YthmafkkiefndnaaGreatQPUpd
import Derived.Test.YthmafkkiefndnaaGreatQPLeanR
import Derived.Test.YthmafkkiefndnaaGreatQFQ5
import Derived.Test.YthmafkkiefndnaaGreatQFQ6
import Derived.Test.YthmafkkiefndnaaGreatQPCtxL
import Derived.Test.YthmafkkiefndnaaGreatQPLean
import Derived.Test.YthmafkkiefndnaaGreatQPRipA
import Derived.Test.YthmafkkiefndnaaGreatQPRipB
import Derived.Test.YthmafkkiefndnaaGreatQPRipC
import Derived.Test.YthmafkkiefndnaaGreatQFQ0
import Derived.Test.YthmafkkiefndnaaGreatQPRipE
import Derived.Test.YthmafkkiefndnaaGreatQPRipF
import Derived.Test.YthmafkkiefndnaaGreatQPExt
import Derived.Test.YthmafkkiefndnaaGreatQPNgA
import Derived.Test.YthmafkkiefndnaaGreatQPNgB
import Derived.Test.YthmafkkiefndnaaGreatQPAodvA
import Derived.Test.YthmafkkiefndnaaGreatQPAodvB
import Derived.Test.YthmafkkiefndnaaGreatQPAodvE
import Derived.Test.YthmafkkiefndnaaGreatQPSuiteR
import Derived.Test.YthmafkkiefndnaaGreatQPLawS
import Derived.Test.YthmafkkiefndnaaGreatQFGood
set_option linter.unusedVariables false
set_option linter.unusedSimpArgs false
set_option maxRecDepth 100000
namespace Go.VP
open Go Go.VI
theorem one_loop {n : Nat} {m : Msg} (g : GoodQ m) : ∀ (d k : Nat) (x : Int) (p : Int), p + d = 7 → d < k → -1 ≤ p → 0 ≤ x → x ≤ 1 → (x = 1 → ∃ q, q < p ∧ rightP q m = true) → L_law26_SuiteOne_0 n k m x p = some ((true, ()), ()) := by
  intro d
  induction d with
  | zero =>
    intro k x p hp hk h0 hx hx1 _
    obtain ⟨k, rfl⟩ : ∃ j, k = j + 1 := ⟨k - 1, by omega⟩
    rw [L_law26_SuiteOne_0_eq, ifn (by omega), awb26]
    dsimp only
    rw [ift, decide_eq_true hx1]
  | succ d ih =>
    intro k x p hp hk h0 hx hx1 hq
    obtain ⟨k, rfl⟩ : ∃ j, k = j + 1 := ⟨k - 1, by omega⟩
    rw [L_law26_SuiteOne_0_eq, ifd (by omega), sright2_is g, Option.bind_some, w64 (x := p + 1) (by omega) (by omega), w64 (by omega) (by omega)]
    dsimp only
    cases hr : rightP p m with
    | false =>
      rw [iff_]
      exact ih k x (p + 1) (by omega) (by omega) (by omega) hx hx1 (fun h => by obtain ⟨q, h1, h2⟩ := hq h; exact ⟨q, by omega, h2⟩)
    | true =>
      have hk1 := rightP_kind hr
      have hx0 : x = 0 := by
        refine Classical.byContradiction fun hne => ?_
        obtain ⟨q, h1, h2⟩ := hq (by omega)
        have := rightP_kind h2
        omega
      rw [ift, ifn (by omega), ifn (by omega)]
      exact ih k (x + 1) (p + 1) (by omega) (by omega) (by omega) (by omega) (by omega) (fun _ => ⟨p, by omega, hr⟩)
theorem suiteOne_pure (x0 : S_api_Msg) (g0 : Good_api_Msg x0) : g_law26_SuiteOne (x0, ()) = some ((true, ()), ()) := by
  show h_law26_SuiteOne fuel _ = _
  rw [h_law26_SuiteOne_eq]
  obtain ⟨b, hb, hb'⟩ := few_is (goodMsgA g0)
  rw [hb, Option.bind_some]
  dsimp only
  cases b with
  | false => rw [ifnf]; exact awb26 _
  | true =>
    rw [ifnt]
    exact one_loop (n := fuel) (goodQ g0 (hb' rfl)) 8 fuel 0 (-1) (by omega) (fuel_ge (by omega)) (by omega) (by omega) (by omega) (fun h => by omega)
end Go.VP
