/- The Update as it stands, of a TLV. -/
import Derived.Test.YtabekdfijifnfaaQFQ5
import Derived.Test.YtabekdfijifnfaaQFQ9
import Derived.Test.YtabekdfijifnfaaQPBase
import Derived.Test.YtabekdfijifnfaaQPCur
import Derived.Test.YtabekdfijifnfaaQPOct
import Derived.Test.YtabekdfijifnfaaQPTlv
import Derived.Test.YtabekdfijifnfaaQPSub
import Derived.Test.YtabekdfijifnfaaQPMsg
import Derived.Test.YtabekdfijifnfaaQPAddr
import Derived.Test.YtabekdfijifnfaaQPBits
import Derived.Test.YtabekdfijifnfaaQPField
import Derived.Test.YtabekdfijifnfaaQPFieldG
import Derived.Test.YtabekdfijifnfaaQPRoute
import Derived.Test.YtabekdfijifnfaaQPRouteG
set_option linter.unusedVariables false
set_option linter.unusedSimpArgs false
set_option maxRecDepth 100000
namespace Go.VP
open Go Go.VI
def takeG (d : Bs) : Raw × Bool × Int :=
  if (d.length : Int) < 10 then (raw0, false, 2)
  else if 3 < bt d 0 then (raw0, false, 0)
  else
    let b := preF d 10 (bt d 0) (bt d 2) (bt d 3)
    if b.2 ≠ 0 then (raw0, false, b.2)
    else
      let x := getS (d.drop (10 + restN (bt d 0) (bt d 2) (bt d 3)).toNat)
      if x.2.2 ≠ 0 then (raw0, false, x.2.2)
      else (⟨bt d 0, bt d 1, bt d 2, bt d 3, num (cut_ d 4 2), num (cut_ d 6 2), num (cut_ d 8 2), if x.2.1 = true then 1 else 0, b.1, x.1⟩, true, 0)
theorem rtake_is {ty at_ : Int} {d : Bs} (hd : d.length ≤ 1000) : g_ref21_Take (⟨ty, at_, d⟩, ()) = some (trip (takeG d), ()) := by
  have b0 := bt_rng d 0
  have b2 := bt_rng d 2
  have b3 := bt_rng d 3
  rw [g_ref21_Take_eq]
  dsimp only
  unfold takeG
  by_cases hl : (d.length : Int) < 10
  · rw [ifd hl, if_pos hl]
  · have nc : ∀ p : Nat, p + 2 ≤ d.length → g_ref08_Number (cut_ d p 2, ()) = some ((num (cut_ d p 2), ()), ()) := fun p h => number_is (by have := cut_length (s := d) (p := p) (n := 2) (by omega) (by omega) (by omega); omega)
    have n4 : g_ref08_Number (cut_ d 4 2, ()) = some ((num (cut_ d 4 2), ()), ()) := nc 4 (by omega)
    have n6 : g_ref08_Number (cut_ d 6 2, ()) = some ((num (cut_ d 6 2), ()), ()) := nc 6 (by omega)
    have n8 : g_ref08_Number (cut_ d 8 2, ()) = some ((num (cut_ d 8 2), ()), ()) := nc 8 (by omega)
    have c4 : (d.take 6).drop 4 = cut_ d 4 2 := cut_take (p := 4) (n := 2) (q := 6) rfl
    have c6 : (d.take 8).drop 6 = cut_ d 6 2 := cut_take (p := 6) (n := 2) (q := 8) rfl
    have c8 : (d.take 10).drop 8 = cut_ d 8 2 := cut_take (p := 8) (n := 2) (q := 10) rfl
    rw [ifn hl, if_neg hl, bind_at (show 0 < d.length by omega), bind_at (show 1 < d.length by omega), bind_at (show 2 < d.length by omega), bind_at (show 3 < d.length by omega), wbt (show 0 < d.length by omega), wbt (show 1 < d.length by omega), wbt (show 2 < d.length by omega), wbt (show 3 < d.length by omega), if_pos (by omega), c4, n4, Option.bind_some, if_pos (by omega), c6, n6, Option.bind_some, if_pos (by omega), c8, n8, Option.bind_some]
    by_cases ha : 3 < bt d 0
    · rw [ifd ha, if_pos ha]
    · have hae : 0 ≤ bt d 0 ∧ bt d 0 < 4 := by omega
      have hl2 := leastF_rng (n := bt d 2) (by omega)
      have hb2 := baseA_rng (bt d 0)
      rw [ifn ha, if_neg ha, great_is hae b2.1, Option.bind_some]
      dsimp only
      cases hg : greatB (bt d 0) (bt d 2) with
      | true => rw [ift, preF_great hg]; rfl
      | false =>
        have er : leastF (bt d 2) - baseA (bt d 0) - bt d 3 = restN (bt d 0) (bt d 2) (bt d 3) := rfl
        have hr2 : restN (bt d 0) (bt d 2) (bt d 3) ≤ 100 ∧ -1000 ≤ restN (bt d 0) (bt d 2) (bt d 3) := by rw [← er]; omega
        rw [iff_, rleast_is (by omega), Option.bind_some, rbase_is hae, Option.bind_some]
        dsimp only
        rw [w64 (x := leastF (bt d 2) - baseA (bt d 0)) (by omega) (by omega), w64 (x := leastF (bt d 2) - baseA (bt d 0) - bt d 3) (by omega) (by omega), er, w64 (x := 10 + restN (bt d 0) (bt d 2) (bt d 3)) (by omega) (by omega)]
        by_cases hn : restN (bt d 0) (bt d 2) (bt d 3) < 0
        · have : preF d 10 (bt d 0) (bt d 2) (bt d 3) = ([], 6) := by unfold preF; rw [if_pos (.inr hn)]
          rw [ifd hn, this]; rfl
        · rw [ifn hn]
          by_cases hs : (d.length : Int) < 10 + restN (bt d 0) (bt d 2) (bt d 3)
          · rw [ifd hs, preF_short hg (by omega) hs]; rfl
          · have ec : (d.take (10 + restN (bt d 0) (bt d 2) (bt d 3)).toNat).drop 10 = cut_ d 10 (restN (bt d 0) (bt d 2) (bt d 3)) := rfl
            rw [ifn hs, preF_fine hg (by omega) hs, if_pos (by omega), rsget_is (by simp; omega), Option.bind_some, ec]
            dsimp only [trip]
            rw [if_neg (show ¬ (0 : Int) ≠ 0 by decide)]
            generalize getS (d.drop (10 + restN (bt d 0) (bt d 2) (bt d 3)).toNat) = x
            obtain ⟨x1, x2, x3⟩ := x
            dsimp only
            by_cases hx : x3 = 0
            · subst hx
              rw [if_neg (show ¬ ((0 : Int) != 0) = true by decide), if_pos (show 0 ≤ (10 : Int) ∧ (10 : Int) ≤ 10 + restN (bt d 0) (bt d 2) (bt d 3) ∧ 10 + restN (bt d 0) (bt d 2) (bt d 3) ≤ (d.length : Int) by omega)]
              cases x2 <;> rfl
            · rw [if_pos (show (x3 != 0) = true by simp [hx]), if_pos hx]
end Go.VP
