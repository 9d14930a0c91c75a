/- An Update as it stands has the prefix's bytes, but for those that are left out, and its numbers are in their ranges: for all arguments. -/
import Derived.Test.YtpapfbpefhcobaaFQ6
import Derived.Test.YtpapfbpefhcobaaPBase
import Derived.Test.YtpapfbpefhcobaaPCur
import Derived.Test.YtpapfbpefhcobaaPOct
import Derived.Test.YtpapfbpefhcobaaPTlv
import Derived.Test.YtpapfbpefhcobaaPSub
import Derived.Test.YtpapfbpefhcobaaPMsg
import Derived.Test.YtpapfbpefhcobaaPAddr
import Derived.Test.YtpapfbpefhcobaaPBits
import Derived.Test.YtpapfbpefhcobaaPField
import Derived.Test.YtpapfbpefhcobaaPFieldG
import Derived.Test.YtpapfbpefhcobaaPFieldB
import Derived.Test.YtpapfbpefhcobaaPRoute
import Derived.Test.YtpapfbpefhcobaaPRouteG
import Derived.Test.YtpapfbpefhcobaaPRouteB
import Derived.Test.YtpapfbpefhcobaaPTake
import Derived.Test.YtpapfbpefhcobaaPGood
set_option linter.unusedVariables false
set_option linter.unusedSimpArgs false
set_option maxRecDepth 100000
namespace Go.VP
open Go Go.VI
theorem takeG_cases (d : Bs) : (takeG d = (raw0, false, (takeG d).2.2)) ∨ (∃ k l, 10 ≤ d.length ∧ (0 ≤ bt d 0 ∧ bt d 0 < 4) ∧ 0 ≤ restN (bt d 0) (bt d 2) (bt d 3) ∧ 10 + restN (bt d 0) (bt d 2) (bt d 3) ≤ d.length ∧
    takeG d = (⟨bt d 0, bt d 1, bt d 2, bt d 3, num (cut_ d 4 2), num (cut_ d 6 2), num (cut_ d 8 2), if k = true then 1 else 0, cut_ d 10 (restN (bt d 0) (bt d 2) (bt d 3)), l⟩, true, 0)) := by
  have b0 := bt_rng d 0
  unfold takeG
  split
  · exact .inl rfl
  split
  · exact .inl rfl
  rename_i h1 h2
  dsimp only
  split
  · exact .inl rfl
  rename_i h3
  split
  · exact .inl rfl
  rename_i h4
  have h3 : (preF d 10 (bt d 0) (bt d 2) (bt d 3)).2 = 0 := by simpa using h3
  have hp : (preF d 10 (bt d 0) (bt d 2) (bt d 3)).1 = cut_ d 10 (restN (bt d 0) (bt d 2) (bt d 3)) ∧ 0 ≤ restN (bt d 0) (bt d 2) (bt d 3) ∧ 10 + restN (bt d 0) (bt d 2) (bt d 3) ≤ d.length := by
    unfold preF at h3 ⊢
    split at h3
    · cases h3
    · rename_i hg
      split at h3
      · cases h3
      · rename_i hl
        rw [if_neg hg, if_neg hl]
        exact ⟨rfl, by omega, by omega⟩
  rw [hp.1]
  exact .inr ⟨_, _, by omega, by omega, hp.2.1, hp.2.2, rfl⟩
theorem routeTakes_pure (x0 : List UInt8) (g0 : Good_string x0) : g_law21_RouteTakes (x0, ()) = some ((true, ()), ()) := by
  rw [g_law21_RouteTakes_eq, awake21, Option.bind_some]
  by_cases h1 : (255 : Int) < x0.length
  · rw [ifd h1]
  rw [ifn h1, take_is (by omega), Option.bind_some]
  rcases takeG_cases x0 with e | ⟨k, l, h10, hae, hr, hl, e⟩
  · rw [e]
    dsimp only [trip]
    rw [ifnf, Option.bind_some, ift, raw_refl (by simp)]; rfl
  · have b0 := bt_rng x0 0
    have b2 := bt_rng x0 2
    have b3 := bt_rng x0 3
    have b8 := bt_rng x0 8
    have b9 := bt_rng x0 9
    have hlen := cut_length (s := x0) (p := 10) (n := restN (bt x0 0) (bt x0 2) (bt x0 3)) (by omega) hr hl
    have e8 : num (cut_ x0 8 2) = bt x0 8 * 256 + bt x0 9 := num2 (p := 8) (by omega)
    have eL : IntKind.wrap .i64 (Int.tdiv (IntKind.wrap .i64 (bt x0 2 + 7)) 8) = leastF (bt x0 2) := by
      rw [w64 (x := bt x0 2 + 7) (by omega) (by omega), Int.tdiv_eq_ediv_of_nonneg (by omega), w64 (by omega) (by omega)]
      unfold leastF; rw [if_neg (by omega)]
    have hlr := leastF_rng (n := bt x0 2) (by omega)
    have eM : IntKind.wrap .i64 (IntKind.wrap .i64 (256 * bt x0 8) + bt x0 9) = num (cut_ x0 8 2) := by
      rw [w64 (x := 256 * bt x0 8) (by omega) (by omega), w64 (by omega) (by omega), e8]; omega
    have hk : (if ((if k = true then (1 : Int) else 0) == 0) = true then (some ((true, ()), ()) : Option ((Bool × Unit) × Unit)) else some ((((if k = true then (1 : Int) else 0) == 1), ()), ())) = some ((true, ()), ()) := by cases k <;> rfl
    rw [e]
    dsimp only [trip]
    rw [ifnt]
    by_cases h3 : bt x0 0 = 3
    · have er : leastF (bt x0 2) - bt x0 3 - 8 = restN (bt x0 0) (bt x0 2) (bt x0 3) := by rw [h3]; show _ = leastF (bt x0 2) - 8 - bt x0 3; omega
      have ec : (x0.take (10 + restN (bt x0 0) (bt x0 2) (bt x0 3)).toNat).drop 10 = cut_ x0 10 (restN (bt x0 0) (bt x0 2) (bt x0 3)) := rfl
      rw [if_pos (show (bt x0 0 == 3) = true by simp [h3]), Option.bind_some, ift, if_pos (show ((0 : Int) == 0) = true from rfl), eL, w64 (x := leastF (bt x0 2) - bt x0 3) (by omega) (by omega), w64 (x := leastF (bt x0 2) - bt x0 3 - 8) (by omega) (by omega), er, w64 (x := 10 + restN (bt x0 0) (bt x0 2) (bt x0 3)) (by omega) (by omega), if_pos (show (((cut_ x0 10 (restN (bt x0 0) (bt x0 2) (bt x0 3))).length : Int) == restN (bt x0 0) (bt x0 2) (bt x0 3)) = true by simp [hlen]), ifd hl, if_pos (by omega), ec, if_pos (by simp), bind_at (show 0 < x0.length by omega), wbt (show 0 < x0.length by omega), if_pos (by simp), ifd (by omega), bind_at (show 8 < x0.length by omega), bind_at (show 9 < x0.length by omega), wbt (show 8 < x0.length by omega), wbt (show 9 < x0.length by omega), eM, if_pos (by simp)]
      exact hk
    · have er : leastF (bt x0 2) - bt x0 3 = restN (bt x0 0) (bt x0 2) (bt x0 3) := by
        unfold restN
        have : baseA (bt x0 0) = 0 := by
          rcases ae_cases hae with h | h | h | h
          · rw [h]; rfl
          · rw [h]; rfl
          · rw [h]; rfl
          · exact absurd h h3
        omega
      have ec : (x0.take (10 + restN (bt x0 0) (bt x0 2) (bt x0 3)).toNat).drop 10 = cut_ x0 10 (restN (bt x0 0) (bt x0 2) (bt x0 3)) := rfl
      rw [if_neg (show ¬ (bt x0 0 == 3) = true by simp [h3]), Option.bind_some, ift, if_pos (show ((0 : Int) == 0) = true from rfl), eL, w64 (x := leastF (bt x0 2) - bt x0 3) (by omega) (by omega), er, w64 (x := 10 + restN (bt x0 0) (bt x0 2) (bt x0 3)) (by omega) (by omega), if_pos (show (((cut_ x0 10 (restN (bt x0 0) (bt x0 2) (bt x0 3))).length : Int) == restN (bt x0 0) (bt x0 2) (bt x0 3)) = true by simp [hlen]), ifd hl, if_pos (by omega), ec, if_pos (by simp), bind_at (show 0 < x0.length by omega), wbt (show 0 < x0.length by omega), if_pos (by simp), ifd (by omega), bind_at (show 8 < x0.length by omega), bind_at (show 9 < x0.length by omega), wbt (show 8 < x0.length by omega), wbt (show 9 < x0.length by omega), eM, if_pos (by simp)]
      exact hk
end Go.VP
