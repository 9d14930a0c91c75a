/- The request, and the Update as it stands, of a TLV. -/
import Derived.Test.YtabekdfijifnfaaQFQ0
import Derived.Test.YtabekdfijifnfaaQFH
import Derived.Test.YtabekdfijifnfaaQFQ5
import Derived.Test.YtabekdfijifnfaaQFQ7
import Derived.Test.YtabekdfijifnfaaQFQ9
import Derived.Test.YtabekdfijifnfaaQPBase
import Derived.Test.YtabekdfijifnfaaQPCur
import Derived.Test.YtabekdfijifnfaaQPOct
import Derived.Test.YtabekdfijifnfaaQPTlv
import Derived.Test.YtabekdfijifnfaaQPSub
import Derived.Test.YtabekdfijifnfaaQPMsg
import Derived.Test.YtabekdfijifnfaaQPAddr
import Derived.Test.YtabekdfijifnfaaQPBits
import Derived.Test.YtabekdfijifnfaaQPField
import Derived.Test.YtabekdfijifnfaaQPFieldG
import Derived.Test.YtabekdfijifnfaaQPRoute
set_option linter.unusedVariables false
set_option linter.unusedSimpArgs false
set_option maxRecDepth 100000
namespace Go.VP
open Go Go.VI
abbrev Raw := S_api_Raw
abbrev raw0 : Raw := ⟨0, 0, 0, 0, 0, 0, 0, 0, [], []⟩
def greatB (ae plen : Int) : Bool := !decide (lowA ae ≤ plen ∧ plen ≤ highA ae)
def restN (ae plen om : Int) : Int := leastF plen - baseA ae - om
def preF (d : Bs) (p ae plen om : Int) : Bs × Int := if greatB ae plen = true ∨ restN ae plen om < 0 then ([], 6) else if (d.length : Int) < p + restN ae plen om then ([], 2) else (cut_ d p (restN ae plen om), 0)
theorem leastF_rng {n : Int} (h : 0 ≤ n ∧ n ≤ 255) : 0 ≤ leastF n ∧ leastF n ≤ 32 := by unfold leastF; split <;> omega
theorem baseA_rng (ae : Int) : 0 ≤ baseA ae ∧ baseA ae ≤ 8 := by unfold baseA; split <;> (try split) <;> (try split) <;> omega
def wholeF (ae : Int) (b : Bs) (plen : Int) : Bs := keepF (if ae = 3 then linkP ++ fillF b 8 else fillF b (szA ae)) plen
theorem fillF_length (s : Bs) (n : Int) : (fillF s n).length = max s.length n.toNat := by unfold fillF; simp; omega
theorem rwhole_is {ae plen : Int} {b : Bs} (hae : 0 ≤ ae ∧ ae < 4) (hb : b.length ≤ 1000) (h0 : ae = 0 → b = []) (h3 : ae = 3 → b.length ≤ 8) : g_ref21_Whole (ae, b, plen, ()) = some ((wholeF ae b plen, ()), ()) := by
  rw [g_ref21_Whole_eq]
  unfold wholeF
  rcases ae_cases hae with rfl | rfl | rfl | rfl
  · rw [h0 rfl]; rfl
  · rw [if_pos (by decide), rfill_is (by omega), Option.bind_some, rkeep_is (by rw [fillF_length]; omega)]; rfl
  · rw [if_neg (by decide), if_pos (by decide), rfill_is (by omega), Option.bind_some, rkeep_is (by rw [fillF_length]; omega)]; rfl
  · have hl : longF (fillF b 8) = (linkP ++ fillF b 8, true) := by unfold longF; rw [if_pos (by rw [fillF_length]; have := h3 rfl; omega)]
    rw [if_neg (by decide), if_neg (by decide), if_pos (by decide), rfill_is (by omega), Option.bind_some, rlong_is, hl, Option.bind_some, rkeep_is (by simp [fillF_length, linkP]; omega)]; rfl
def routeG (ty : Int) (d : Bs) : Msg × Bool × Int :=
  if (d.length : Int) < (if ty = 10 then 14 else 2) then (msg0, false, 2)
  else if 3 < bt d 0 then (msg0, false, 0)
  else
    let p : Int := if ty = 10 then 14 else 2
    let b := preF d p (bt d 0) (bt d 1) 0
    if b.2 ≠ 0 then (msg0, false, b.2)
    else
      let x := getS (d.drop (p + restN (bt d 0) (bt d 1) 0).toNat)
      if x.2.2 ≠ 0 ∨ x.2.1 = false then (msg0, false, x.2.2)
      else if ty = 10 then (if bt d 0 = 0 ∨ bt d 4 = 0 then (msg0, false, 0) else (⟨13, 0, 0, [], 0, bt d 0, wholeF (bt d 0) b.1 (bt d 1), bt d 1, 0, [], 0, cut_ d 6 8, num (cut_ d 2 2), 0, 0, 0, bt d 4, 0, 0, [], [], [], 0, [], x.1⟩, true, 0))
      else (⟨12, 0, 0, [], 0, bt d 0, wholeF (bt d 0) b.1 (bt d 1), bt d 1, 0, [], 0, [], 0, 0, 0, 0, 0, 0, 0, [], [], [], 0, [], x.1⟩, true, 0)
theorem restN_len {ae plen : Int} (hae : 0 ≤ ae ∧ ae < 4) (hg : greatB ae plen = false) : 0 ≤ restN ae plen 0 ∧ restN ae plen 0 ≤ 16 ∧ (ae = 0 → restN ae plen 0 = 0) ∧ (ae = 3 → restN ae plen 0 ≤ 8) ∧ (0 ≤ plen ∧ plen ≤ 128) := by
  unfold greatB at hg
  have hp : lowA ae ≤ plen ∧ plen ≤ highA ae := by simpa using hg
  obtain ⟨h1, h2, h3, h4, h5, h6⟩ := least_base hae hp
  unfold restN
  refine ⟨by omega, by omega, fun h => ?_, fun h => ?_, h4, h5⟩
  · subst h; have : szA 0 = 0 := rfl; omega
  · subst h; have : szA 3 = 16 := rfl; have : baseA 3 = 8 := rfl; omega
theorem preF_ok {d : Bs} {p ae plen : Int} (hae : 0 ≤ ae ∧ ae < 4) (h0 : 0 ≤ p) (h : (preF d p ae plen 0).2 = 0) : (preF d p ae plen 0).1 = cut_ d p (restN ae plen 0) ∧ greatB ae plen = false ∧ p + restN ae plen 0 ≤ d.length ∧ ((preF d p ae plen 0).1.length : Int) = restN ae plen 0 := by
  unfold preF at h ⊢
  split at h
  · cases h
  · rename_i hg
    have hg' : greatB ae plen = false := by
      cases hx : greatB ae plen with
      | false => rfl
      | true => exact absurd (.inl hx) hg
    have := restN_len hae hg'
    split at h
    · cases h
    · rename_i hl
      rw [if_neg hg, if_neg hl]
      exact ⟨rfl, hg', by omega, cut_length h0 (by omega) (by omega)⟩
theorem preF_great {d : Bs} {p ae plen om : Int} (h : greatB ae plen = true) : preF d p ae plen om = ([], 6) := by unfold preF; rw [if_pos (.inl h)]
theorem preF_short {d : Bs} {p ae plen om : Int} (h : greatB ae plen = false) (h0 : 0 ≤ restN ae plen om) (h2 : (d.length : Int) < p + restN ae plen om) : preF d p ae plen om = ([], 2) := by
  unfold preF; rw [h, if_neg (by simp; omega), if_pos h2]
theorem preF_fine {d : Bs} {p ae plen om : Int} (h : greatB ae plen = false) (h0 : 0 ≤ restN ae plen om) (h2 : ¬ (d.length : Int) < p + restN ae plen om) : preF d p ae plen om = (cut_ d p (restN ae plen om), 0) := by
  unfold preF; rw [h, if_neg (by simp; omega), if_neg h2]
theorem great_is {ae plen : Int} (hae : 0 ≤ ae ∧ ae < 4) (hp : 0 ≤ plen) : g_ref21_great (ae, plen, ()) = some ((greatB ae plen, ()), ()) := by
  rw [g_ref21_great_eq]
  unfold greatB
  rcases ae_cases hae with rfl | rfl | rfl | rfl
  · rw [if_pos (by decide)]
    have : (plen != 0) = !decide (lowA 0 ≤ plen ∧ plen ≤ highA 0) := by rw [Bool.eq_iff_iff]; show (plen != 0) = true ↔ (!decide (0 ≤ plen ∧ plen ≤ 0)) = true; simp; omega
    rw [this]
  · rw [if_neg (by decide), if_pos (by decide)]
    have : decide (32 < plen) = !decide (lowA 1 ≤ plen ∧ plen ≤ highA 1) := by rw [Bool.eq_iff_iff]; show decide (32 < plen) = true ↔ (!decide (0 ≤ plen ∧ plen ≤ 32)) = true; simp; omega
    rw [this]
  · rw [if_neg (by decide), if_neg (by decide), if_pos (by decide)]
    have : decide (128 < plen) = !decide (lowA 2 ≤ plen ∧ plen ≤ highA 2) := by rw [Bool.eq_iff_iff]; show decide (128 < plen) = true ↔ (!decide (0 ≤ plen ∧ plen ≤ 128)) = true; simp; omega
    rw [this]
  · rw [if_neg (by decide), if_neg (by decide), if_neg (by decide)]
    have e : (!decide (lowA 3 ≤ plen ∧ plen ≤ highA 3)) = (decide (128 < plen) || decide (plen < 64)) := by rw [Bool.eq_iff_iff]; show (!decide (64 ≤ plen ∧ plen ≤ 128)) = true ↔ _; simp; omega
    rw [e]
    cases decide (128 < plen) <;> rfl
theorem wbt {d : Bs} {i : Nat} (h : i < d.length) : IntKind.wrap .i64 ((d[i].toNat : Nat) : Int) = bt d i := by
  rw [w64n]; simp [bt, List.getElem?_eq_getElem h]
theorem rgetR_is {ty at_ : Int} {d : Bs} (hd : d.length ≤ 1000) (ht : ty = 9 ∨ ty = 10) : g_ref21_Get (⟨ty, at_, d⟩, ()) = some (trip (routeG ty d), ()) := by
  have b0 := bt_rng d 0
  have b1 := bt_rng d 1
  have b4 := bt_rng d 4
  rw [g_ref21_Get_eq]
  dsimp only
  rcases ht with rfl | rfl
  · rw [if_neg (show ¬ ((9 : Int) == 10) = true by decide)]
    unfold routeG
    by_cases hl : (d.length : Int) < 2
    · rw [ifd hl, if_neg (show ¬ (9 : Int) = 10 by decide), if_pos hl]
    · rw [ifn hl, if_neg (show ¬ (9 : Int) = 10 by decide), if_neg hl, bind_at (show 0 < d.length by omega), bind_at (show 1 < d.length by omega), wbt (show 0 < d.length by omega), wbt (show 1 < d.length by omega)]
      by_cases ha : 3 < bt d 0
      · rw [ifd ha, if_pos ha]
      · have hae : 0 ≤ bt d 0 ∧ bt d 0 < 4 := by omega
        have hl2 := leastF_rng (n := bt d 1) (by omega)
        have hb2 := baseA_rng (bt d 0)
        rw [ifn ha, if_neg ha, great_is hae b1.1, Option.bind_some]
        dsimp only
        cases hg : greatB (bt d 0) (bt d 1) with
        | true => rw [ift, preF_great hg]; rfl
        | false =>
          have hr := restN_len hae hg
          have er : leastF (bt d 1) - baseA (bt d 0) = restN (bt d 0) (bt d 1) 0 := by unfold restN; omega
          rw [iff_, rleast_is (by omega), Option.bind_some, rbase_is hae, Option.bind_some]
          dsimp only
          rw [w64 (x := leastF (bt d 1) - baseA (bt d 0)) (by omega) (by omega), er, w64 (x := 2 + restN (bt d 0) (bt d 1) 0) (by omega) (by omega)]
          by_cases hs : (d.length : Int) < 2 + restN (bt d 0) (bt d 1) 0
          · rw [ifd hs, preF_short hg hr.1 hs]; rfl
          · have hcl := cut_length (s := d) (p := 2) (n := restN (bt d 0) (bt d 1) 0) (by omega) (by omega) (by omega)
            have ec : (d.take (2 + restN (bt d 0) (bt d 1) 0).toNat).drop 2 = cut_ d 2 (restN (bt d 0) (bt d 1) 0) := rfl
            rw [ifn hs, preF_fine hg hr.1 hs, if_pos (by omega), rsget_is (by simp; omega), Option.bind_some, ec, rwhole_is hae (by omega) (fun h => List.length_eq_zero_iff.1 (by have := hr.2.2.1 h; omega)) (fun h => by have := hr.2.2.2.1 h; omega), Option.bind_some]
            dsimp only [trip]
            rw [if_neg (show ¬ (0 : Int) ≠ 0 by decide)]
            generalize getS (d.drop (2 + restN (bt d 0) (bt d 1) 0).toNat) = x
            obtain ⟨x1, x2, x3⟩ := x
            dsimp only
            by_cases hx : x3 = 0
            · subst hx
              cases x2
              · rfl
              · rw [if_neg (show ¬ ((0 : Int) != 0) = true by decide), ifnt, if_pos (by omega)]; rfl
            · rw [if_pos (show (x3 != 0) = true by simp [hx]), if_pos (.inl hx)]
  · rw [if_pos (show ((10 : Int) == 10) = true from rfl)]
    unfold routeG
    by_cases hl : (d.length : Int) < 14
    · rw [ifd hl, if_pos (show (10 : Int) = 10 from rfl), if_pos hl]
    · rw [ifn hl, if_pos (show (10 : Int) = 10 from rfl), if_neg hl, bind_at (show 0 < d.length by omega), bind_at (show 1 < d.length by omega), wbt (show 0 < d.length by omega), wbt (show 1 < d.length by omega)]
      by_cases ha : 3 < bt d 0
      · rw [ifd ha, if_pos ha]
      · have hae : 0 ≤ bt d 0 ∧ bt d 0 < 4 := by omega
        have hl2 := leastF_rng (n := bt d 1) (by omega)
        have hb2 := baseA_rng (bt d 0)
        rw [ifn ha, if_neg ha, great_is hae b1.1, Option.bind_some]
        dsimp only
        cases hg : greatB (bt d 0) (bt d 1) with
        | true => rw [ift, preF_great hg]; rfl
        | false =>
          have hr := restN_len hae hg
          have er : leastF (bt d 1) - baseA (bt d 0) = restN (bt d 0) (bt d 1) 0 := by unfold restN; omega
          rw [iff_, rleast_is (by omega), Option.bind_some, rbase_is hae, Option.bind_some]
          dsimp only
          rw [w64 (x := leastF (bt d 1) - baseA (bt d 0)) (by omega) (by omega), er, w64 (x := 14 + restN (bt d 0) (bt d 1) 0) (by omega) (by omega)]
          by_cases hs : (d.length : Int) < 14 + restN (bt d 0) (bt d 1) 0
          · rw [ifd hs, preF_short hg hr.1 hs]; rfl
          · have hcl := cut_length (s := d) (p := 14) (n := restN (bt d 0) (bt d 1) 0) (by omega) (by omega) (by omega)
            have ec : (d.take (14 + restN (bt d 0) (bt d 1) 0).toNat).drop 14 = cut_ d 14 (restN (bt d 0) (bt d 1) 0) := rfl
            have n22 : g_ref08_Number (cut_ d 2 2, ()) = some ((num (cut_ d 2 2), ()), ()) := number_is (by have := cut_length (s := d) (p := 2) (n := 2) (by omega) (by omega) (by omega); omega)
            have c24 : (d.take 4).drop 2 = cut_ d 2 2 := cut_take (p := 2) (n := 2) (q := 4) rfl
            have c68 : (d.take 14).drop 6 = cut_ d 6 8 := cut_take (p := 6) (n := 8) (q := 14) rfl
            rw [ifn hs, preF_fine hg hr.1 hs, if_pos (by omega), rsget_is (by simp; omega), Option.bind_some, ec, rwhole_is hae (by omega) (fun h => List.length_eq_zero_iff.1 (by have := hr.2.2.1 h; omega)) (fun h => by have := hr.2.2.2.1 h; omega), Option.bind_some, c24, n22, Option.bind_some, bind_at (show 4 < d.length by omega), wbt (show 4 < d.length by omega), c68]
            dsimp only [trip]
            rw [if_neg (show ¬ (0 : Int) ≠ 0 by decide)]
            generalize getS (d.drop (14 + restN (bt d 0) (bt d 1) 0).toNat) = x
            obtain ⟨x1, x2, x3⟩ := x
            dsimp only
            by_cases hx : x3 = 0
            · subst hx
              cases x2
              · rfl
              · rw [if_neg (show ¬ ((0 : Int) != 0) = true by decide), ifnt, if_neg (show ¬ ((0 : Int) ≠ 0 ∨ true = false) by decide), if_pos (show 0 ≤ (14 : Int) ∧ (14 : Int) ≤ 14 + restN (bt d 0) (bt d 1) 0 ∧ 14 + restN (bt d 0) (bt d 1) 0 ≤ (d.length : Int) by omega), if_pos (show ((10 : Int) == 10) = true from rfl), if_pos (show (10 : Int) = 10 from rfl), if_pos (show 0 ≤ (2 : Int) ∧ (2 : Int) ≤ (4 : Int) ∧ (4 : Int) ≤ (d.length : Int) by omega), if_pos (show 0 ≤ (6 : Int) ∧ (6 : Int) ≤ (14 : Int) ∧ (14 : Int) ≤ (d.length : Int) by omega)]
                by_cases h0 : bt d 0 = 0
                · rw [if_pos (show (bt d 0 == 0) = true by simp [h0]), if_pos (show bt d 0 = 0 ∨ bt d 4 = 0 from .inl h0)]
                · rw [if_neg (show ¬ (bt d 0 == 0) = true by simp [h0])]
                  by_cases h4 : bt d 4 = 0
                  · rw [if_pos (show (bt d 4 == 0) = true by simp [h4]), if_pos (show bt d 0 = 0 ∨ bt d 4 = 0 from .inr h4)]
                  · rw [if_neg (show ¬ (bt d 4 == 0) = true by simp [h4]), if_neg (show ¬ (bt d 0 = 0 ∨ bt d 4 = 0) from fun h => h.elim h0 h4)]
            · rw [if_pos (show (x3 != 0) = true by simp [hx]), if_pos (.inl hx)]
end Go.VP
