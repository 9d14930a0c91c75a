/- The message of a TLV of fields. -/
import Derived.Test.YtabekdfijifnfaaQFH
import Derived.Test.YtabekdfijifnfaaQFQ5
import Derived.Test.YtabekdfijifnfaaQFQ7
import Derived.Test.YtabekdfijifnfaaQPBase
import Derived.Test.YtabekdfijifnfaaQPCur
import Derived.Test.YtabekdfijifnfaaQPOct
import Derived.Test.YtabekdfijifnfaaQPTlv
import Derived.Test.YtabekdfijifnfaaQPSub
import Derived.Test.YtabekdfijifnfaaQPMsg
import Derived.Test.YtabekdfijifnfaaQPAddr
import Derived.Test.YtabekdfijifnfaaQPField
set_option linter.unusedVariables false
set_option linter.unusedSimpArgs false
set_option maxRecDepth 100000
namespace Go.VP
open Go Go.VI
abbrev msg0 : Msg := ⟨0, 0, 0, [], 0, 0, [], 0, 0, [], 0, [], 0, 0, 0, 0, 0, 0, 0, [], [], [], 0, [], []⟩
def finG (F : List Sub → Msg) (x : List Sub × Bool × Int) : Msg × Bool × Int := if (x.2.2 != 0) = true then (msg0, false, x.2.2) else if (!x.2.1) = true then (msg0, false, x.2.2) else (F x.1, true, 0)
theorem finG_some (F : List Sub → Msg) (x : List Sub × Bool × Int) : (if (x.2.2 != 0) = true then (some ((msg0, false, x.2.2, ()), ()) : Option ((Msg × Bool × Int × Unit) × Unit)) else (if (!x.2.1) = true then some ((msg0, false, x.2.2, ()), ()) else some ((F x.1, true, 0, ()), ()))) = some (trip (finG F x), ()) := by
  unfold finG trip
  by_cases h : (x.2.2 != 0) = true
  · rw [if_pos h, if_pos h]
  · rw [if_neg h, if_neg h]
    by_cases h2 : (!x.2.1) = true
    · rw [if_pos h2, if_pos h2]
    · rw [if_neg h2, if_neg h2]
def lenA (ae : Int) : Int := if ae = 0 then 0 else if ae = 1 then 4 else if ae = 2 then 16 else 8
def fieldG (ty : Int) (d : Bs) : Msg × Bool × Int :=
  if ty = 2 then (if d.length < 6 then (msg0, false, 2) else finG (fun l => ⟨7, 0, 0, [], 0, 0, [], 0, 0, [], 0, [], 0, 0, num (cut_ d 4 2), 0, 0, num (cut_ d 2 2), 0, [], [], [], 0, [], l⟩) (getS (d.drop 6)))
  else if ty = 3 then (if d.length < 2 then (msg0, false, 2) else finG (fun l => ⟨8, 0, 0, [], 0, 0, [], 0, 0, [], 0, [], 0, 0, 0, 0, 0, num (cut_ d 0 2), 0, [], [], [], 0, [], l⟩) (getS (d.drop 2)))
  else if ty = 4 then (if d.length < 6 then (msg0, false, 2) else finG (fun l => ⟨9, 0, 0, [], 0, 0, [], 0, 0, [], 0, [], num (cut_ d 2 2), 0, num (cut_ d 4 2), bt d 0 / 128, 0, 0, 0, [], [], [], 0, [], l⟩) (getS (d.drop 6)))
  else if d.length < 6 then (msg0, false, 2)
  else if 3 < bt d 0 then (msg0, false, 0)
  else if (d.length : Int) < 6 + lenA (bt d 0) then (msg0, false, 2)
  else finG (fun l => ⟨10, 0, 0, [], 0, bt d 0, [], 0, 0, [], 0, [], 0, 0, num (cut_ d 4 2), 0, 0, 0, num (cut_ d 2 2), if bt d 0 = 3 then linkP ++ cut_ d 6 8 else cut_ d 6 (lenA (bt d 0)), [], [], 0, [], l⟩) (getS (d.drop (6 + lenA (bt d 0)).toNat))
theorem hi_lo (d : Bs) (h : 2 ≤ d.length) : num (cut_ d 0 2) = bt d 0 * 256 + bt d 1 := num2 (p := 0) (by omega)
theorem bt_lt2 (d : Bs) (h : 2 ≤ d.length) : num (cut_ d 0 2) / 256 = bt d 0 := by
  have := bt_rng d 0; have := bt_rng d 1; rw [hi_lo d h]; omega
theorem bt_128 (d : Bs) (h : 2 ≤ d.length) : num (cut_ d 0 2) / 32768 = bt d 0 / 128 := by
  have := bt_rng d 0; have := bt_rng d 1; rw [hi_lo d h]; omega
theorem rlen_is {ae : Int} (h : 0 ≤ ae ∧ ae ≤ 3) : g_ref20_Long (ae, ()) = some ((lenA ae, ()), ()) := by
  rw [g_ref20_Long_eq]
  have : ae = 0 ∨ ae = 1 ∨ ae = 2 ∨ ae = 3 := by omega
  rcases this with rfl | rfl | rfl | rfl <;> rfl
theorem cut_take {d : Bs} {p n q : Nat} (h : q = p + n) : (d.take q).drop p = cut_ d p n := by
  subst h; unfold cut_
  rw [show ((p : Int) + (n : Int)).toNat = p + n by omega, Int.toNat_natCast]
theorem rgetF_is {ty at_ : Int} {d : Bs} (hd : d.length ≤ 1000) (ht : 2 ≤ ty ∧ ty ≤ 5) : g_ref20_Get (⟨ty, at_, d⟩, ()) = some (trip (fieldG ty d), ()) := by
  have cl : ∀ p n : Nat, p + n ≤ d.length → n ≤ 7 → g_ref08_Number (cut_ d p n, ()) = some ((num (cut_ d p n), ()), ()) := fun p n h h7 => by
    have := cut_length (s := d) (p := p) (n := n) (by omega) (by omega) (by omega)
    exact number_is (by omega)
  have n02 : 2 ≤ d.length → g_ref08_Number (cut_ d 0 2, ()) = some ((num (cut_ d 0 2), ()), ()) := fun h => cl 0 2 h (by omega)
  have n22 : 4 ≤ d.length → g_ref08_Number (cut_ d 2 2, ()) = some ((num (cut_ d 2 2), ()), ()) := fun h => cl 2 2 h (by omega)
  have n42 : 6 ≤ d.length → g_ref08_Number (cut_ d 4 2, ()) = some ((num (cut_ d 4 2), ()), ()) := fun h => cl 4 2 h (by omega)
  have c02 : d.take 2 = cut_ d 0 2 := cut_take (p := 0) (n := 2) (q := 2) rfl
  have c24 : (d.take 4).drop 2 = cut_ d 2 2 := cut_take (p := 2) (n := 2) (q := 4) rfl
  have c46 : (d.take 6).drop 4 = cut_ d 4 2 := cut_take (p := 4) (n := 2) (q := 6) rfl
  rw [g_ref20_Get_eq]
  dsimp only
  unfold fieldG
  have hb := bt_rng d 0
  have hcase : ty = 2 ∨ ty = 3 ∨ ty = 4 ∨ ty = 5 := by omega
  rcases hcase with rfl | rfl | rfl | rfl
  · rw [if_neg (show ¬ ((2 : Int) == 3) = true by decide), if_pos (show (2 : Int) = 2 from rfl)]
    by_cases h : d.length < 6
    · rw [ifd (by omega), if_pos h]
    · rw [ifn (by omega), if_neg h, if_pos (by decide), if_pos (by omega), c24, n22 (by omega), Option.bind_some, if_pos (by omega), c46, n42 (by omega), Option.bind_some, if_pos (by omega), rsget_is (by simp; omega), Option.bind_some]
      exact finG_some _ _
  · rw [if_pos (show ((3 : Int) == 3) = true from rfl), if_neg (show ¬ ((3 : Int) = 2) by decide), if_pos (show (3 : Int) = 3 from rfl)]
    by_cases h : d.length < 2
    · rw [ifd (by omega), if_pos h]
    · rw [ifn (by omega), if_neg h, if_neg (by decide), if_pos (by decide), if_pos (by omega), c02, n02 (by omega), Option.bind_some, if_pos (by omega), rsget_is (by simp; omega), Option.bind_some]
      exact finG_some _ _
  · rw [if_neg (show ¬ ((4 : Int) == 3) = true by decide), if_neg (show ¬ ((4 : Int) = 2) by decide), if_neg (show ¬ ((4 : Int) = 3) by decide), if_pos (show (4 : Int) = 4 from rfl)]
    by_cases h : d.length < 6
    · rw [ifd (by omega), if_pos h]
    · have e : (IntKind.wrap .i64 ((IntKind.wrap .i64 (((d[0]'(by omega)).toNat : Nat) : Int)).tdiv 128)) = bt d 0 / 128 := by
        have h0 : (((d[0]'(by omega)).toNat : Nat) : Int) = bt d 0 := by simp [bt, List.getElem?_eq_getElem (show 0 < d.length by omega)]
        rw [h0, w64 (x := bt d 0) (by omega) (by omega), Int.tdiv_eq_ediv_of_nonneg hb.1, w64 (by omega) (by omega)]
      rw [ifn (by omega), if_neg h, if_neg (by decide), if_neg (by decide), if_pos (by decide), bind_at (show 0 < d.length by omega), if_pos (by omega), c24, n22 (by omega), Option.bind_some, if_pos (by omega), c46, n42 (by omega), Option.bind_some, if_pos (by omega), rsget_is (by simp; omega), Option.bind_some, e]
      exact finG_some _ _
  · rw [if_neg (show ¬ ((5 : Int) == 3) = true by decide), if_neg (show ¬ ((5 : Int) = 2) by decide), if_neg (show ¬ ((5 : Int) = 3) by decide), if_neg (show ¬ ((5 : Int) = 4) by decide)]
    by_cases h : d.length < 6
    · rw [ifd (by omega), if_pos h]
    · have e : IntKind.wrap .i64 (((d[0]'(by omega)).toNat : Nat) : Int) = bt d 0 := by
        have h0 : (((d[0]'(by omega)).toNat : Nat) : Int) = bt d 0 := by simp [bt, List.getElem?_eq_getElem (show 0 < d.length by omega)]
        rw [h0, w64 (x := bt d 0) (by omega) (by omega)]
      rw [ifn (by omega), if_neg h, if_neg (by decide), if_neg (by decide), if_neg (by decide), bind_at (show 0 < d.length by omega), if_pos (by omega), c24, n22 (by omega), Option.bind_some, if_pos (by omega), c46, n42 (by omega), Option.bind_some, e]
      by_cases ha : 3 < bt d 0
      · rw [ifd ha, if_pos ha]
      · have hn : 0 ≤ lenA (bt d 0) ∧ lenA (bt d 0) ≤ 16 := by unfold lenA; split <;> (try split) <;> (try split) <;> omega
        rw [ifn ha, if_neg ha, rlen_is ⟨hb.1, by omega⟩, Option.bind_some]
        dsimp only
        rw [w64 (x := 6 + lenA (bt d 0)) (by omega) (by omega)]
        by_cases hl : (d.length : Int) < 6 + lenA (bt d 0)
        · rw [ifd hl, if_pos hl]
        · have ec : (d.take (6 + lenA (bt d 0)).toNat).drop 6 = cut_ d 6 (lenA (bt d 0)) := rfl
          rw [ifn hl, if_neg hl, if_pos (by omega), ec, rsget_is (by simp; omega)]
          by_cases h3 : bt d 0 = 3
          · have h8 : lenA (bt d 0) = 8 := by rw [h3]; rfl
            have : longF (cut_ d 6 8) = (linkP ++ cut_ d 6 8, true) := by unfold longF; have := cut_length (s := d) (p := 6) (n := 8) (by omega) (by omega) (by omega); rw [if_pos (by omega)]
            rw [if_pos (show (bt d 0 == 3) = true by simp [h3]), if_pos h3, h8, rlong_is, this, Option.bind_some, Option.bind_some, if_pos (by omega)]
            exact finG_some _ _
          · rw [if_neg (show ¬ (bt d 0 == 3) = true by simp [h3]), if_neg h3, Option.bind_some, if_pos (by omega)]
            exact finG_some _ _
end Go.VP
