/- The document's reader and writer of addresses. -/
import Derived.Test.YtblajikhleocpaaDoorFQ0
import Derived.Test.YtblajikhleocpaaDoorPBase
import Derived.Test.YtblajikhleocpaaDoorPCur
import Derived.Test.YtblajikhleocpaaDoorPOct
import Derived.Test.YtblajikhleocpaaDoorPAddr
import Derived.Test.YtblajikhleocpaaDoorPNumR
import Derived.Test.YtblajikhleocpaaDoorPReadA
import Derived.Test.YtblajikhleocpaaDoorPTextR
import Derived.Test.YtblajikhleocpaaDoorXM
import Derived.Test.YtblajikhleocpaaDoorFH
import Derived.Test.YtblajikhleocpaaDoorX2
set_option linter.unusedVariables false
set_option linter.unusedSimpArgs false
set_option maxRecDepth 100000
namespace Go.VP
open Go Go.VI
theorem rnum_loop1 {n b : Nat} (hb : 2 ≤ b) (h16 : b ≤ 16) : ∀ (k m v : Nat) (acc : Bs), v < b ^ k → 1 ≤ k → k ≤ m → v < 1000000 → acc.length + k ≤ 100 → L_ref06_number_1 n m b v acc false = some ((numR b k v ++ acc, ()), ())
  | k + 1, m, v, acc, hv, _, hm, h6, ha => by
    obtain ⟨m, rfl⟩ : ∃ k, m = k + 1 := ⟨m - 1, by omega⟩
    have hmod := Nat.mod_lt v (show b > 0 by omega)
    have e1 : ((v : Int).tmod (b : Int)) = ((v % b : Nat) : Int) := by rw [Int.tmod_eq_emod_of_nonneg (by omega)]; simp
    have e2 : ((v : Int).tdiv (b : Int)) = ((v / b : Nat) : Int) := by rw [Int.tdiv_eq_ediv_of_nonneg (by omega)]; simp
    have e3 := Nat.div_le_self v b
    have e5 : (0 : Int) ≤ ((v / b : Nat) : Int) := Int.natCast_nonneg _
    have e6 : (0 : Int) ≤ ((v % b : Nat) : Int) := Int.natCast_nonneg _
    rw [L_ref06_number_1_eq, if_pos (by omega), if_pos (by omega), e1, e2, w64 (x := ((v % b : Nat) : Int) + 1) (by omega) (by omega), w64 (x := ((v / b : Nat) : Int)) (by omega) (by omega)]
    have e4 : ((([48, 49, 50, 51, 52, 53, 54, 55, 56, 57, 97, 98, 99, 100, 101, 102] : Bs).take (((v % b : Nat) : Int) + 1).toNat).drop ((v % b : Nat) : Int).toNat) = [digitC (v % b)] := by
      rw [Int.toNat_natCast, show (((v % b : Nat) : Int) + 1).toNat = v % b + 1 by omega]
      exact dg_cut (v % b) (by omega)
    rw [e4, if_pos (by omega), if_pos (maxB_of (by simp; omega)), if_pos (by omega), numR]
    by_cases h : v < b
    · rw [if_pos (by rw [beq_iff_eq, Nat.div_eq_of_lt h]; rfl), if_pos h, Nat.mod_eq_of_lt h]
    · have h1 : v / b < b ^ k := by rw [Nat.pow_succ] at hv; exact Nat.div_lt_of_lt_mul (by rw [Nat.mul_comm]; exact hv)
      have k1 : 1 ≤ k := by cases k with | zero => simp at hv; omega | succ k => omega
      have h2 : 1 ≤ v / b := Nat.div_pos (by omega) (by omega)
      rw [if_neg (by rw [beq_iff_eq]; omega), if_neg h, rnum_loop1 hb h16 k m (v / b) _ h1 k1 (by omega) (by omega) (by simp; omega), List.append_assoc]
theorem rnumber6_is {b v : Nat} (hb : 2 ≤ b) (h16 : b ≤ 16) (hv : v < b ^ 9) (h6 : v < 1000000) : g_ref06_number ((v : Int), (b : Int), ()) = some ((numR b 9 v, ()), ()) := by
  show h_ref06_number fuel _ = _
  rw [h_ref06_number_eq]
  have := rnum_loop1 (n := fuel) hb h16 9 fuel v [] hv (by omega) (Nat.le_of_lt (fuel_ge (by decide))) h6 (by simp)
  rw [List.append_nil] at this
  rw [← this]
  obtain ⟨k, hk⟩ : ∃ k, fuel = k + 1 := ⟨1125899906842623, rfl⟩
  rw [show ∀ m, L_ref06_number_0 m fuel b v [] = L_ref06_number_0 m (k + 1) b v [] from fun m => by rw [hk], show ∀ m, L_ref06_number_1 m fuel b v [] false = L_ref06_number_1 m (k + 1) b v [] false from fun m => by rw [hk], L_ref06_number_0_eq, L_ref06_number_1_eq]
/-- Where a letter stands among the first i digits. -/
def upto (i : Nat) (c : UInt8) : Int := if ix c < i then ((ix c : Nat) : Int) else -1
theorem ix_at (c : UInt8) (i : Nat) (hi : i < 16) : digitC i = c ↔ ix c = i := ⟨fun h => by rw [← h]; exact ix_digitC i hi, fun h => by rw [← h]; exact digitC_ix c (by omega)⟩
theorem rval_loop1 {n m0 b : Nat} {top : Int} {s : Bs} (h16 : b ≤ 16) (x : Int) (i : Nat) (hi : i < s.length) (hs : s.length ≤ 100) : ∀ (d j m : Nat), j + d = b → d < m →
    L_ref06_value_1 n m0 m s b top x i (upto j s[i]) j = if upto b s[i] < 0 then some (((-1), ()), ()) else L_ref06_value_0 n m0 s b top (IntKind.wrap .i64 ((IntKind.wrap .i64 (x * b)) + upto b s[i])) ((i + 1 : Nat) : Int)
  | 0, j, m, h, hm => by
    obtain ⟨m, rfl⟩ : ∃ k, m = k + 1 := ⟨m - 1, by omega⟩
    rw [L_ref06_value_1_eq, ifn (by omega), w64 (x := (i : Int) + 1) (by omega) (by omega), show j = b by omega]
    by_cases hn : upto b s[i] < 0
    · rw [ifd hn, if_pos hn]
    · rw [ifn hn, if_neg hn]; rfl
  | d + 1, j, m, h, hm => by
    obtain ⟨m, rfl⟩ : ∃ k, m = k + 1 := ⟨m - 1, by omega⟩
    rw [L_ref06_value_1_eq, ifd (by omega), if_pos (by omega), Int.toNat_natCast, show ([48, 49, 50, 51, 52, 53, 54, 55, 56, 57, 97, 98, 99, 100, 101, 102] : Bs)[j]? = some (digitC j) from dg_at j (by omega), Option.bind_some, if_pos (by omega), Int.toNat_natCast, bind_at hi, w64 (x := (j : Int) + 1) (by omega) (by omega)]
    have go := rval_loop1 (n := n) (m0 := m0) (top := top) h16 x i hi hs d (j + 1) m (by omega) (by omega)
    rw [show ((j + 1 : Nat) : Int) = (j : Int) + 1 by omega] at go
    by_cases hc : digitC j = s[i]
    · rw [if_pos (by rw [hc]; exact beq_self_eq_true _)]
      have := (ix_at s[i] j (by omega)).1 hc
      have hu : upto (j + 1) s[i] = (j : Int) := by unfold upto; rw [if_pos (by omega), this]
      rw [hu] at go
      exact go
    · have h1 : ix s[i] ≠ j := fun e => hc ((ix_at s[i] j (by omega)).2 e)
      rw [if_neg (by
        intro e
        have e := eq_of_beq e
        exact hc (u8_eq e))]
      rw [show upto j s[i] = upto (j + 1) s[i] by unfold upto; by_cases h2 : ix s[i] < j
                                                  · rw [if_pos h2, if_pos (by omega)]
                                                  · rw [if_neg h2, if_neg (by omega)]]
      exact go
def intN : Option Nat → Int
  | some v => (v : Int)
  | none => -1
theorem rval_loop0 {n b top : Nat} {s : Bs} (hb : 2 ≤ b) (h16 : b ≤ 16) (h9 : top ≤ b ^ 9) (ht : top ≤ 65536) (hs : s.length ≤ 5) (hn : 100 < n) : ∀ (d i m x : Nat), i + d = s.length → d < m → x < 16 ^ i → (d = s.length → x = 0) → vN b (s.take i) 0 = some x →
    L_ref06_value_0 n m s b top x i = some ((intN (valM b top s), ()), ())
  | 0, i, m, x, h, hm, hx, _, hv => by
    obtain ⟨m, rfl⟩ : ∃ k, m = k + 1 := ⟨m - 1, by omega⟩
    rw [List.take_of_length_le (by omega)] at hv
    rw [L_ref06_value_0_eq, ifn (by omega)]
    unfold valM
    rw [hv]
    dsimp only
    by_cases htop : top ≤ x
    · rw [ifd (by omega), if_neg (by omega)]; rfl
    · rw [ifn (by omega), rnumber6_is hb h16 (by omega) (by omega), Option.bind_some]
      by_cases he : numR b 9 x = s
      · have hX : (if x < top ∧ numR b 9 x = s then some x else none : Option Nat) = some x := if_pos ⟨by omega, he⟩
        rw [hX, he, if_neg (by simp)]; rfl
      · have hX : (if x < top ∧ numR b 9 x = s then some x else none : Option Nat) = none := if_neg (fun h => he h.2)
        rw [hX, if_pos (by simp [he])]; rfl
  | d + 1, i, m, x, h, hm, hx, h0, hv => by
    obtain ⟨m, rfl⟩ : ∃ k, m = k + 1 := ⟨m - 1, by omega⟩
    have hi : i < s.length := by omega
    have hx4 : x < 65536 := by
      have : i ≤ 4 := by omega
      match i, this with
      | 0, _ | 1, _ | 2, _ | 3, _ | 4, _ => omega
    have hxb : x * b ≤ x * 16 := Nat.mul_le_mul_left _ h16
    have e1 : ((x : Int) * (b : Int)) = ((x * b : Nat) : Int) := by simp
    have step := rval_loop1 (n := n) (m0 := m) (top := (top : Int)) h16 (x : Int) i hi (by omega) b 0 n (by omega) (by omega)
    rw [show upto 0 s[i] = -1 by unfold upto; rw [if_neg (by omega)]] at step
    have split_ : s = s.take i ++ s[i] :: s.drop (i + 1) := by rw [← List.drop_eq_getElem_cons hi, List.take_append_drop]
    rw [L_ref06_value_0_eq, ifd (by omega)]
    refine Eq.trans step ?_
    by_cases hd : ix s[i] < b
    · have hu : upto b s[i] = ((ix s[i] : Nat) : Int) := by unfold upto; rw [if_pos hd]
      rw [hu, if_neg (by omega), e1, w64 (x := ((x * b : Nat) : Int)) (by omega) (by omega), w64 (by omega) (by omega)]
      have := rval_loop0 (n := n) hb h16 h9 ht hs hn d (i + 1) m (x * b + ix s[i]) (by omega) (by omega) (by rw [Nat.pow_succ]; omega) (by omega) (by
        rw [List.take_succ_eq_append_getElem hi, vN_append, hv]
        show vN b [s[i]] x = _
        rw [vN, show dv b s[i] = some (ix s[i]) by unfold dv; rw [if_pos hd]]
        rfl)
      rw [show ((x * b + ix s[i] : Nat) : Int) = ((x * b : Nat) : Int) + ((ix s[i] : Nat) : Int) by omega] at this
      exact this
    · have hu : upto b s[i] = -1 := by unfold upto; rw [if_neg hd]
      rw [hu, if_pos (by decide)]
      have : valM b top s = none := by
        unfold valM
        rw [split_, vN_append, hv]
        show (match vN b (s[i] :: s.drop (i + 1)) x with | some v => _ | none => _) = _
        rw [vN, show dv b s[i] = none by unfold dv; rw [if_neg hd]]
      rw [this]; rfl
theorem rvalue_is {b top : Nat} {s : Bs} (hb : 2 ≤ b) (h16 : b ≤ 16) (h9 : top ≤ b ^ 9) (h5 : top ≤ b ^ 5) (ht : top ≤ 65536) (hl : s.length ≤ 1000000) : g_ref06_value (s, (b : Int), (top : Int), ()) = some ((intN (valM b top s), ()), ()) := by
  show h_ref06_value fuel _ = _
  rw [h_ref06_value_eq]
  by_cases h1 : s.length < 1
  · have : s = [] := List.length_eq_zero_iff.1 (by omega)
    subst this
    rw [ifd (by decide), val_not_can hb h16 h9 (fun h => h.1 rfl)]; rfl
  · rw [ifn (by omega)]
    by_cases h2 : 5 < s.length
    · rw [ifd (by omega)]
      cases hv : valM b top s with
      | none => rfl
      | some v =>
        have h3 := valM_some hv
        have h4 := numR_fuel b hb 9 5 v (by omega) (by omega) (by omega) (by omega)
        have h6 := numR_le b 5 v
        rw [← h4, h3.2] at h6
        omega
    · rw [ifn (by omega)]
      exact rval_loop0 (n := fuel) hb h16 h9 ht (by omega) (fuel_ge (by decide)) s.length 0 fuel 0 (by omega) (fuel_ge (by omega)) (by decide) (fun _ => rfl) (by simp [vN])
end Go.VP
