/- Numbers as bytes; whether they fit. -/
import Derived.Test.YtabekdfijifnfaaQFQ1
import Derived.Test.YtabekdfijifnfaaQFQ2
import Derived.Test.YtabekdfijifnfaaQFQ3
import Derived.Test.YtabekdfijifnfaaQFQ5
import Derived.Test.YtabekdfijifnfaaQPBase
import Derived.Test.YtabekdfijifnfaaQPCur
set_option linter.unusedVariables false
set_option linter.unusedSimpArgs false
set_option maxRecDepth 100000
namespace Go.VP
open Go Go.VI
theorem ifd {α : Sort _} {p : Prop} [d : Decidable p] {a b : α} (h : p) : (if decide p = true then a else b) = a := if_pos (decide_eq_true h)
theorem ifn {α : Sort _} {p : Prop} [d : Decidable p] {a b : α} (h : ¬ p) : (if decide p = true then a else b) = b := if_neg (by simpa using h)
theorem ift {α : Sort _} {a b : α} : (if true = true then a else b) = a := rfl
theorem iff_ {α : Sort _} {a b : α} : (if false = true then a else b) = b := rfl
theorem ifnt {α : Sort _} {a b : α} : (if (!true) = true then a else b) = b := rfl
theorem ifnf {α : Sort _} {a b : α} : (if (!false) = true then a else b) = a := rfl
def fitsB (n : Int) (k : Nat) : Bool := decide (0 ≤ n ∧ n < 256 ^ k)
theorem pow8 (k : Nat) : (2 : Int) ^ (8 * k) = 256 ^ k := by rw [Int.pow_mul]; rfl
theorem fits_is {n : Int} {k : Nat} (hn : IntKind.has .i64 n) (h1 : 1 ≤ k) (h7 : k ≤ 7) : g_octet_Fits (n, (k : Int), ()) = some ((fitsB n k, ()), ()) := by
  rw [has64] at hn
  rw [g_octet_Fits_eq, ifd (by omega), ifd (by omega)]
  by_cases h0 : 0 ≤ n
  · rw [ifd h0, w64 (x := 8 * (k : Int)) (by omega) (by omega), wu64 (by omega) (by omega), if_pos (by omega)]
    have e : ishr .i64 n (8 * (k : Int)) = n / 256 ^ k := by
      unfold ishr
      rw [show min (8 * (k : Int)).toNat IntKind.i64.bits = 8 * k by simp only [IntKind.bits]; omega, pow8]
      exact Int.fdiv_eq_ediv_of_nonneg _ (Int.pow_nonneg (by decide))
    have hp : (0 : Int) < 256 ^ k := Int.pow_pos (by decide)
    rw [e]
    unfold fitsB
    by_cases hlt : n < 256 ^ k
    · rw [Int.ediv_eq_zero_of_lt h0 hlt]; simp [h0, hlt]
    · have : 1 ≤ n / 256 ^ k := Int.le_ediv_of_mul_le hp (by omega)
      have h2 : (n / 256 ^ k == 0) = false := by simp; omega
      rw [h2]; simp [hlt]
  · rw [ifn h0]; simp [fitsB, h0]
theorem rfits_loop {n x i : Int} {k c : Nat} (hk : k ≤ 7) : ∀ (d : Nat) (m i : Nat), i + d = k → d < m → x = 256 ^ i → L_ref02_Fits_0 c m n k x i = some ((decide (n < 256 ^ k), ()), ()) := by
  intro d
  induction d generalizing x with
  | zero =>
    intro m i h hm hx
    obtain ⟨m, rfl⟩ : ∃ k, m = k + 1 := ⟨m - 1, by omega⟩
    rw [L_ref02_Fits_0_eq, ifn (by omega), hx, show i = k by omega]
  | succ d ih =>
    intro m i h hm hx
    obtain ⟨m, rfl⟩ : ∃ k, m = k + 1 := ⟨m - 1, by omega⟩
    have hp : (256 : Int) ^ i ≤ 281474976710656 ∧ 0 ≤ (256 : Int) ^ i := by
      have : i ≤ 6 := by omega
      match i, this with
      | 0, _ | 1, _ | 2, _ | 3, _ | 4, _ | 5, _ | 6, _ => decide
    rw [L_ref02_Fits_0_eq, ifd (by omega), w64 (x := x * 256) (by omega) (by omega), w64 (by omega) (by omega)]
    have := ih (x := x * 256) m (i + 1) (by omega) (by omega) (by rw [hx, Int.pow_succ])
    rw [show ((i + 1 : Nat) : Int) = (i : Int) + 1 by omega] at this
    exact this
theorem rfits_is {n : Int} {k : Nat} (h1 : 1 ≤ k) (h7 : k ≤ 7) : g_ref02_Fits (n, (k : Int), ()) = some ((fitsB n k, ()), ()) := by
  show h_ref02_Fits fuel _ = _
  rw [h_ref02_Fits_eq, ifn (by omega), ifn (by omega)]
  unfold fitsB
  by_cases h0 : n < 0
  · rw [ifd h0]; simp; omega
  · have := rfits_loop (n := n) (x := 1) (i := 0) (c := fuel) h7 k fuel 0 (by omega) (fuel_ge (by omega)) (by simp)
    rw [ifn h0]
    simp only [Int.natCast_zero] at this
    rw [this]
    simp; omega
def oput (n : Int) (k : Nat) : Bs × Bool := if fitsB n k = true then (be k n, true) else ([], false)
theorem rput_loop {c k : Nat} (hk : k ≤ 7) : ∀ (d : Nat) (m i : Nat) (x : Int) (acc : Bs), i + d = k → d < m → 0 ≤ x → x ≤ 9223372036854775807 → acc.length = i → L_ref02_Put_0 c m k x acc i = some ((be d x ++ acc, true, ()), ()) := by
  intro d
  induction d with
  | zero =>
    intro m i x acc h hm h0 h1 ha
    obtain ⟨m, rfl⟩ : ∃ k, m = k + 1 := ⟨m - 1, by omega⟩
    rw [L_ref02_Put_0_eq, ifn (by omega)]
    rfl
  | succ d ih =>
    intro m i x acc h hm h0 h1 ha
    obtain ⟨m, rfl⟩ : ∃ k, m = k + 1 := ⟨m - 1, by omega⟩
    have e1 : Int.tmod x 256 = x % 256 := Int.tmod_eq_emod_of_nonneg h0
    have e2 : Int.tdiv x 256 = x / 256 := Int.tdiv_eq_ediv_of_nonneg h0
    rw [L_ref02_Put_0_eq, ifd (by omega), if_pos (maxB_of (by simp; omega)), e1, e2, w64 (by omega) (by omega), w64 (by omega) (by omega), wu8, Int.emod_emod_of_dvd _ (by decide : (256 : Int) ∣ 256)]
    have := ih m (i + 1) (x / 256) ([u8of (x % 256)] ++ acc) (by omega) (by omega) (by omega) (by omega) (by simp; omega)
    rw [show ((i + 1 : Nat) : Int) = (i : Int) + 1 by omega] at this
    rw [this, be]
    simp
theorem rput_is {n : Int} {k : Nat} (hn : IntKind.has .i64 n) (h1 : 1 ≤ k) (h7 : k ≤ 7) : g_ref02_Put (n, (k : Int), ()) = some (((oput n k).1, (oput n k).2, ()), ()) := by
  rw [has64] at hn
  show h_ref02_Put fuel _ = _
  rw [h_ref02_Put_eq, rfits_is h1 h7, Option.bind_some]
  dsimp only
  unfold oput
  by_cases h : fitsB n k = true
  · have h2 : 0 ≤ n ∧ n < 256 ^ k := by simpa [fitsB] using h
    have := rput_loop (c := fuel) h7 k fuel 0 n [] (by omega) (fuel_ge (by omega)) h2.1 hn.2 rfl
    rw [show ((0 : Nat) : Int) = 0 from rfl] at this
    rw [h, ifnt, this, ift]
    simp
  · rw [Bool.not_eq_true] at h
    rw [h, ifnf, iff_]
theorem rof_is {n : Int} {k : Nat} (hn : IntKind.has .i64 n) (h1 : 1 ≤ k) (h7 : k ≤ 7) : g_ref02_Of (n, (k : Int), ()) = some (((oput n k).1, ()), ()) := by
  rw [g_ref02_Of_eq, rput_is hn h1 h7]; rfl
theorem number_loop {n : Nat} {l : Bs} (hl : l.length ≤ 7) : ∀ (d i m : Nat) (x : Int), i + d = l.length → d < m → x = num (l.take i) → L_ref08_Number_0 n m l x i = some ((num l, ()), ())
  | 0, i, m, x, h, hm, hx => by
    obtain ⟨m, rfl⟩ : ∃ k, m = k + 1 := ⟨m - 1, by omega⟩
    rw [L_ref08_Number_0_eq, ifn (by omega), hx, List.take_of_length_le (by omega)]
  | d + 1, i, m, x, h, hm, hx => by
    obtain ⟨m, rfl⟩ : ∃ k, m = k + 1 := ⟨m - 1, by omega⟩
    have hi : i < l.length := by omega
    have hp := num_rng (l.take i)
    have hp2 : (256 : Int) ^ (l.take i).length ≤ 256 ^ 6 := by
      have : (l.take i).length ≤ 6 := by simp; omega
      generalize (l.take i).length = z at this
      match z, this with
      | 0, _ | 1, _ | 2, _ | 3, _ | 4, _ | 5, _ | 6, _ => decide
    have hp3 : (256 : Int) ^ 6 = 281474976710656 := by decide
    have hb := (l[i]).toNat_lt
    rw [L_ref08_Number_0_eq, ifd (by omega), ifd (by omega), if_pos (by omega), Int.toNat_natCast, bind_at hi, w64n, hx, w64 (x := num (l.take i) * 256) (by omega) (by omega), w64 (by omega) (by omega), w64 (by omega) (by omega)]
    have := number_loop (n := n) hl d (i + 1) m (num (l.take i) * 256 + (l[i].toNat : Int)) (by omega) (by omega) (by rw [List.take_succ_eq_append_getElem hi, num_append])
    rw [show ((i + 1 : Nat) : Int) = (i : Int) + 1 by omega] at this
    exact this
theorem number_is {l : Bs} (hl : l.length ≤ 7) : g_ref08_Number (l, ()) = some ((num l, ()), ()) := by
  show h_ref08_Number fuel _ = _
  rw [h_ref08_Number_eq]
  exact number_loop (n := fuel) hl l.length 0 fuel 0 (by omega) (fuel_ge (by omega)) rfl
end Go.VP
