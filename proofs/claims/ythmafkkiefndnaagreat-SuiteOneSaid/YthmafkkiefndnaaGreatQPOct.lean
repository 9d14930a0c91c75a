/- Numbers as bytes; whether they fit. -/
import Derived.Test.YthmafkkiefndnaaGreatQFQ1
import Derived.Test.YthmafkkiefndnaaGreatQFH
import Derived.Test.YthmafkkiefndnaaGreatQFQ7
import Derived.Test.YthmafkkiefndnaaGreatQPBase
import Derived.Test.YthmafkkiefndnaaGreatQPCur
set_option linter.unusedVariables false
set_option linter.unusedSimpArgs false
set_option maxRecDepth 100000
namespace Go.VP
open Go Go.VI
theorem ifd {α : Sort _} {p : Prop} [d : Decidable p] {a b : α} (h : p) : (if decide p = true then a else b) = a := if_pos (decide_eq_true h)
theorem ifn {α : Sort _} {p : Prop} [d : Decidable p] {a b : α} (h : ¬ p) : (if decide p = true then a else b) = b := if_neg (by simpa using h)
theorem ift {α : Sort _} {a b : α} : (if true = true then a else b) = a := rfl
theorem iff_ {α : Sort _} {a b : α} : (if false = true then a else b) = b := rfl
theorem ifnt {α : Sort _} {a b : α} : (if (!true) = true then a else b) = b := rfl
theorem ifnf {α : Sort _} {a b : α} : (if (!false) = true then a else b) = a := rfl
def fitsB (n : Int) (k : Nat) : Bool := decide (0 ≤ n ∧ n < 256 ^ k)
theorem pow8 (k : Nat) : (2 : Int) ^ (8 * k) = 256 ^ k := by rw [Int.pow_mul]; rfl
theorem fits_is {n : Int} {k : Nat} (hn : IntKind.has .i64 n) (h1 : 1 ≤ k) (h7 : k ≤ 7) : g_octet_Fits (n, (k : Int), ()) = some ((fitsB n k, ()), ()) := by
  rw [has64] at hn
  rw [g_octet_Fits_eq, ifd (by omega), ifd (by omega)]
  by_cases h0 : 0 ≤ n
  · rw [ifd h0, w64 (x := 8 * (k : Int)) (by omega) (by omega), wu64 (by omega) (by omega), if_pos (by omega)]
    have e : ishr .i64 n (8 * (k : Int)) = n / 256 ^ k := by
      unfold ishr
      rw [show min (8 * (k : Int)).toNat IntKind.i64.bits = 8 * k by simp only [IntKind.bits]; omega, pow8]
      exact Int.fdiv_eq_ediv_of_nonneg _ (Int.pow_nonneg (by decide))
    have hp : (0 : Int) < 256 ^ k := Int.pow_pos (by decide)
    rw [e]
    unfold fitsB
    by_cases hlt : n < 256 ^ k
    · rw [Int.ediv_eq_zero_of_lt h0 hlt]; simp [h0, hlt]
    · have : 1 ≤ n / 256 ^ k := Int.le_ediv_of_mul_le hp (by omega)
      have h2 : (n / 256 ^ k == 0) = false := by simp; omega
      rw [h2]; simp [hlt]
  · rw [ifn h0]; simp [fitsB, h0]
end Go.VP
