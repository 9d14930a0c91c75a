/- Words that all pure texts use: wrapping, bounds, bits, rows of bytes. -/
import Derived.Test.YthmafkkiefndnaaGreatQFH
set_option linter.unusedVariables false
set_option linter.unusedSimpArgs false
set_option maxRecDepth 100000
namespace Go.VP
open Go Go.VI
abbrev Bs := List UInt8
theorem w64 {x : Int} (h : -9223372036854775808 ≤ x) (h' : x ≤ 9223372036854775807) : IntKind.wrap .i64 x = x := by
  simp only [IntKind.wrap, IntKind.bits, IntKind.signed]
  simp
  omega
theorem wu64 {x : Int} (h : 0 ≤ x) (h' : x ≤ 18446744073709551615) : IntKind.wrap .u64 x = x := by
  simp only [IntKind.wrap, IntKind.bits, IntKind.signed]
  simp
  omega
theorem has64 {x : Int} : IntKind.has .i64 x ↔ -9223372036854775808 ≤ x ∧ x ≤ 9223372036854775807 := by
  simp only [IntKind.has, IntKind.min, IntKind.max, IntKind.bits, IntKind.signed]
  simp
theorem maxB_of {n : Nat} (h : n ≤ 9223372036854775807) : maxB n = true := Nat.ble_eq_true_of_le h
theorem fuel_pos : ∃ n, fuel = n + 1000000000000 := ⟨1124899906842624, rfl⟩
theorem fuel_ge {n : Nat} (h : n ≤ 1125899906842623) : n < fuel := Nat.lt_succ_of_le h
theorem u8_eq {a b : UInt8} (h : (a.toNat : Int) = b.toNat) : a = b := UInt8.toNat.inj (by omega)
def be : Nat → Int → Bs
  | 0, _ => []
  | k + 1, n => be k (n / 256) ++ [u8of (n % 256)]
theorem be_length : ∀ (k : Nat) (n : Int), (be k n).length = k
  | 0, _ => rfl
  | k + 1, n => by simp [be, be_length k]
theorem bind_at {α β : Type} {l : List α} {i : Nat} (h : i < l.length) (f : α → Option β) : (l[i]?.bind f) = f (l[i]'h) := by simp [h]
end Go.VP
