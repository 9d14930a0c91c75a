/- Words that all pure texts use: wrapping, bounds, bits, rows of bytes. -/
import Derived.Test.YtabekdfijifnfaaQFH
set_option linter.unusedVariables false
set_option linter.unusedSimpArgs false
set_option maxRecDepth 100000
namespace Go.VP
open Go Go.VI
abbrev Bs := List UInt8
theorem w64 {x : Int} (h : -9223372036854775808 ≤ x) (h' : x ≤ 9223372036854775807) : IntKind.wrap .i64 x = x := by
  simp only [IntKind.wrap, IntKind.bits, IntKind.signed]
  simp
  omega
theorem wu64 {x : Int} (h : 0 ≤ x) (h' : x ≤ 18446744073709551615) : IntKind.wrap .u64 x = x := by
  simp only [IntKind.wrap, IntKind.bits, IntKind.signed]
  simp
  omega
theorem wu8 {x : Int} : IntKind.wrap .u8 x = x % 256 := by
  simp only [IntKind.wrap, IntKind.bits, IntKind.signed]
  simp
theorem w64n (b : UInt8) : IntKind.wrap .i64 (b.toNat : Int) = b.toNat := by
  have := b.toNat_lt; exact w64 (by omega) (by omega)
theorem has64 {x : Int} : IntKind.has .i64 x ↔ -9223372036854775808 ≤ x ∧ x ≤ 9223372036854775807 := by
  simp only [IntKind.has, IntKind.min, IntKind.max, IntKind.bits, IntKind.signed]
  simp
theorem has8 {x : Int} : IntKind.has .u8 x ↔ 0 ≤ x ∧ x ≤ 255 := by
  simp only [IntKind.has, IntKind.min, IntKind.max, IntKind.bits, IntKind.signed]
  simp
theorem maxB_of {n : Nat} (h : n ≤ 9223372036854775807) : maxB n = true := Nat.ble_eq_true_of_le h
theorem roomB_of {n : Nat} (h : n ≤ 35184372088832) : roomB n = true := Nat.ble_eq_true_of_le h
theorem fuel_pos : ∃ n, fuel = n + 1000000000000 := ⟨1124899906842624, rfl⟩
theorem fuel_ge {n : Nat} (h : n ≤ 1125899906842623) : n < fuel := Nat.lt_succ_of_le h
theorem ib8_xor {a b : Nat} (ha : a < 256) (hb : b < 256) : ibits .xor .u8 (a : Int) (b : Int) = ((a ^^^ b : Nat) : Int) := by
  unfold ibits
  show IntKind.wrap .u8 (((BitVec.ofInt 8 (a : Int) ^^^ BitVec.ofInt 8 (b : Int)).toNat : Nat) : Int) = _
  have h : a ^^^ b < 256 := Nat.xor_lt_two_pow (n := 8) ha hb
  rw [BitVec.toNat_xor, BitVec.ofInt_natCast, BitVec.ofInt_natCast, BitVec.toNat_ofNat, BitVec.toNat_ofNat, Nat.mod_eq_of_lt ha, Nat.mod_eq_of_lt hb, wu8]
  omega
theorem u8of_int (n : Int) : ((u8of n).toNat : Int) = if 0 ≤ n then n % 256 else 0 := by
  unfold u8of
  have : (n.toNat.toUInt8).toNat = n.toNat % 256 := by simp
  rw [this]
  split <;> omega
theorem u8of_emod' {n : Int} (h : 0 ≤ n) : u8of (n % 256) = u8of n := by
  apply UInt8.toNat.inj
  have h1 := u8of_int (n % 256); have h2 := u8of_int n
  rw [if_pos (by omega)] at h1; rw [if_pos h] at h2; omega
theorem u8_eq {a b : UInt8} (h : (a.toNat : Int) = b.toNat) : a = b := UInt8.toNat.inj (by omega)
def num (l : Bs) : Int := l.foldl (fun n b => n * 256 + (b.toNat : Int)) 0
theorem foldl_rng : ∀ (l : Bs) (x : Int), 0 ≤ x → 0 ≤ l.foldl (fun n b => n * 256 + (b.toNat : Int)) x ∧ l.foldl (fun n b => n * 256 + (b.toNat : Int)) x < (x + 1) * 256 ^ l.length
  | [], x, h => by simp; omega
  | b :: l, x, h => by
    have hb := b.toNat_lt
    obtain ⟨h1, h2⟩ := foldl_rng l (x * 256 + (b.toNat : Int)) (by omega)
    refine ⟨h1, Int.lt_of_lt_of_le h2 ?_⟩
    rw [List.length_cons, Int.pow_succ, Int.mul_comm (256 ^ l.length) 256, ← Int.mul_assoc]
    exact Int.mul_le_mul_of_nonneg_right (by omega) (Int.pow_nonneg (by decide))
theorem num_rng (l : Bs) : 0 ≤ num l ∧ num l < 256 ^ l.length := by
  have := foldl_rng l 0 (by omega)
  rw [Int.zero_add, Int.one_mul] at this
  exact this
theorem num_append (a : Bs) (b : UInt8) : num (a ++ [b]) = num a * 256 + b.toNat := by simp [num]
def be : Nat → Int → Bs
  | 0, _ => []
  | k + 1, n => be k (n / 256) ++ [u8of (n % 256)]
theorem be_length : ∀ (k : Nat) (n : Int), (be k n).length = k
  | 0, _ => rfl
  | k + 1, n => by simp [be, be_length k]
theorem num_be : ∀ (k : Nat) (n : Int), 0 ≤ n → n < 256 ^ k → num (be k n) = n
  | 0, n, h, h2 => by simp at h2; simp [be, num]; omega
  | k + 1, n, h, h2 => by
    rw [be, num_append, num_be k (n / 256) (by omega) (by rw [Int.pow_succ] at h2; omega), u8of_int]
    omega
def cut_ (s : Bs) (p n : Int) : Bs := (s.take (p + n).toNat).drop p.toNat
theorem cut_length {s : Bs} {p n : Int} (h : 0 ≤ p) (h1 : 0 ≤ n) (h2 : p + n ≤ s.length) : ((cut_ s p n).length : Int) = n := by
  simp [cut_]; omega
def bt (s : Bs) (i : Nat) : Int := ((s[i]?.getD 0).toNat : Int)
theorem bt_rng (s : Bs) (i : Nat) : 0 ≤ bt s i ∧ bt s i < 256 := by unfold bt; have := (s[i]?.getD 0).toNat_lt; omega
theorem get_bt {s : Bs} {i : Nat} (h : i < s.length) : s[i]? = some (s[i]?.getD 0) := by simp [h]
theorem bind_at {α β : Type} {l : List α} {i : Nat} (h : i < l.length) (f : α → Option β) : (l[i]?.bind f) = f (l[i]'h) := by simp [h]
end Go.VP
