/- Words that all pure texts use: wrapping, bounds, bits, rows of bytes. -/
import Derived.Test.YtnccbadmlgfmgaaGreatFH
set_option linter.unusedVariables false
set_option linter.unusedSimpArgs false
set_option maxRecDepth 100000
namespace Go.VP
open Go Go.VI
abbrev Bs := List UInt8
theorem w64 {x : Int} (h : -9223372036854775808 ≤ x) (h' : x ≤ 9223372036854775807) : IntKind.wrap .i64 x = x := by
  simp only [IntKind.wrap, IntKind.bits, IntKind.signed]
  simp
  omega
theorem wu64 {x : Int} (h : 0 ≤ x) (h' : x ≤ 18446744073709551615) : IntKind.wrap .u64 x = x := by
  simp only [IntKind.wrap, IntKind.bits, IntKind.signed]
  simp
  omega
theorem wu8 {x : Int} : IntKind.wrap .u8 x = x % 256 := by
  simp only [IntKind.wrap, IntKind.bits, IntKind.signed]
  simp
theorem wu8n (b : UInt8) : IntKind.wrap .u8 (b.toNat : Int) = b.toNat := by
  rw [wu8]; have := b.toNat_lt; omega
theorem w64n (b : UInt8) : IntKind.wrap .i64 (b.toNat : Int) = b.toNat := by
  have := b.toNat_lt; exact w64 (by omega) (by omega)
theorem has64 {x : Int} : IntKind.has .i64 x ↔ -9223372036854775808 ≤ x ∧ x ≤ 9223372036854775807 := by
  simp only [IntKind.has, IntKind.min, IntKind.max, IntKind.bits, IntKind.signed]
  simp
theorem has8 {x : Int} : IntKind.has .u8 x ↔ 0 ≤ x ∧ x ≤ 255 := by
  simp only [IntKind.has, IntKind.min, IntKind.max, IntKind.bits, IntKind.signed]
  simp
theorem maxB_of {n : Nat} (h : n ≤ 9223372036854775807) : maxB n = true := Nat.ble_eq_true_of_le h
theorem roomB_of {n : Nat} (h : n ≤ 35184372088832) : roomB n = true := Nat.ble_eq_true_of_le h
theorem fuel_pos : ∃ n, fuel = n + 1000000000000 := ⟨1124899906842624, rfl⟩
theorem fuel_ge {n : Nat} (h : n ≤ 1125899906842623) : n < fuel := Nat.lt_succ_of_le h
theorem ib_or {x y : Int} (hx : 0 ≤ x ∧ x < 36028797018963968) (hy : 0 ≤ y ∧ y < 256) : ibits .or .i64 (ishl .i64 x 8) y = x * 256 + y := by
  obtain ⟨a, rfl⟩ : ∃ a : Nat, x = a := ⟨x.toNat, by omega⟩
  obtain ⟨b, rfl⟩ : ∃ b : Nat, y = b := ⟨y.toNat, by omega⟩
  have e : ishl .i64 (a : Int) 8 = ((a * 256 : Nat) : Int) := by
    unfold ishl
    rw [Int.mul_comm]
    have : (2 : Int) ^ (min (8 : Int).toNat IntKind.i64.bits) = 256 := by decide
    rw [this, w64 (by omega) (by omega)]
    omega
  rw [e]
  unfold ibits
  show IntKind.wrap .i64 (((BitVec.ofInt 64 ((a * 256 : Nat) : Int) ||| BitVec.ofInt 64 (b : Int)).toNat : Nat) : Int) = _
  rw [BitVec.toNat_or, BitVec.ofInt_natCast, BitVec.ofInt_natCast, BitVec.toNat_ofNat, BitVec.toNat_ofNat, Nat.mod_eq_of_lt (by omega), Nat.mod_eq_of_lt (by omega)]
  have : a * 256 ||| b = a * 256 + b := by
    have := Nat.two_pow_add_eq_or_of_lt (i := 8) (b := b) (by omega) a
    rw [Nat.mul_comm a 256]
    exact this.symm
  rw [this, w64 (by omega) (by omega)]
  omega
theorem ib8_xor {a b : Nat} (ha : a < 256) (hb : b < 256) : ibits .xor .u8 (a : Int) (b : Int) = ((a ^^^ b : Nat) : Int) := by
  unfold ibits
  show IntKind.wrap .u8 (((BitVec.ofInt 8 (a : Int) ^^^ BitVec.ofInt 8 (b : Int)).toNat : Nat) : Int) = _
  have h : a ^^^ b < 256 := Nat.xor_lt_two_pow (n := 8) ha hb
  rw [BitVec.toNat_xor, BitVec.ofInt_natCast, BitVec.ofInt_natCast, BitVec.toNat_ofNat, BitVec.toNat_ofNat, Nat.mod_eq_of_lt ha, Nat.mod_eq_of_lt hb, wu8]
  omega
theorem ib8_and {a b : Nat} (ha : a < 256) (hb : b < 256) : ibits .and .u8 (a : Int) (b : Int) = ((a &&& b : Nat) : Int) := by
  unfold ibits
  show IntKind.wrap .u8 (((BitVec.ofInt 8 (a : Int) &&& BitVec.ofInt 8 (b : Int)).toNat : Nat) : Int) = _
  have h : a &&& b ≤ a := Nat.and_le_left
  rw [BitVec.toNat_and, BitVec.ofInt_natCast, BitVec.ofInt_natCast, BitVec.toNat_ofNat, BitVec.toNat_ofNat, Nat.mod_eq_of_lt ha, Nat.mod_eq_of_lt hb, wu8]
  omega
theorem u8of_toNat' {n : Nat} (h : n < 256) : (u8of (n : Int)).toNat = n := by
  unfold u8of; simp; omega
theorem u8of_int (n : Int) : ((u8of n).toNat : Int) = if 0 ≤ n then n % 256 else 0 := by
  unfold u8of
  have : (n.toNat.toUInt8).toNat = n.toNat % 256 := by simp
  rw [this]
  split <;> omega
theorem u8of_nat (b : UInt8) : u8of (b.toNat : Int) = b := by
  unfold u8of; simp
theorem u8of_emod' {n : Int} (h : 0 ≤ n) : u8of (n % 256) = u8of n := by
  apply UInt8.toNat.inj
  have h1 := u8of_int (n % 256); have h2 := u8of_int n
  rw [if_pos (by omega)] at h1; rw [if_pos h] at h2; omega
theorem u8_eq {a b : UInt8} (h : (a.toNat : Int) = b.toNat) : a = b := UInt8.toNat.inj (by omega)
/-- The number that bytes make. -/
def num (l : Bs) : Int := l.foldl (fun n b => n * 256 + (b.toNat : Int)) 0
theorem foldl_rng : ∀ (l : Bs) (x : Int), 0 ≤ x → 0 ≤ l.foldl (fun n b => n * 256 + (b.toNat : Int)) x ∧ l.foldl (fun n b => n * 256 + (b.toNat : Int)) x < (x + 1) * 256 ^ l.length
  | [], x, h => by simp; omega
  | b :: l, x, h => by
    have hb := b.toNat_lt
    obtain ⟨h1, h2⟩ := foldl_rng l (x * 256 + (b.toNat : Int)) (by omega)
    refine ⟨h1, Int.lt_of_lt_of_le h2 ?_⟩
    rw [List.length_cons, Int.pow_succ, Int.mul_comm (256 ^ l.length) 256, ← Int.mul_assoc]
    exact Int.mul_le_mul_of_nonneg_right (by omega) (Int.pow_nonneg (by decide))
theorem num_rng (l : Bs) : 0 ≤ num l ∧ num l < 256 ^ l.length := by
  have := foldl_rng l 0 (by omega)
  rw [Int.zero_add, Int.one_mul] at this
  exact this
theorem num_append (a : Bs) (b : UInt8) : num (a ++ [b]) = num a * 256 + b.toNat := by simp [num]
/-- A number's bytes, the highest first. -/
def be : Nat → Int → Bs
  | 0, _ => []
  | k + 1, n => be k (n / 256) ++ [u8of (n % 256)]
theorem be_length : ∀ (k : Nat) (n : Int), (be k n).length = k
  | 0, _ => rfl
  | k + 1, n => by simp [be, be_length k]
theorem num_be : ∀ (k : Nat) (n : Int), 0 ≤ n → n < 256 ^ k → num (be k n) = n
  | 0, n, h, h2 => by simp at h2; simp [be, num]; omega
  | k + 1, n, h, h2 => by
    rw [be, num_append, num_be k (n / 256) (by omega) (by rw [Int.pow_succ] at h2; omega), u8of_int]
    omega
theorem be_num : ∀ (k : Nat) (l : Bs), l.length = k → be k (num l) = l
  | 0, l, h => by cases l with | nil => rfl | cons => simp at h
  | k + 1, l, h => by
    obtain ⟨a, b, rfl⟩ : ∃ a b, l = a ++ [b] := ⟨l.dropLast, l.getLast (by intro h2; subst h2; simp at h), (List.dropLast_concat_getLast _).symm⟩
    have ha : a.length = k := by simpa using h
    have hb := b.toNat_lt
    have h1 : (num (a ++ [b])) / 256 = num a := by rw [num_append]; omega
    have h2 : (num (a ++ [b])) % 256 = b.toNat := by rw [num_append]; omega
    rw [be, h1, h2, be_num k a ha, u8of_nat]
/-- n bytes from place p on. -/
def cut_ (s : Bs) (p n : Int) : Bs := (s.take (p + n).toNat).drop p.toNat
theorem cut_length {s : Bs} {p n : Int} (h : 0 ≤ p) (h1 : 0 ≤ n) (h2 : p + n ≤ s.length) : ((cut_ s p n).length : Int) = n := by
  simp [cut_]; omega
/-- The byte at a place; 0 where there is none. -/
def bt (s : Bs) (i : Nat) : Int := ((s[i]?.getD 0).toNat : Int)
theorem bt_rng (s : Bs) (i : Nat) : 0 ≤ bt s i ∧ bt s i < 256 := by unfold bt; have := (s[i]?.getD 0).toNat_lt; omega
theorem get_bt {s : Bs} {i : Nat} (h : i < s.length) : s[i]? = some (s[i]?.getD 0) := by simp [h]
/-- What is read at a place that is there. -/
theorem bind_at {α β : Type} {l : List α} {i : Nat} (h : i < l.length) (f : α → Option β) : (l[i]?.bind f) = f (l[i]'h) := by simp [h]
end Go.VP
