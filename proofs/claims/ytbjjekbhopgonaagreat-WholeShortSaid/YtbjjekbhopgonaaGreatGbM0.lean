import Derived.Test.YtbjjekbhopgonaaGreatGbFH
import Derived.Test.YtbjjekbhopgonaaGreatGbFQ0
import Derived.Test.YtbjjekbhopgonaaGreatGbFQ2
import Derived.Test.YtbjjekbhopgonaaGreatGbFQ1
import Derived.Test.YtbjjekbhopgonaaGreatGbFQ11
import Derived.Test.YtbjjekbhopgonaaGreatGbFQ7
import Derived.Test.YtbjjekbhopgonaaGreatGbFQ8
import Derived.Test.YtbjjekbhopgonaaGreatGbFQ12
import Derived.Test.YtbjjekbhopgonaaGreatGbFQ3
import Derived.Test.YtbjjekbhopgonaaGreatGbFQ6
import Derived.Test.YtbjjekbhopgonaaGreatGbFQ9
import Derived.Test.YtbjjekbhopgonaaGreatGbFQ5
import Derived.Test.YtbjjekbhopgonaaGreatGbFQ15
import Derived.Test.YtbjjekbhopgonaaGreatGbFGood
import Derived.Test.YtbjjekbhopgonaaGreatGbFQ4
set_option linter.unusedVariables false
set_option linter.unusedSimpArgs false
set_option maxRecDepth 100000
namespace Go.VP
open Go Go.VI
abbrev Bs := List UInt8
theorem w64 {x : Int} (h : -9223372036854775808 ≤ x) (h' : x ≤ 9223372036854775807) : IntKind.wrap .i64 x = x := by
  simp only [IntKind.wrap, IntKind.bits, IntKind.signed]
  simp
  omega
theorem wu64 {x : Int} (h : 0 ≤ x) (h' : x ≤ 18446744073709551615) : IntKind.wrap .u64 x = x := by
  simp only [IntKind.wrap, IntKind.bits, IntKind.signed]
  simp
  omega
theorem wu8 {x : Int} : IntKind.wrap .u8 x = x % 256 := by
  simp only [IntKind.wrap, IntKind.bits, IntKind.signed]
  simp
theorem w64n (b : UInt8) : IntKind.wrap .i64 (b.toNat : Int) = b.toNat := by
  have := b.toNat_lt; exact w64 (by omega) (by omega)
theorem has64 {x : Int} : IntKind.has .i64 x ↔ -9223372036854775808 ≤ x ∧ x ≤ 9223372036854775807 := by
  simp only [IntKind.has, IntKind.min, IntKind.max, IntKind.bits, IntKind.signed]
  simp
theorem maxB_of {n : Nat} (h : n ≤ 9223372036854775807) : maxB n = true := Nat.ble_eq_true_of_le h
theorem roomB_of {n : Nat} (h : n ≤ 35184372088832) : roomB n = true := Nat.ble_eq_true_of_le h
theorem fuel_pos : ∃ n, fuel = n + 1000000000000 := ⟨1124899906842624, rfl⟩
theorem fuel_ge {n : Nat} (h : n ≤ 1125899906842623) : n < fuel := Nat.lt_succ_of_le h
theorem ib_or {x y : Int} (hx : 0 ≤ x ∧ x < 36028797018963968) (hy : 0 ≤ y ∧ y < 256) : ibits .or .i64 (ishl .i64 x 8) y = x * 256 + y := by
  obtain ⟨a, rfl⟩ : ∃ a : Nat, x = a := ⟨x.toNat, by omega⟩
  obtain ⟨b, rfl⟩ : ∃ b : Nat, y = b := ⟨y.toNat, by omega⟩
  have e : ishl .i64 (a : Int) 8 = ((a * 256 : Nat) : Int) := by
    unfold ishl
    rw [Int.mul_comm]
    have : (2 : Int) ^ (min (8 : Int).toNat IntKind.i64.bits) = 256 := by decide
    rw [this, w64 (by omega) (by omega)]
    omega
  rw [e]
  unfold ibits
  show IntKind.wrap .i64 (((BitVec.ofInt 64 ((a * 256 : Nat) : Int) ||| BitVec.ofInt 64 (b : Int)).toNat : Nat) : Int) = _
  rw [BitVec.toNat_or, BitVec.ofInt_natCast, BitVec.ofInt_natCast, BitVec.toNat_ofNat, BitVec.toNat_ofNat, Nat.mod_eq_of_lt (by omega), Nat.mod_eq_of_lt (by omega)]
  have : a * 256 ||| b = a * 256 + b := by
    have := Nat.two_pow_add_eq_or_of_lt (i := 8) (b := b) (by omega) a
    rw [Nat.mul_comm a 256]
    exact this.symm
  rw [this, w64 (by omega) (by omega)]
  omega
theorem ib8_xor {a b : Nat} (ha : a < 256) (hb : b < 256) : ibits .xor .u8 (a : Int) (b : Int) = ((a ^^^ b : Nat) : Int) := by
  unfold ibits
  show IntKind.wrap .u8 (((BitVec.ofInt 8 (a : Int) ^^^ BitVec.ofInt 8 (b : Int)).toNat : Nat) : Int) = _
  have h : a ^^^ b < 256 := Nat.xor_lt_two_pow (n := 8) ha hb
  rw [BitVec.toNat_xor, BitVec.ofInt_natCast, BitVec.ofInt_natCast, BitVec.toNat_ofNat, BitVec.toNat_ofNat, Nat.mod_eq_of_lt ha, Nat.mod_eq_of_lt hb, wu8]
  omega
theorem u8of_int (n : Int) : ((u8of n).toNat : Int) = if 0 ≤ n then n % 256 else 0 := by
  unfold u8of
  have : (n.toNat.toUInt8).toNat = n.toNat % 256 := by simp
  rw [this]
  split <;> omega
theorem u8of_emod' {n : Int} (h : 0 ≤ n) : u8of (n % 256) = u8of n := by
  apply UInt8.toNat.inj
  have h1 := u8of_int (n % 256); have h2 := u8of_int n
  rw [if_pos (by omega)] at h1; rw [if_pos h] at h2; omega
theorem u8_eq {a b : UInt8} (h : (a.toNat : Int) = b.toNat) : a = b := UInt8.toNat.inj (by omega)
def num (l : Bs) : Int := l.foldl (fun n b => n * 256 + (b.toNat : Int)) 0
theorem foldl_rng : ∀ (l : Bs) (x : Int), 0 ≤ x → 0 ≤ l.foldl (fun n b => n * 256 + (b.toNat : Int)) x ∧ l.foldl (fun n b => n * 256 + (b.toNat : Int)) x < (x + 1) * 256 ^ l.length
  | [], x, h => by simp; omega
  | b :: l, x, h => by
    have hb := b.toNat_lt
    obtain ⟨h1, h2⟩ := foldl_rng l (x * 256 + (b.toNat : Int)) (by omega)
    refine ⟨h1, Int.lt_of_lt_of_le h2 ?_⟩
    rw [List.length_cons, Int.pow_succ, Int.mul_comm (256 ^ l.length) 256, ← Int.mul_assoc]
    exact Int.mul_le_mul_of_nonneg_right (by omega) (Int.pow_nonneg (by decide))
theorem num_rng (l : Bs) : 0 ≤ num l ∧ num l < 256 ^ l.length := by
  have := foldl_rng l 0 (by omega)
  rw [Int.zero_add, Int.one_mul] at this
  exact this
theorem num_append (a : Bs) (b : UInt8) : num (a ++ [b]) = num a * 256 + b.toNat := by simp [num]
def be : Nat → Int → Bs
  | 0, _ => []
  | k + 1, n => be k (n / 256) ++ [u8of (n % 256)]
theorem be_length : ∀ (k : Nat) (n : Int), (be k n).length = k
  | 0, _ => rfl
  | k + 1, n => by simp [be, be_length k]
theorem num_be : ∀ (k : Nat) (n : Int), 0 ≤ n → n < 256 ^ k → num (be k n) = n
  | 0, n, h, h2 => by simp at h2; simp [be, num]; omega
  | k + 1, n, h, h2 => by
    rw [be, num_append, num_be k (n / 256) (by omega) (by rw [Int.pow_succ] at h2; omega), u8of_int]
    omega
def cut_ (s : Bs) (p n : Int) : Bs := (s.take (p + n).toNat).drop p.toNat
theorem cut_length {s : Bs} {p n : Int} (h : 0 ≤ p) (h1 : 0 ≤ n) (h2 : p + n ≤ s.length) : ((cut_ s p n).length : Int) = n := by
  simp [cut_]; omega
def bt (s : Bs) (i : Nat) : Int := ((s[i]?.getD 0).toNat : Int)
theorem bt_rng (s : Bs) (i : Nat) : 0 ≤ bt s i ∧ bt s i < 256 := by unfold bt; have := (s[i]?.getD 0).toNat_lt; omega
theorem get_bt {s : Bs} {i : Nat} (h : i < s.length) : s[i]? = some (s[i]?.getD 0) := by simp [h]
theorem bind_at {α β : Type} {l : List α} {i : Nat} (h : i < l.length) (f : α → Option β) : (l[i]?.bind f) = f (l[i]'h) := by simp [h]
end Go.VP
set_option linter.unusedVariables false
set_option linter.unusedSimpArgs false
set_option maxRecDepth 100000
namespace Go.VP
open Go Go.VI
abbrev cu (s : Bs) (p q : Int) (b : Bool) : S_api_Cur := ⟨s, p, q, b⟩
structure WfC (s : Bs) (p q : Int) : Prop where
  lo : 0 ≤ p
  hi : p ≤ q
  top : q ≤ s.length
  sz : s.length ≤ 1000000000000000
theorem new_is (s : Bs) : g_cursor_New (s, ()) = some ((cu s 0 s.length false, ()), ()) := g_cursor_New_eq s
theorem step_ok {s : Bs} {p q n : Int} (w : WfC s p q) (h : 0 ≤ n) (h2 : p + n ≤ q) : g_cursor_step (cu s p q false, n, ()) = some ((cu s (p + n) q false, true, ()), ()) := by
  have := w.lo; have := w.hi; have := w.top; have := w.sz
  rw [g_cursor_step_eq]; dsimp only
  rw [if_neg (by decide), if_neg (by simpa using h), w64 (by omega) (by omega), if_neg (by simp; omega), w64 (by omega) (by omega)]
theorem step_bad {s : Bs} {p q n : Int} {b : Bool} (w : WfC s p q) (h : b = true ∨ n < 0 ∨ q - p < n) : g_cursor_step (cu s p q b, n, ()) = some ((cu s p q true, false, ()), ()) := by
  have := w.lo; have := w.hi; have := w.top; have := w.sz
  rw [g_cursor_step_eq]; dsimp only
  rw [w64 (x := q - p) (by omega) (by omega)]
  simp only [decide_eq_true_eq]
  split
  · rfl
  · split
    · rfl
    · rw [if_pos]
      simp_all
theorem num_loop {n : Nat} {r : (S_api_Cur × Bool × Unit) × Unit} {l : Bs} (hl : l.length ≤ 7) : ∀ (d i m : Nat) (x : Int), i + d = l.length → d < m → x = num (l.take i) → L_cursor_Num_0 n m r x l l.length i = some ((num l, r.1.1, ()), ())
  | 0, i, m, x, h, hm, hx => by
    obtain ⟨m, rfl⟩ : ∃ k, m = k + 1 := ⟨m - 1, by omega⟩
    rw [L_cursor_Num_0_eq, if_neg (by simp; omega), hx, List.take_of_length_le (by omega)]
  | d + 1, i, m, x, h, hm, hx => by
    obtain ⟨m, rfl⟩ : ∃ k, m = k + 1 := ⟨m - 1, by omega⟩
    have hi : i < l.length := by omega
    have hp := num_rng (l.take i)
    have hp2 : (256 : Int) ^ (l.take i).length ≤ 256 ^ 6 := by
      have : (l.take i).length ≤ 6 := by simp; omega
      generalize (l.take i).length = z at this
      match z, this with
      | 0, _ | 1, _ | 2, _ | 3, _ | 4, _ | 5, _ | 6, _ => decide
    have hp3 : (256 : Int) ^ 6 = 281474976710656 := by decide
    have hb := (l[i]).toNat_lt
    rw [L_cursor_Num_0_eq, if_pos (by simp; omega), if_pos (by omega), Int.toNat_natCast, bind_at hi, w64n, hx, ib_or (by omega) (by omega), w64 (by omega) (by omega)]
    have := num_loop (r := r) (n := n) hl d (i + 1) m (num (l.take i) * 256 + (l[i].toNat : Int)) (by omega) (by omega) (by rw [List.take_succ_eq_append_getElem hi, num_append])
    rw [show ((i + 1 : Nat) : Int) = (i : Int) + 1 by omega] at this
    exact this
theorem num_ok {s : Bs} {p q n : Int} (w : WfC s p q) (h : 1 ≤ n) (h7 : n ≤ 7) (h2 : p + n ≤ q) : g_cursor_Num (cu s p q false, n, ()) = some ((num (cut_ s p n), cu s (p + n) q false, ()), ()) := by
  have := w.lo; have := w.hi; have := w.top; have := w.sz
  have hl := cut_length (s := s) (p := p) (n := n) (by omega) (by omega) (by omega)
  show h_cursor_Num fuel _ = _
  rw [h_cursor_Num_eq, if_neg (by simp; omega), if_neg (by simp; omega), step_ok w (by omega) h2]
  rw [Option.bind_some]; dsimp only
  rw [if_neg (by decide), if_pos (by omega)]
  have := num_loop (n := fuel) (r := ((cu s (p + n) q false, true, ()), ())) (l := cut_ s p n) (by omega) (cut_ s p n).length 0 fuel 0 (by omega) (fuel_ge (by omega)) rfl
  exact this
theorem num_bad {s : Bs} {p q n : Int} {b : Bool} (w : WfC s p q) (h : 1 ≤ n) (h7 : n ≤ 7) (h2 : b = true ∨ q < p + n) : g_cursor_Num (cu s p q b, n, ()) = some ((0, cu s p q true, ()), ()) := by
  show h_cursor_Num fuel _ = _
  rw [h_cursor_Num_eq, if_neg (by simp; omega), if_neg (by simp; omega), step_bad w (h2.imp id fun h => .inr (by omega))]
  rfl
theorem text_ok {s : Bs} {p q n : Int} (w : WfC s p q) (h : 0 ≤ n) (h2 : p + n ≤ q) : g_cursor_Text (cu s p q false, n, ()) = some ((cut_ s p n, cu s (p + n) q false, ()), ()) := by
  have := w.lo; have := w.hi; have := w.top; have := w.sz
  rw [g_cursor_Text_eq, step_ok w (by omega) h2]
  rw [Option.bind_some]; dsimp only
  rw [if_neg (by decide), if_pos (by omega)]
  rfl
theorem text_bad {s : Bs} {p q n : Int} {b : Bool} (w : WfC s p q) (h : b = true ∨ n < 0 ∨ q < p + n) : g_cursor_Text (cu s p q b, n, ()) = some (([], cu s p q true, ()), ()) := by
  rw [g_cursor_Text_eq, step_bad w (h.imp id fun h => h.imp id fun h => by omega)]
  rfl
theorem left_is {s : Bs} {p q : Int} (w : WfC s p q) : g_cursor_Left (cu s p q false, ()) = some ((q - p, ()), ()) := by
  have := w.lo; have := w.hi; have := w.top; have := w.sz
  rw [g_cursor_Left_eq]; dsimp only
  rw [w64 (by omega) (by omega)]
  rfl
theorem WfC.fwd {s : Bs} {p q n : Int} (w : WfC s p q) (h : 0 ≤ n) (h2 : p + n ≤ q) : WfC s (p + n) q := ⟨by have := w.lo; omega, h2, w.top, w.sz⟩
theorem num1 {s : Bs} {p : Nat} (h : p + 1 ≤ s.length) : num (cut_ s p 1) = bt s p := by
  have e : cut_ s p 1 = [s[p]] := by
    unfold cut_
    rw [show ((p : Int) + 1).toNat = p + 1 by omega, Int.toNat_natCast, List.take_succ_eq_append_getElem (by omega), List.drop_append_of_le_length (by simp; omega)]
    simp [List.drop_take]
  rw [e]; simp [num, bt, List.getElem?_eq_getElem (show p < s.length by omega)]
theorem cut_succ {s : Bs} {p n : Nat} (h : p + n + 1 ≤ s.length) : cut_ s p (n + 1 : Nat) = cut_ s p n ++ [s[p + n]'(by omega)] := by
  unfold cut_
  rw [show ((p : Int) + ((n + 1 : Nat) : Int)).toNat = p + n + 1 by omega, show ((p : Int) + (n : Int)).toNat = p + n by omega, Int.toNat_natCast, List.take_succ_eq_append_getElem (by omega), List.drop_append_of_le_length (by simp; omega)]
theorem num_cut_succ {s : Bs} {p n : Nat} (h : p + n + 1 ≤ s.length) : num (cut_ s p (n + 1 : Nat)) = num (cut_ s p n) * 256 + bt s (p + n) := by
  rw [cut_succ h, num_append]
  simp [bt, List.getElem?_eq_getElem (show p + n < s.length by omega)]
theorem num2 {s : Bs} {p : Nat} (h : p + 2 ≤ s.length) : num (cut_ s p 2) = bt s p * 256 + bt s (p + 1) := by
  have := num_cut_succ (s := s) (p := p) (n := 1) (by omega)
  rw [show ((1 : Nat) : Int) = 1 from rfl, num1 (by omega)] at this
  exact this
end Go.VP
set_option linter.unusedVariables false
set_option linter.unusedSimpArgs false
set_option maxRecDepth 100000
namespace Go.VP
open Go Go.VI
theorem ifd {α : Sort _} {p : Prop} [d : Decidable p] {a b : α} (h : p) : (if decide p = true then a else b) = a := if_pos (decide_eq_true h)
theorem ifn {α : Sort _} {p : Prop} [d : Decidable p] {a b : α} (h : ¬ p) : (if decide p = true then a else b) = b := if_neg (by simpa using h)
theorem ift {α : Sort _} {a b : α} : (if true = true then a else b) = a := rfl
theorem iff_ {α : Sort _} {a b : α} : (if false = true then a else b) = b := rfl
theorem ifnt {α : Sort _} {a b : α} : (if (!true) = true then a else b) = b := rfl
theorem ifnf {α : Sort _} {a b : α} : (if (!false) = true then a else b) = a := rfl
def fitsB (n : Int) (k : Nat) : Bool := decide (0 ≤ n ∧ n < 256 ^ k)
theorem pow8 (k : Nat) : (2 : Int) ^ (8 * k) = 256 ^ k := by rw [Int.pow_mul]; rfl
theorem fits_is {n : Int} {k : Nat} (hn : IntKind.has .i64 n) (h1 : 1 ≤ k) (h7 : k ≤ 7) : g_octet_Fits (n, (k : Int), ()) = some ((fitsB n k, ()), ()) := by
  rw [has64] at hn
  rw [g_octet_Fits_eq, ifd (by omega), ifd (by omega)]
  by_cases h0 : 0 ≤ n
  · rw [ifd h0, w64 (x := 8 * (k : Int)) (by omega) (by omega), wu64 (by omega) (by omega), if_pos (by omega)]
    have e : ishr .i64 n (8 * (k : Int)) = n / 256 ^ k := by
      unfold ishr
      rw [show min (8 * (k : Int)).toNat IntKind.i64.bits = 8 * k by simp only [IntKind.bits]; omega, pow8]
      exact Int.fdiv_eq_ediv_of_nonneg _ (Int.pow_nonneg (by decide))
    have hp : (0 : Int) < 256 ^ k := Int.pow_pos (by decide)
    rw [e]
    unfold fitsB
    by_cases hlt : n < 256 ^ k
    · rw [Int.ediv_eq_zero_of_lt h0 hlt]; simp [h0, hlt]
    · have : 1 ≤ n / 256 ^ k := Int.le_ediv_of_mul_le hp (by omega)
      have h2 : (n / 256 ^ k == 0) = false := by simp; omega
      rw [h2]; simp [hlt]
  · rw [ifn h0]; simp [fitsB, h0]
theorem rfits_loop {n x i : Int} {k c : Nat} (hk : k ≤ 7) : ∀ (d : Nat) (m i : Nat), i + d = k → d < m → x = 256 ^ i → L_ref02_Fits_0 c m n k x i = some ((decide (n < 256 ^ k), ()), ()) := by
  intro d
  induction d generalizing x with
  | zero =>
    intro m i h hm hx
    obtain ⟨m, rfl⟩ : ∃ k, m = k + 1 := ⟨m - 1, by omega⟩
    rw [L_ref02_Fits_0_eq, ifn (by omega), hx, show i = k by omega]
  | succ d ih =>
    intro m i h hm hx
    obtain ⟨m, rfl⟩ : ∃ k, m = k + 1 := ⟨m - 1, by omega⟩
    have hp : (256 : Int) ^ i ≤ 281474976710656 ∧ 0 ≤ (256 : Int) ^ i := by
      have : i ≤ 6 := by omega
      match i, this with
      | 0, _ | 1, _ | 2, _ | 3, _ | 4, _ | 5, _ | 6, _ => decide
    rw [L_ref02_Fits_0_eq, ifd (by omega), w64 (x := x * 256) (by omega) (by omega), w64 (by omega) (by omega)]
    have := ih (x := x * 256) m (i + 1) (by omega) (by omega) (by rw [hx, Int.pow_succ])
    rw [show ((i + 1 : Nat) : Int) = (i : Int) + 1 by omega] at this
    exact this
theorem rfits_is {n : Int} {k : Nat} (h1 : 1 ≤ k) (h7 : k ≤ 7) : g_ref02_Fits (n, (k : Int), ()) = some ((fitsB n k, ()), ()) := by
  show h_ref02_Fits fuel _ = _
  rw [h_ref02_Fits_eq, ifn (by omega), ifn (by omega)]
  unfold fitsB
  by_cases h0 : n < 0
  · rw [ifd h0]; simp; omega
  · have := rfits_loop (n := n) (x := 1) (i := 0) (c := fuel) h7 k fuel 0 (by omega) (fuel_ge (by omega)) (by simp)
    rw [ifn h0]
    simp only [Int.natCast_zero] at this
    rw [this]
    simp; omega
def oput (n : Int) (k : Nat) : Bs × Bool := if fitsB n k = true then (be k n, true) else ([], false)
theorem rput_loop {c k : Nat} (hk : k ≤ 7) : ∀ (d : Nat) (m i : Nat) (x : Int) (acc : Bs), i + d = k → d < m → 0 ≤ x → x ≤ 9223372036854775807 → acc.length = i → L_ref02_Put_0 c m k x acc i = some ((be d x ++ acc, true, ()), ()) := by
  intro d
  induction d with
  | zero =>
    intro m i x acc h hm h0 h1 ha
    obtain ⟨m, rfl⟩ : ∃ k, m = k + 1 := ⟨m - 1, by omega⟩
    rw [L_ref02_Put_0_eq, ifn (by omega)]
    rfl
  | succ d ih =>
    intro m i x acc h hm h0 h1 ha
    obtain ⟨m, rfl⟩ : ∃ k, m = k + 1 := ⟨m - 1, by omega⟩
    have e1 : Int.tmod x 256 = x % 256 := Int.tmod_eq_emod_of_nonneg h0
    have e2 : Int.tdiv x 256 = x / 256 := Int.tdiv_eq_ediv_of_nonneg h0
    rw [L_ref02_Put_0_eq, ifd (by omega), if_pos (maxB_of (by simp; omega)), e1, e2, w64 (by omega) (by omega), w64 (by omega) (by omega), wu8, Int.emod_emod_of_dvd _ (by decide : (256 : Int) ∣ 256)]
    have := ih m (i + 1) (x / 256) ([u8of (x % 256)] ++ acc) (by omega) (by omega) (by omega) (by omega) (by simp; omega)
    rw [show ((i + 1 : Nat) : Int) = (i : Int) + 1 by omega] at this
    rw [this, be]
    simp
theorem rput_is {n : Int} {k : Nat} (hn : IntKind.has .i64 n) (h1 : 1 ≤ k) (h7 : k ≤ 7) : g_ref02_Put (n, (k : Int), ()) = some (((oput n k).1, (oput n k).2, ()), ()) := by
  rw [has64] at hn
  show h_ref02_Put fuel _ = _
  rw [h_ref02_Put_eq, rfits_is h1 h7, Option.bind_some]
  dsimp only
  unfold oput
  by_cases h : fitsB n k = true
  · have h2 : 0 ≤ n ∧ n < 256 ^ k := by simpa [fitsB] using h
    have := rput_loop (c := fuel) h7 k fuel 0 n [] (by omega) (fuel_ge (by omega)) h2.1 hn.2 rfl
    rw [show ((0 : Nat) : Int) = 0 from rfl] at this
    rw [h, ifnt, this, ift]
    simp
  · rw [Bool.not_eq_true] at h
    rw [h, ifnf, iff_]
theorem rof_is {n : Int} {k : Nat} (hn : IntKind.has .i64 n) (h1 : 1 ≤ k) (h7 : k ≤ 7) : g_ref02_Of (n, (k : Int), ()) = some (((oput n k).1, ()), ()) := by
  rw [g_ref02_Of_eq, rput_is hn h1 h7]; rfl
end Go.VP
set_option linter.unusedVariables false
set_option linter.unusedSimpArgs false
set_option maxRecDepth 100000
namespace Go.VP
open Go Go.VI
abbrev Tlv := S_api_Tlv
abbrev Sub := S_api_Sub
theorem tlvBo : bo_api_Tlv ≤ 100 := Nat.le_of_ble_eq_true (by kernel_rfl)
theorem subBo : bo_api_Sub ≤ 100 := Nat.le_of_ble_eq_true (by kernel_rfl)
theorem room_mul {a b : Nat} (h : a ≤ 300000000000) (hb : b ≤ 100) : roomB (a * b) = true := by
  refine roomB_of ?_
  have : a * b ≤ 300000000000 * 100 := Nat.mul_le_mul h hb
  omega
def tput (t : Int) (d : Bs) : Bs × Bool := if 1 ≤ t ∧ t ≤ 255 ∧ d.length ≤ 255 then (u8of t :: u8of d.length :: d, true) else ([], false)
theorem u8of_emod (n : Int) (h : 0 ≤ n) : u8of (n % 256) = u8of n := by
  apply u8_eq; rw [u8of_int, u8of_int, if_pos (by omega), if_pos h]; omega
theorem tput_is (t : Int) (d : Bs) : g_frame_Put (t, d, ()) = some (((tput t d).1, (tput t d).2, ()), ()) := by
  rw [g_frame_Put_eq]
  unfold tput
  by_cases h1 : t < 1
  · rw [if_pos (by simpa using h1), if_neg (by omega)]
  · rw [if_neg (by simpa using h1)]
    by_cases h2 : 255 < t
    · rw [if_pos (by simpa using h2), if_neg (by omega)]
    · rw [if_neg (by simpa using h2)]
      by_cases h3 : (255 : Int) < d.length
      · rw [if_pos (by simpa using h3), if_neg (by omega)]
      · have hh : 1 ≤ t ∧ t ≤ 255 ∧ d.length ≤ 255 := by omega
        rw [if_neg (by simpa using h3), if_pos hh, wu8, wu8, u8of_emod _ (by omega), u8of_emod _ (by omega), if_pos (maxB_of (by simp; omega))]
        rfl
theorem rtput_is (t : Int) (d : Bs) : g_ref18_Put (t, d, ()) = some (((tput t d).1, (tput t d).2, ()), ()) := by
  rw [g_ref18_Put_eq]
  have := tput_is t d
  rw [g_frame_Put_eq] at this
  exact this
def spl (p : Int) (s : Bs) : Except Int (List Tlv) :=
  match s with
  | [] => .ok []
  | t :: r =>
    if t = 0 then (spl (p + 1) r).map (⟨0, p, []⟩ :: ·)
    else match r with
      | [] => .error p
      | n :: d => if d.length < n.toNat then .error p else (spl (p + 2 + n.toNat) (d.drop n.toNat)).map (⟨t.toNat, p, d.take n.toNat⟩ :: ·)
termination_by s.length
decreasing_by all_goals (simp_wf; try omega)
def splOut (acc : List Tlv) : Except Int (List Tlv) → List Tlv × Int × Int
  | .ok l => (acc ++ l, 0, 0)
  | .error q => ([], q, 2)
theorem splOut_map (acc : List Tlv) (x : Tlv) (r : Except Int (List Tlv)) : splOut acc (r.map (x :: ·)) = splOut (acc ++ [x]) r := by
  cases r <;> simp [splOut, Except.map]
abbrev trip {α β γ : Type} (x : α × β × γ) : α × β × γ × Unit := (x.1, x.2.1, x.2.2, ())
theorem next_zero {s : Bs} {p : Nat} (w : WfC s p s.length) (h : p < s.length) (hz : s[p] = 0) : g_frame_next (cu s p s.length false, ()) = some ((⟨0, p, []⟩, cu s (p + 1) s.length false, ()), ()) := by
  rw [g_frame_next_eq, num_ok w (by omega) (by omega) (by omega), Option.bind_some]
  have e : num (cut_ s p 1) = 0 := by rw [num1 (by omega), bt]; simp [h, hz]
  dsimp only
  rw [e]; rfl
theorem next_one {s : Bs} {p : Nat} (w : WfC s p s.length) (h : p + 1 = s.length) (hz : s[p] ≠ 0) : ∃ t, g_frame_next (cu s p s.length false, ()) = some ((t, cu s (p + 1) s.length true, ()), ()) ∧ t.at_ = p := by
  have e : (num (cut_ s p 1) == 0) = false := by
    rw [num1 (by omega), bt, List.getElem?_eq_getElem (by omega), Option.getD_some]
    simp
    intro h2; exact hz (UInt8.toNat.inj h2)
  have e2 : ((s.length : Nat) : Int) = (p : Int) + 1 := by omega
  rw [g_frame_next_eq, num_ok w (by omega) (by omega) (by omega), Option.bind_some]
  dsimp only
  rw [e, if_neg (by decide), num_bad (w.fwd (by omega) (by omega)) (by omega) (by omega) (.inr (by omega)), Option.bind_some]
  dsimp only
  rw [text_bad (w.fwd (by omega) (by omega)) (.inl rfl), Option.bind_some]
  exact ⟨_, rfl, rfl⟩
theorem next_two {s : Bs} {p : Nat} (w : WfC s p s.length) (h : p + 1 < s.length) (hz : s[p] ≠ 0) (hb : s.length < p + 2 + s[p + 1].toNat) : ∃ t, g_frame_next (cu s p s.length false, ()) = some ((t, cu s (p + 2) s.length true, ()), ()) ∧ t.at_ = p := by
  have e : (num (cut_ s p 1) == 0) = false := by
    rw [num1 (by omega), bt, List.getElem?_eq_getElem (by omega), Option.getD_some]
    simp
    intro h2; exact hz (UInt8.toNat.inj h2)
  have e2 : num (cut_ s ((p : Int) + 1) 1) = s[p + 1].toNat := by
    rw [show ((p : Int) + 1) = ((p + 1 : Nat) : Int) by omega, num1 (by omega), bt, List.getElem?_eq_getElem (by omega), Option.getD_some]
  rw [g_frame_next_eq, num_ok w (by omega) (by omega) (by omega), Option.bind_some]
  dsimp only
  rw [e, if_neg (by decide), num_ok (w.fwd (by omega) (by omega)) (by omega) (by omega) (by omega), Option.bind_some]
  dsimp only
  rw [e2, Int.add_assoc, text_bad (w.fwd (by omega) (by omega)) (.inr (.inr (by omega))), Option.bind_some]
  exact ⟨_, rfl, rfl⟩
theorem next_all {s : Bs} {p : Nat} (w : WfC s p s.length) (h : p + 1 < s.length) (hz : s[p] ≠ 0) (hb : p + 2 + s[p + 1].toNat ≤ s.length) : g_frame_next (cu s p s.length false, ()) = some ((⟨s[p].toNat, p, (s.drop (p + 2)).take s[p + 1].toNat⟩, cu s ((p + 2 + s[p + 1].toNat : Nat) : Int) s.length false, ()), ()) := by
  have e0 : num (cut_ s p 1) = s[p].toNat := by
    rw [num1 (by omega), bt, List.getElem?_eq_getElem (by omega), Option.getD_some]
  have e : (((s[p].toNat : Nat) : Int) == 0) = false := by
    simp
    intro h2; exact hz (UInt8.toNat.inj h2)
  have e2 : num (cut_ s ((p : Int) + 1) 1) = s[p + 1].toNat := by
    rw [show ((p : Int) + 1) = ((p + 1 : Nat) : Int) by omega, num1 (by omega), bt, List.getElem?_eq_getElem (by omega), Option.getD_some]
  rw [g_frame_next_eq, num_ok w (by omega) (by omega) (by omega), Option.bind_some]
  dsimp only
  rw [e0, e, if_neg (by decide), num_ok (w.fwd (by omega) (by omega)) (by omega) (by omega) (by omega), Option.bind_some]
  dsimp only
  rw [e2, Int.add_assoc, text_ok (w.fwd (by omega) (by omega)) (by omega) (by omega), Option.bind_some]
  have e3 : cut_ s ((p : Int) + (1 + 1)) (s[p + 1].toNat : Int) = (s.drop (p + 2)).take s[p + 1].toNat := by
    unfold cut_
    rw [show ((p : Int) + (1 + 1) + (s[p + 1].toNat : Int)).toNat = p + 2 + s[p + 1].toNat by omega, show ((p : Int) + (1 + 1)).toNat = p + 2 by omega, List.take_add, List.drop_append_of_le_length (by simp; omega)]
    simp
  dsimp only
  rw [e3, show ((p : Int) + (1 + 1) + (s[p + 1].toNat : Int)) = ((p + 2 + s[p + 1].toNat : Nat) : Int) by omega]
theorem spl_nil (p : Int) : spl p [] = .ok [] := by rw [spl.eq_def]
theorem spl_zero {p : Int} {r : Bs} : spl p (0 :: r) = (spl (p + 1) r).map (⟨0, p, []⟩ :: ·) := by rw [spl.eq_def]; rfl
theorem spl_one {p : Int} {t : UInt8} (h : t ≠ 0) : spl p [t] = .error p := by rw [spl.eq_def]; simp [h]
theorem spl_bad {p : Int} {t n : UInt8} {d : Bs} (h : t ≠ 0) (h2 : d.length < n.toNat) : spl p (t :: n :: d) = .error p := by rw [spl.eq_def]; simp [h, h2]
theorem spl_all {p : Int} {t n : UInt8} {d : Bs} (h : t ≠ 0) (h2 : n.toNat ≤ d.length) : spl p (t :: n :: d) = (spl (p + 2 + n.toNat) (d.drop n.toNat)).map (⟨t.toNat, p, d.take n.toNat⟩ :: ·) := by
  rw [spl.eq_def]; simp only [h, if_false]; rw [if_neg (by omega)]
theorem drop2 {s : Bs} {p : Nat} (h : p + 1 < s.length) : s.drop p = s[p] :: s[p + 1] :: s.drop (p + 2) := by
  rw [List.drop_eq_getElem_cons (by omega), List.drop_eq_getElem_cons (i := p + 1) (by omega)]
theorem split_loop {s : Bs} {base : Int} {n : Nat} (hs : s.length ≤ 1000000000) (hb : 0 ≤ base ∧ base ≤ 1152921504606846976) : ∀ (d m p : Nat) (acc : List Tlv), p ≤ s.length → s.length - p ≤ d → d < m → acc.length ≤ p →
    L_frame_Split_0 n m base acc s p s.length false = some (trip (splOut acc (spl (base + p) (s.drop p))), ()) := by
  intro d
  induction d with
  | zero =>
    intro m p acc h1 h2 hk ha
    obtain ⟨m, rfl⟩ : ∃ k, m = k + 1 := ⟨m - 1, by omega⟩
    have w : WfC s p s.length := ⟨by omega, by omega, by omega, by omega⟩
    rw [L_frame_Split_0_eq, left_is w, Option.bind_some]
    dsimp only
    rw [if_neg (by simp; omega), List.drop_eq_nil_of_le (by omega), spl_nil]
    simp [splOut, trip]
  | succ d ih =>
    intro m p acc h1 h2 hk ha
    obtain ⟨m, rfl⟩ : ∃ k, m = k + 1 := ⟨m - 1, by omega⟩
    have w : WfC s p s.length := ⟨by omega, by omega, by omega, by omega⟩
    rw [L_frame_Split_0_eq, left_is w, Option.bind_some]
    dsimp only
    by_cases hp : p < s.length
    · rw [if_pos (by simp; omega)]
      have hroom : ∀ x : Tlv, roomB ((acc.length + [x].length) * bo_api_Tlv) = true := fun x => room_mul (by simp; omega) tlvBo
      by_cases hz : s[p] = 0
      · rw [next_zero w hp hz, Option.bind_some]
        dsimp only
        rw [if_neg (by decide), if_pos (hroom _), w64 (by omega) (by omega), List.drop_eq_getElem_cons hp, hz, spl_zero, splOut_map]
        have := ih m (p + 1) (acc ++ [⟨0, base + p, []⟩]) (by omega) (by omega) (by omega) (by simp; omega)
        rw [show ((p + 1 : Nat) : Int) = (p : Int) + 1 by omega] at this
        rw [show (p : Int) + base = base + p by omega, this, Int.add_assoc]
      · by_cases h3 : p + 1 = s.length
        · obtain ⟨t, e, et⟩ := next_one w h3 hz
          rw [e, Option.bind_some]
          dsimp only
          rw [if_pos rfl, et, w64 (by omega) (by omega), List.drop_eq_getElem_cons hp, List.drop_eq_nil_of_le (by omega), spl_one hz]
          simp [splOut, trip]; omega
        · have h4 : p + 1 < s.length := by omega
          by_cases h5 : p + 2 + s[p + 1].toNat ≤ s.length
          · rw [next_all w h4 hz h5, Option.bind_some]
            dsimp only
            rw [if_neg (by decide), if_pos (hroom _), w64 (by omega) (by omega), drop2 h4, spl_all hz (by simp; omega), splOut_map]
            have := ih m (p + 2 + s[p + 1].toNat) (acc ++ [⟨s[p].toNat, base + p, (s.drop (p + 2)).take s[p + 1].toNat⟩]) (by omega) (by omega) (by omega) (by simp; omega)
            rw [show (p : Int) + base = base + p by omega, this, List.drop_drop]
            congr 4
            congr 1
            omega
          · obtain ⟨t, e, et⟩ := next_two w h4 hz (by omega)
            rw [e, Option.bind_some]
            dsimp only
            rw [if_pos rfl, et, w64 (by omega) (by omega), drop2 h4, spl_bad hz (by simp; omega)]
            simp [splOut, trip]; omega
    · rw [if_neg (by simp; omega), List.drop_eq_nil_of_le (by omega), spl_nil]
      simp [splOut, trip]
theorem split_is {s : Bs} {base : Int} (hs : s.length ≤ 1000000000) (hb : 0 ≤ base ∧ base ≤ 1152921504606846976) : g_frame_Split (s, base, ()) = some (trip (splOut [] (spl base s)), ()) := by
  show h_frame_Split fuel _ = _
  rw [h_frame_Split_eq, new_is, Option.bind_some]
  have := split_loop (n := fuel) hs hb s.length fuel 0 [] (by omega) (by omega) (fuel_ge (by omega)) (by simp)
  simpa using this
end Go.VP
set_option linter.unusedVariables false
set_option linter.unusedSimpArgs false
set_option maxRecDepth 100000
namespace Go.VP
open Go Go.VI
def sumN : List Sub → Int
  | [] => 0
  | y :: l => 2 + (y.data.length : Int) + sumN l
def FewS (l : List Sub) : Prop := l.length ≤ 1000000000 ∧ ∀ y ∈ l, y.data.length ≤ 300
theorem FewS.tail {y : Sub} {l : List Sub} (h : FewS (y :: l)) : FewS l := ⟨by have := h.1; simp at this; omega, fun z hz => h.2 z (List.mem_cons_of_mem _ hz)⟩
theorem FewS.drop {l : List Sub} (h : FewS l) (i : Nat) : FewS (l.drop i) := ⟨by have := h.1; simp; omega, fun y hy => h.2 y (List.mem_of_mem_drop hy)⟩
theorem bytes_loop {l : List Sub} {n : Nat} (hl : FewS l) : ∀ (d m i : Nat) (acc : Int), i + d = l.length → d < m → 0 ≤ acc → acc ≤ 302 * i →
    L_msg_Bytes_0 n m l acc i = some ((acc + sumN (l.drop i), ()), ()) := by
  have h1 := hl.1
  intro d
  induction d with
  | zero =>
    intro m i acc hd hm h2 h3
    obtain ⟨m, rfl⟩ : ∃ k, m = k + 1 := ⟨m - 1, by omega⟩
    rw [L_msg_Bytes_0_eq, ifn (by omega), List.drop_eq_nil_of_le (by omega)]
    simp [sumN]
  | succ d ih =>
    intro m i acc hd hm h2 h3
    obtain ⟨m, rfl⟩ : ∃ k, m = k + 1 := ⟨m - 1, by omega⟩
    have hlt : i < l.length := by omega
    have hy := hl.2 l[i] (List.getElem_mem hlt)
    rw [L_msg_Bytes_0_eq, ifd (by omega), if_pos (by omega), Int.toNat_natCast, bind_at hlt, w64 (x := 2 + (l[i].data.length : Int)) (by omega) (by omega), w64 (x := acc + (2 + (l[i].data.length : Int))) (by omega) (by omega), w64 (x := (i : Int) + 1) (by omega) (by omega)]
    have := ih m (i + 1) (acc + (2 + (l[i].data.length : Int))) (by omega) (by omega) (by omega) (by omega)
    rw [show ((i + 1 : Nat) : Int) = (i : Int) + 1 by omega] at this
    rw [this, List.drop_eq_getElem_cons hlt, sumN, Int.add_assoc]
theorem bytes_is {l : List Sub} (hl : FewS l) : g_msg_Bytes (l, ()) = some ((sumN l, ()), ()) := by
  show h_msg_Bytes fuel _ = _
  have := hl.1
  rw [h_msg_Bytes_eq]
  have := bytes_loop (n := fuel) hl l.length fuel 0 0 (by omega) (fuel_ge (by omega)) (by omega) (by omega)
  simpa using this
theorem rbytes_loop {l : List Sub} {n : Nat} (hl : FewS l) : ∀ (d m i : Nat) (acc : Int), i + d = l.length → d < m → 0 ≤ acc → acc ≤ 302 * i →
    L_ref07_Bytes_0 n m l acc i = some ((acc + sumN (l.drop i), ()), ()) := by
  have h1 := hl.1
  intro d
  induction d with
  | zero =>
    intro m i acc hd hm h2 h3
    obtain ⟨m, rfl⟩ : ∃ k, m = k + 1 := ⟨m - 1, by omega⟩
    rw [L_ref07_Bytes_0_eq, ifn (by omega), List.drop_eq_nil_of_le (by omega)]
    simp [sumN]
  | succ d ih =>
    intro m i acc hd hm h2 h3
    obtain ⟨m, rfl⟩ : ∃ k, m = k + 1 := ⟨m - 1, by omega⟩
    have hlt : i < l.length := by omega
    have hy := hl.2 l[i] (List.getElem_mem hlt)
    rw [L_ref07_Bytes_0_eq, ifd (by omega), if_pos (by omega), Int.toNat_natCast, bind_at hlt, w64 (x := acc + 2) (by omega) (by omega), w64 (x := acc + 2 + (l[i].data.length : Int)) (by omega) (by omega), w64 (x := (i : Int) + 1) (by omega) (by omega)]
    have := ih m (i + 1) (acc + 2 + (l[i].data.length : Int)) (by omega) (by omega) (by omega) (by omega)
    rw [show ((i + 1 : Nat) : Int) = (i : Int) + 1 by omega] at this
    rw [this, List.drop_eq_getElem_cons hlt, sumN, Int.add_assoc, Int.add_assoc, Int.add_assoc]
theorem rbytes_is {l : List Sub} (hl : FewS l) : g_ref07_Bytes (l, ()) = some ((sumN l, ()), ()) := by
  show h_ref07_Bytes fuel _ = _
  have := hl.1
  rw [h_ref07_Bytes_eq]
  have := rbytes_loop (n := fuel) hl l.length fuel 0 0 (by omega) (fuel_ge (by omega)) (by omega) (by omega)
  simpa using this
def subB (lo hi : Int) (y : Sub) : Bool := decide (lo ≤ y.type_ ∧ y.type_ ≤ hi ∧ y.data.length ≤ 255)
theorem subs_loop {l : List Sub} {n : Nat} (h1 : l.length ≤ 1000000000) (lo hi : Int) : ∀ (d m i : Nat), i + d = l.length → d < m →
    L_msg_Subs_0 n m lo hi l i = some (((l.drop i).all (subB lo hi), ()), ()) := by
  intro d
  induction d with
  | zero =>
    intro m i hd hm
    obtain ⟨m, rfl⟩ : ∃ k, m = k + 1 := ⟨m - 1, by omega⟩
    rw [L_msg_Subs_0_eq, ifn (by omega), List.drop_eq_nil_of_le (by omega)]
    rfl
  | succ d ih =>
    intro m i hd hm
    obtain ⟨m, rfl⟩ : ∃ k, m = k + 1 := ⟨m - 1, by omega⟩
    have hlt : i < l.length := by omega
    have := ih m (i + 1) (by omega) (by omega)
    rw [show ((i + 1 : Nat) : Int) = (i : Int) + 1 by omega] at this
    rw [L_msg_Subs_0_eq, ifd (by omega), if_pos (by omega), Int.toNat_natCast, bind_at hlt, w64 (x := (i : Int) + 1) (by omega) (by omega), this, List.drop_eq_getElem_cons hlt, List.all_cons]
    by_cases a : l[i].type_ < lo
    · rw [ifd a, show subB lo hi l[i] = false by simp [subB]; omega]; rfl
    · rw [ifn a]
      by_cases b : hi < l[i].type_
      · rw [ifd b, show subB lo hi l[i] = false by simp [subB]; omega]; rfl
      · rw [ifn b]
        by_cases c : (255 : Int) < l[i].data.length
        · rw [ifd c, show subB lo hi l[i] = false by simp [subB]; omega]; rfl
        · rw [ifn c, show subB lo hi l[i] = true by simp [subB]; omega, Bool.true_and]
theorem subs_is {l : List Sub} (h1 : l.length ≤ 1000000000) (lo hi : Int) : g_msg_Subs (l, lo, hi, ()) = some ((l.all (subB lo hi), ()), ()) := by
  show h_msg_Subs fuel _ = _
  rw [h_msg_Subs_eq]
  exact subs_loop (n := fuel) h1 lo hi l.length fuel 0 (by omega) (fuel_ge (by omega))
theorem rsubs_loop {l : List Sub} {n : Nat} (h1 : l.length ≤ 1000000000) (lo hi : Int) : ∀ (d m i : Nat), i + d = l.length → d < m →
    L_ref07_Subs_0 n m l lo hi i = some (((l.drop i).all (subB lo hi), ()), ()) := by
  intro d
  induction d with
  | zero =>
    intro m i hd hm
    obtain ⟨m, rfl⟩ : ∃ k, m = k + 1 := ⟨m - 1, by omega⟩
    rw [L_ref07_Subs_0_eq, ifn (by omega), List.drop_eq_nil_of_le (by omega)]
    rfl
  | succ d ih =>
    intro m i hd hm
    obtain ⟨m, rfl⟩ : ∃ k, m = k + 1 := ⟨m - 1, by omega⟩
    have hlt : i < l.length := by omega
    have := ih m (i + 1) (by omega) (by omega)
    rw [show ((i + 1 : Nat) : Int) = (i : Int) + 1 by omega] at this
    have hi' : (0 : Int) ≤ i := by omega
    rw [L_ref07_Subs_0_eq, ifd (by omega)]
    simp only [hi', if_true, Int.toNat_natCast, bind_at hlt]
    rw [w64 (x := (i : Int) + 1) (by omega) (by omega), this, List.drop_eq_getElem_cons hlt, List.all_cons]
    by_cases a : l[i].type_ < lo
    · rw [ifd a, show subB lo hi l[i] = false by simp [subB]; omega]; rfl
    · rw [ifn a]
      by_cases b : hi < l[i].type_
      · rw [ifd b, show subB lo hi l[i] = false by simp [subB]; omega]; rfl
      · rw [ifn b]
        by_cases c : (255 : Int) < l[i].data.length
        · rw [ifd c, show subB lo hi l[i] = false by simp [subB]; omega]; rfl
        · rw [ifn c, show subB lo hi l[i] = true by simp [subB]; omega, Bool.true_and]
theorem rsubs_is {l : List Sub} (h1 : l.length ≤ 1000000000) (lo hi : Int) : g_ref07_Subs (l, lo, hi, ()) = some ((l.all (subB lo hi), ()), ()) := by
  show h_ref07_Subs fuel _ = _
  rw [h_ref07_Subs_eq]
  exact rsubs_loop (n := fuel) h1 lo hi l.length fuel 0 (by omega) (fuel_ge (by omega))
def rightB (l : List Sub) : Bool := l.all (subB 2 127) && decide (sumN l ≤ 200)
theorem sright_is {l : List Sub} (hl : FewS l) : g_sub_Right (l, ()) = some ((rightB l, ()), ()) := by
  rw [g_sub_Right_eq, subs_is hl.1, Option.bind_some, bytes_is hl]
  unfold rightB
  dsimp only
  cases l.all (subB 2 127) <;> rfl
theorem rsright_is {l : List Sub} (hl : FewS l) : g_ref19_Right (l, ()) = some ((rightB l, ()), ()) := by
  rw [g_ref19_Right_eq, rsubs_is hl.1, Option.bind_some, rbytes_is hl]
  unfold rightB
  dsimp only
  cases l.all (subB 2 127) <;> rfl
def encS : List Sub → Bs
  | [] => []
  | y :: l => u8of y.type_ :: u8of y.data.length :: (y.data ++ encS l)
def AllR (l : List Sub) : Prop := ∀ y ∈ l, 2 ≤ y.type_ ∧ y.type_ ≤ 127 ∧ y.data.length ≤ 255
theorem allR_iff {l : List Sub} : l.all (subB 2 127) = true ↔ AllR l := by simp [subB, AllR]
theorem tput_r {y : Sub} (h : 2 ≤ y.type_ ∧ y.type_ ≤ 127 ∧ y.data.length ≤ 255) : tput y.type_ y.data = (u8of y.type_ :: u8of y.data.length :: y.data, true) := by
  unfold tput; rw [if_pos (by omega)]
theorem encS_length : ∀ (l : List Sub), ((encS l).length : Int) = sumN l
  | [] => rfl
  | y :: l => by have := encS_length l; simp [encS, sumN]; omega
theorem sput_loop {l : List Sub} {n : Nat} (hr : AllR l) (h1 : l.length ≤ 1000000) : ∀ (d m i : Nat) (acc : Bs), i + d = l.length → d < m → acc.length ≤ 257 * i →
    L_sub_Put_0 n m l acc i = some ((acc ++ encS (l.drop i), true, ()), ()) := by
  intro d
  induction d with
  | zero =>
    intro m i acc hd hm ha
    obtain ⟨m, rfl⟩ : ∃ k, m = k + 1 := ⟨m - 1, by omega⟩
    rw [L_sub_Put_0_eq, ifn (by omega), List.drop_eq_nil_of_le (by omega), encS, List.append_nil]
  | succ d ih =>
    intro m i acc hd hm ha
    obtain ⟨m, rfl⟩ : ∃ k, m = k + 1 := ⟨m - 1, by omega⟩
    have hlt : i < l.length := by omega
    have hy := hr l[i] (List.getElem_mem hlt)
    have := ih m (i + 1) (acc ++ (u8of l[i].type_ :: u8of l[i].data.length :: l[i].data)) (by omega) (by omega) (by simp; omega)
    rw [show ((i + 1 : Nat) : Int) = (i : Int) + 1 by omega] at this
    rw [L_sub_Put_0_eq, ifd (by omega), if_pos (by omega), Int.toNat_natCast, bind_at hlt, tput_is, tput_r hy, Option.bind_some]
    dsimp only
    rw [if_pos (roomB_of (by simp; omega)), w64 (by omega) (by omega), this, List.drop_eq_getElem_cons hlt, encS]
    simp
theorem rsput_loop {l : List Sub} {n : Nat} (hr : AllR l) (h1 : l.length ≤ 1000000) : ∀ (d m i : Nat) (acc : Bs), i + d = l.length → d < m → acc.length ≤ 257 * i →
    L_ref19_Put_0 n m l acc i = some ((acc ++ encS (l.drop i), true, ()), ()) := by
  intro d
  induction d with
  | zero =>
    intro m i acc hd hm ha
    obtain ⟨m, rfl⟩ : ∃ k, m = k + 1 := ⟨m - 1, by omega⟩
    rw [L_ref19_Put_0_eq, ifn (by omega), List.drop_eq_nil_of_le (by omega), encS, List.append_nil]
  | succ d ih =>
    intro m i acc hd hm ha
    obtain ⟨m, rfl⟩ : ∃ k, m = k + 1 := ⟨m - 1, by omega⟩
    have hlt : i < l.length := by omega
    have hy := hr l[i] (List.getElem_mem hlt)
    have := ih m (i + 1) (acc ++ (u8of l[i].type_ :: u8of l[i].data.length :: l[i].data)) (by omega) (by omega) (by simp; omega)
    rw [show ((i + 1 : Nat) : Int) = (i : Int) + 1 by omega] at this
    rw [L_ref19_Put_0_eq, ifd (by omega), if_pos (by omega), Int.toNat_natCast, bind_at hlt, if_pos (by omega), bind_at hlt, rtput_is, tput_r hy, Option.bind_some]
    dsimp only
    rw [if_pos (maxB_of (by simp; omega)), w64 (by omega) (by omega), this, List.drop_eq_getElem_cons hlt, encS]
    simp
def putS (l : List Sub) : Bs × Bool := if rightB l = true then (encS l, true) else ([], false)
theorem rightB_split {l : List Sub} (h : rightB l = true) : AllR l ∧ sumN l ≤ 200 := by
  simp only [rightB, Bool.and_eq_true, allR_iff, decide_eq_true_eq] at h; exact h
theorem sput_is {l : List Sub} (hl : FewS l) (h1 : l.length ≤ 1000000) : g_sub_Put (l, ()) = some (((putS l).1, (putS l).2, ()), ()) := by
  show h_sub_Put fuel _ = _
  rw [h_sub_Put_eq, sright_is hl, Option.bind_some]
  unfold putS
  dsimp only
  by_cases h : rightB l = true
  · have := sput_loop (n := fuel) (rightB_split h).1 h1 l.length fuel 0 [] (by omega) (fuel_ge (by omega)) (by simp)
    rw [show ((0 : Nat) : Int) = 0 from rfl] at this
    rw [h, ifnt, this, ift]
    simp
  · rw [Bool.not_eq_true] at h
    rw [h, ifnf, iff_]
theorem rsput_is {l : List Sub} (hl : FewS l) (h1 : l.length ≤ 1000000) : g_ref19_Put (l, ()) = some (((putS l).1, (putS l).2, ()), ()) := by
  show h_ref19_Put fuel _ = _
  rw [h_ref19_Put_eq, rsright_is hl, Option.bind_some]
  unfold putS
  dsimp only
  by_cases h : rightB l = true
  · have := rsput_loop (n := fuel) (rightB_split h).1 h1 l.length fuel 0 [] (by omega) (fuel_ge (by omega)) (by simp)
    rw [show ((0 : Nat) : Int) = 0 from rfl] at this
    rw [h, ifnt, this, ift]
    simp
  · rw [Bool.not_eq_true] at h
    rw [h, ifnf, iff_]
def keep : List Tlv → List Sub
  | [] => []
  | t :: l => if 2 ≤ t.type_ ∧ t.type_ ≤ 127 then ⟨t.type_, t.data⟩ :: keep l else keep l
def free (l : List Tlv) : Bool := l.all fun t => decide (t.type_ ≤ 127)
theorem free_cons (t : Tlv) (l : List Tlv) : free (t :: l) = (decide (t.type_ ≤ 127) && free l) := rfl
def endS (acc : List Sub) (b : Bool) : List Sub × Bool × Int := if 200 < sumN acc then ([], false, 10) else (acc, b, 0)
def ShortT (l : List Tlv) : Prop := ∀ t ∈ l, t.data.length ≤ 255
theorem endS_is {acc : List Sub} {b : Bool} (hl : FewS acc) : (g_msg_Bytes (acc, ())).bind (fun r3 => (if (decide (200 < r3.1.1)) = true then some (([], false, 10, ()), ()) else some ((acc, b, 0, ()), ()))) = some (trip (endS acc b), ()) := by
  rw [bytes_is hl, Option.bind_some]
  unfold endS
  by_cases h : 200 < sumN acc
  · rw [ifd h, if_pos h]
  · rw [ifn h, if_neg h]
theorem FewS.app {a b : List Sub} (h : ∀ y ∈ a, y.data.length ≤ 300) (h2 : ∀ y ∈ b, y.data.length ≤ 300) (h3 : a.length + b.length ≤ 1000000000) : FewS (a ++ b) :=
  ⟨by simpa using h3, fun y hy => (List.mem_append.1 hy).elim (h y) (h2 y)⟩
theorem sget_loop {l : List Tlv} {x : Int × Int × Unit} {n : Nat} (hs : ShortT l) (h1 : l.length ≤ 1000000) : ∀ (d m i : Nat) (acc : List Sub) (b : Bool), i + d = l.length → d < m → acc.length ≤ i → (∀ y ∈ acc, y.data.length ≤ 300) →
    L_sub_Get_0 n m ((l, x), ()) acc b i = some (trip (endS (acc ++ keep (l.drop i)) (b && free (l.drop i))), ()) := by
  intro d
  induction d with
  | zero =>
    intro m i acc b hd hm ha hb
    obtain ⟨m, rfl⟩ : ∃ k, m = k + 1 := ⟨m - 1, by omega⟩
    rw [L_sub_Get_0_eq]
    dsimp only
    rw [ifn (by omega), List.drop_eq_nil_of_le (by omega), endS_is ⟨by omega, hb⟩]
    simp [keep, free]
  | succ d ih =>
    intro m i acc b hd hm ha hb
    obtain ⟨m, rfl⟩ : ∃ k, m = k + 1 := ⟨m - 1, by omega⟩
    have hlt : i < l.length := by omega
    have hy := hs l[i] (List.getElem_mem hlt)
    have hroom : ∀ x : Sub, roomB ((acc.length + [x].length) * bo_api_Sub) = true := fun x => room_mul (by simp; omega) subBo
    rw [L_sub_Get_0_eq]
    dsimp only
    rw [ifd (by omega), if_pos (by omega), Int.toNat_natCast, bind_at hlt, w64 (by omega) (by omega), List.drop_eq_getElem_cons hlt]
    have e : (i : Int) + 1 = ((i + 1 : Nat) : Int) := by omega
    rw [e]
    by_cases c1 : 128 ≤ l[i].type_
    · rw [ifd c1, ih m (i + 1) acc false (by omega) (by omega) (by omega) hb, keep, if_neg (by omega), free_cons, decide_eq_false (by omega)]
      simp
    · rw [ifn c1]
      have h127 : l[i].type_ ≤ 127 := by omega
      by_cases c2 : 2 ≤ l[i].type_
      · rw [ifd c2, if_pos (hroom _), ih m (i + 1) (acc ++ [⟨l[i].type_, l[i].data⟩]) b (by omega) (by omega) (by simp; omega) (fun y hy' => (List.mem_append.1 hy').elim (hb y) (fun h => by simp at h; subst h; dsimp only; omega)), keep, if_pos ⟨c2, h127⟩, free_cons, decide_eq_true h127]
        simp
      · rw [ifn c2, ih m (i + 1) acc b (by omega) (by omega) (by omega) hb, keep, if_neg (by omega), free_cons, decide_eq_true h127]
        simp
def getS (s : Bs) : List Sub × Bool × Int :=
  match spl 0 s with
  | .ok l => endS (keep l) (free l)
  | .error _ => ([], false, 2)
theorem spl_ok (s : Bs) : ∀ (p : Int) (l : List Tlv), spl p s = .ok l → ShortT l ∧ l.length ≤ s.length := by
  match s with
  | [] => intro p l h; rw [spl_nil] at h; injection h with h; subst h; exact ⟨fun t h => by simp at h, Nat.le_refl _⟩
  | t :: r =>
    intro p l h
    have go : ∀ (q : Int) (x : Tlv) (r' : Bs), r'.length < (t :: r).length → x.data.length ≤ 255 → (spl q r').map (x :: ·) = .ok l → ShortT l ∧ l.length ≤ (t :: r).length := by
      intro q x r' hr hx h
      cases hm : spl q r' with
      | error e => rw [hm] at h; cases h
      | ok l' =>
        rw [hm] at h
        injection h with h
        subst h
        obtain ⟨a, b⟩ := spl_ok r' q l' hm
        exact ⟨fun y hy => (List.mem_cons.1 hy).elim (fun h => by subst h; exact hx) (a y), by simp only [List.length_cons] at *; omega⟩
    by_cases ht : t = 0
    · subst ht
      rw [spl_zero] at h
      exact go _ _ _ (by simp) (by simp) h
    · match r with
      | [] => rw [spl_one ht] at h; cases h
      | n :: d =>
        by_cases hn : d.length < n.toNat
        · rw [spl_bad ht hn] at h; cases h
        · rw [spl_all ht (by omega)] at h
          have := n.toNat_lt
          exact go _ _ _ (by simp; omega) (by simp; omega) h
termination_by s.length
theorem sget_is {s : Bs} (h : s.length ≤ 1000000) : g_sub_Get (s, ()) = some (trip (getS s), ()) := by
  show h_sub_Get fuel _ = _
  rw [h_sub_Get_eq, split_is (by omega) (by omega), Option.bind_some]
  unfold getS
  cases hm : spl 0 s with
  | error e => rfl
  | ok l =>
    obtain ⟨h1, h2⟩ := spl_ok s 0 l hm
    have := sget_loop (x := (0, 0, ())) (n := fuel) h1 (by omega) l.length fuel 0 [] true (by omega) (fuel_ge (by omega)) (by simp) (by simp)
    show L_sub_Get_0 fuel fuel ((l, 0, 0, ()), ()) [] true 0 = _
    simpa using this
end Go.VP
set_option linter.unusedVariables false
set_option linter.unusedSimpArgs false
set_option maxRecDepth 100000
namespace Go.VP
open Go Go.VI
abbrev Msg := S_api_Msg
abbrev Dest := S_api_Dest
theorem ne_step {α R : Type} [BEq α] [LawfulBEq α] {x y : α} {f t r : R} (hne : x ≠ y → f = r) (heq : x = y → t = r) : (if (x != y) = true then f else t) = r := by
  by_cases h : x = y
  · rw [if_neg (by simp [h])]; exact heq h
  · rw [if_pos (by simp [h])]; exact hne h
theorem nq_step {α R : Type} [BEq α] [LawfulBEq α] {x y : α} {f t r : R} (hne : x ≠ y → f = r) (heq : x = y → t = r) : (if (!(x == y)) = true then f else t) = r := ne_step hne heq
open Classical in
noncomputable def eqB {α : Type} (a b : α) : Bool := decide (a = b)
theorem eqB_true {α : Type} {a b : α} : eqB a b = true ↔ a = b := by simp [eqB]
theorem eqB_refl {α : Type} (a : α) : eqB a a = true := eqB_true.2 rfl
theorem eqB_false {α : Type} {a b : α} (h : a ≠ b) : eqB a b = false := by simp [eqB, h]
theorem dests_loop {a b : List Dest} {n : Nat} (hl : a.length = b.length) (h1 : a.length ≤ 1000000000) : ∀ (d m i : Nat), i + d = a.length → d < m → L_ref07_dests_0 n m a b i = some ((eqB (a.drop i) (b.drop i), ()), ()) := by
  intro d
  induction d with
  | zero =>
    intro m i hd hm
    obtain ⟨m, rfl⟩ : ∃ k, m = k + 1 := ⟨m - 1, by omega⟩
    rw [L_ref07_dests_0_eq, ifn (by omega), List.drop_eq_nil_of_le (by omega), List.drop_eq_nil_of_le (by omega), eqB_refl]
  | succ d ih =>
    intro m i hd hm
    obtain ⟨m, rfl⟩ : ∃ k, m = k + 1 := ⟨m - 1, by omega⟩
    have ha : i < a.length := by omega
    have hb : i < b.length := by omega
    have := ih m (i + 1) (by omega) (by omega)
    rw [show ((i + 1 : Nat) : Int) = (i : Int) + 1 by omega] at this
    rw [L_ref07_dests_0_eq, ifd (by omega), if_pos (by omega), Int.toNat_natCast, bind_at ha, if_pos (by omega), bind_at hb, w64 (by omega) (by omega), this, List.drop_eq_getElem_cons ha, List.drop_eq_getElem_cons hb]
    generalize a[i] = x
    generalize b[i] = y
    obtain ⟨x1, x2⟩ := x
    obtain ⟨y1, y2⟩ := y
    dsimp only
    by_cases h : x1 = y1 ∧ x2 = y2
    · obtain ⟨rfl, rfl⟩ := h
      rw [if_neg (by simp)]
      simp [eqB]
    · have hx : ¬ ((⟨x1, x2⟩ : Dest) = ⟨y1, y2⟩) := by simpa using h
      have hb : ((x1 == y1) && (x2 == y2)) = false := by rw [Bool.eq_false_iff]; simpa using h
      rw [hb, ifnf, eqB_false]
      intro e
      injection e with e _
      exact hx e
theorem dests_is {a b : List Dest} (h1 : a.length ≤ 1000000000) : g_ref07_dests (a, b, ()) = some ((eqB a b, ()), ()) := by
  show h_ref07_dests fuel _ = _
  rw [h_ref07_dests_eq]
  refine ne_step (fun h => ?_) (fun h => ?_)
  · rw [eqB_false]; intro e; subst e; exact h rfl
  · exact dests_loop (n := fuel) (by omega) h1 a.length fuel 0 (by omega) (fuel_ge (by omega))
theorem subs2_loop {a b : List Sub} {n : Nat} (hl : a.length = b.length) (h1 : a.length ≤ 1000000000) : ∀ (d m i : Nat), i + d = a.length → d < m → L_ref07_subs_0 n m a b i = some ((eqB (a.drop i) (b.drop i), ()), ()) := by
  intro d
  induction d with
  | zero =>
    intro m i hd hm
    obtain ⟨m, rfl⟩ : ∃ k, m = k + 1 := ⟨m - 1, by omega⟩
    rw [L_ref07_subs_0_eq, ifn (by omega), List.drop_eq_nil_of_le (by omega), List.drop_eq_nil_of_le (by omega), eqB_refl]
  | succ d ih =>
    intro m i hd hm
    obtain ⟨m, rfl⟩ : ∃ k, m = k + 1 := ⟨m - 1, by omega⟩
    have ha : i < a.length := by omega
    have hb : i < b.length := by omega
    have := ih m (i + 1) (by omega) (by omega)
    rw [show ((i + 1 : Nat) : Int) = (i : Int) + 1 by omega] at this
    rw [L_ref07_subs_0_eq, ifd (by omega), if_pos (by omega), Int.toNat_natCast, bind_at ha, if_pos (by omega), bind_at hb, w64 (by omega) (by omega), this, List.drop_eq_getElem_cons ha, List.drop_eq_getElem_cons hb]
    generalize a[i] = x
    generalize b[i] = y
    obtain ⟨x1, x2⟩ := x
    obtain ⟨y1, y2⟩ := y
    dsimp only
    by_cases h : x1 = y1 ∧ x2 = y2
    · obtain ⟨rfl, rfl⟩ := h
      rw [if_neg (by simp)]
      simp [eqB]
    · have hx : ¬ ((⟨x1, x2⟩ : Sub) = ⟨y1, y2⟩) := by simpa using h
      have hb : ((x1 == y1) && (x2 == y2)) = false := by rw [Bool.eq_false_iff]; simpa using h
      rw [hb, ifnf, eqB_false]
      intro e
      injection e with e _
      exact hx e
theorem subs2_is {a b : List Sub} (h1 : a.length ≤ 1000000000) : g_ref07_subs (a, b, ()) = some ((eqB a b, ()), ()) := by
  show h_ref07_subs fuel _ = _
  rw [h_ref07_subs_eq]
  refine ne_step (fun h => ?_) (fun h => ?_)
  · rw [eqB_false]; intro e; subst e; exact h rfl
  · exact subs2_loop (n := fuel) (by omega) h1 a.length fuel 0 (by omega) (fuel_ge (by omega))
theorem same_is {a b : Msg} (h1 : a.list.length ≤ 1000000000) (h2 : a.subs.length ≤ 1000000000) : g_ref07_Same (a, b, ()) = some ((eqB a b, ()), ()) := by
  have hf : a ≠ b → (some ((false, ()), ()) : Option ((Bool × Unit) × Unit)) = some ((eqB a b, ()), ()) := fun h => by rw [eqB_false h]
  rw [g_ref07_Same_eq, dests_is h1, Option.bind_some, subs2_is h2, Option.bind_some]
  repeat (first | refine ne_step (fun h => hf (fun e => h (by rw [e]))) (fun h => ?_) | refine nq_step (fun h => hf (fun e => h (by rw [e]))) (fun h => ?_))
  dsimp only
  by_cases hl : a.list = b.list
  · rw [hl, eqB_refl, ift]
    by_cases hs : a.subs = b.subs
    · have : a = b := by
        cases a; cases b
        simp only at *
        simp [*]
      rw [hs, eqB_refl, this, eqB_refl]
    · rw [eqB_false hs, eqB_false]; intro e; exact hs (by rw [e])
  · rw [eqB_false hl, iff_]; exact hf (fun e => hl (by rw [e]))
structure Few (m : Msg) : Prop where
  list : m.list.length ≤ 300
  subs : m.subs.length ≤ 60
  ap : m.auth.length + m.prefix_.length ≤ 200
  ni : m.next.length + m.id.length ≤ 200
  ao : m.addr.length + m.orig.length ≤ 200
  data : m.data.length ≤ 300
  ds : ∀ d ∈ m.list, d.addr.length ≤ 50
  ss : ∀ s ∈ m.subs, s.data.length ≤ 300
structure Lite (m : Msg) : Prop where
  list : m.list.length ≤ 1000
  subs : m.subs.length ≤ 1000
  auth : m.auth.length ≤ 400
  pre : m.prefix_.length ≤ 400
  next : m.next.length ≤ 400
  id : m.id.length ≤ 400
  addr : m.addr.length ≤ 400
  orig : m.orig.length ≤ 400
  data : m.data.length ≤ 400
  ds : ∀ d ∈ m.list, d.addr.length ≤ 50
  ss : ∀ s ∈ m.subs, s.data.length ≤ 300
theorem Few.lite {m : Msg} (h : Few m) : Lite m := by
  have := h.list; have := h.subs; have := h.ap; have := h.ni; have := h.ao; have := h.data
  exact ⟨by omega, by omega, by omega, by omega, by omega, by omega, by omega, by omega, by omega, h.ds, h.ss⟩
theorem Lite.fewS {m : Msg} (h : Lite m) : FewS m.subs := ⟨by have := h.subs; omega, h.ss⟩
def GoodMsg (m : Msg) : Prop := m.auth.length ≤ 140737488351232 ∧ m.prefix_.length ≤ 140737488351232 ∧ m.next.length ≤ 140737488351232 ∧ m.id.length ≤ 140737488351232 ∧ m.addr.length ≤ 140737488351232 ∧ m.orig.length ≤ 140737488351232
theorem few1_loop {m0 : Msg} {n : Nat} (h1 : m0.subs.length ≤ 60) : ∀ (d m i : Nat), i + d = m0.subs.length → d < m → L_ref07_Few_1 n m m0 i = some (((m0.subs.drop i).all fun s => decide (s.data.length ≤ 300), ()), ()) := by
  intro d
  induction d with
  | zero =>
    intro m i hd hm
    obtain ⟨m, rfl⟩ : ∃ k, m = k + 1 := ⟨m - 1, by omega⟩
    rw [L_ref07_Few_1_eq, ifn (by omega), List.drop_eq_nil_of_le (by omega)]; rfl
  | succ d ih =>
    intro m i hd hm
    obtain ⟨m, rfl⟩ : ∃ k, m = k + 1 := ⟨m - 1, by omega⟩
    have ha : i < m0.subs.length := by omega
    have := ih m (i + 1) (by omega) (by omega)
    rw [show ((i + 1 : Nat) : Int) = (i : Int) + 1 by omega] at this
    rw [L_ref07_Few_1_eq, ifd (by omega), if_pos (by omega), Int.toNat_natCast, bind_at ha, w64 (by omega) (by omega), this, List.drop_eq_getElem_cons ha, List.all_cons]
    by_cases h : 300 < (m0.subs[i].data.length : Int)
    · rw [ifd h, decide_eq_false (by omega)]; rfl
    · rw [ifn h, decide_eq_true (by omega), Bool.true_and]
theorem few0_loop {m0 : Msg} {n : Nat} (h0 : m0.list.length ≤ 300) (h1 : m0.subs.length ≤ 60) (hn : 1000 ≤ n) : ∀ (d m i : Nat), i + d = m0.list.length → d < m → L_ref07_Few_0 n m m0 i = some (((m0.list.drop i).all (fun s => decide (s.addr.length ≤ 50)) && m0.subs.all fun s => decide (s.data.length ≤ 300), ()), ()) := by
  intro d
  induction d with
  | zero =>
    intro m i hd hm
    obtain ⟨m, rfl⟩ : ∃ k, m = k + 1 := ⟨m - 1, by omega⟩
    have := few1_loop (n := n) h1 m0.subs.length n 0 (by omega) (by omega)
    rw [show ((0 : Nat) : Int) = 0 from rfl, List.drop_zero] at this
    rw [L_ref07_Few_0_eq, ifn (by omega), List.drop_eq_nil_of_le (by omega), this]; rfl
  | succ d ih =>
    intro m i hd hm
    obtain ⟨m, rfl⟩ : ∃ k, m = k + 1 := ⟨m - 1, by omega⟩
    have ha : i < m0.list.length := by omega
    have := ih m (i + 1) (by omega) (by omega)
    rw [show ((i + 1 : Nat) : Int) = (i : Int) + 1 by omega] at this
    rw [L_ref07_Few_0_eq, ifd (by omega), if_pos (by omega), Int.toNat_natCast, bind_at ha, w64 (by omega) (by omega), this, List.drop_eq_getElem_cons ha, List.all_cons]
    by_cases h : 50 < (m0.list[i].addr.length : Int)
    · rw [ifd h, decide_eq_false (by omega)]; rfl
    · rw [ifn h, decide_eq_true (by omega), Bool.true_and]
theorem few_is {m : Msg} (g : GoodMsg m) : ∃ b, g_ref07_Few (m, ()) = some ((b, ()), ()) ∧ (b = true → Few m) := by
  obtain ⟨g1, g2, g3, g4, g5, g6⟩ := g
  show ∃ b, h_ref07_Few fuel _ = _ ∧ _
  rw [h_ref07_Few_eq, w64 (by omega) (by omega), w64 (by omega) (by omega), w64 (by omega) (by omega)]
  by_cases c1 : (300 : Int) < m.list.length
  · rw [ifd c1]; exact ⟨_, rfl, by simp⟩
  by_cases c2 : (60 : Int) < m.subs.length
  · rw [ifn c1, ifd c2]; exact ⟨_, rfl, by simp⟩
  by_cases c3 : (200 : Int) < m.auth.length + m.prefix_.length
  · rw [ifn c1, ifn c2, ifd c3]; exact ⟨_, rfl, by simp⟩
  by_cases c4 : (200 : Int) < m.next.length + m.id.length
  · rw [ifn c1, ifn c2, ifn c3, ifd c4]; exact ⟨_, rfl, by simp⟩
  by_cases c5 : (200 : Int) < m.addr.length + m.orig.length
  · rw [ifn c1, ifn c2, ifn c3, ifn c4, ifd c5]; exact ⟨_, rfl, by simp⟩
  by_cases c6 : (300 : Int) < m.data.length
  · rw [ifn c1, ifn c2, ifn c3, ifn c4, ifn c5, ifd c6]; exact ⟨_, rfl, by simp⟩
  have := few0_loop (m0 := m) (n := fuel) (by omega) (by omega) (Nat.le_of_lt (fuel_ge (by omega))) m.list.length fuel 0 (by omega) (fuel_ge (by omega))
  rw [show ((0 : Nat) : Int) = 0 from rfl, List.drop_zero] at this
  rw [ifn c1, ifn c2, ifn c3, ifn c4, ifn c5, ifn c6, this]
  refine ⟨_, rfl, fun h => ?_⟩
  simp only [Bool.and_eq_true, List.all_eq_true, decide_eq_true_eq] at h
  exact ⟨by omega, by omega, by omega, by omega, by omega, by omega, h.1, h.2⟩
def bareOf (m : Msg) : Option Msg :=
  if m.kind = 1 then some ⟨m.kind, m.cmd, m.ver, m.auth, m.family, 0, m.prefix_, m.plen, m.tag, m.next, m.metric, [], 0, 0, 0, 0, 0, 0, 0, [], [], [], 0, [], []⟩
  else if m.kind = 2 then some ⟨m.kind, m.cmd, 0, [], 0, 0, m.prefix_, m.plen, m.tag, m.next, m.metric, [], 0, 0, 0, 0, 0, 0, 0, [], [], [], 0, [], []⟩
  else if m.kind = 3 then some ⟨m.kind, 0, 0, [], 0, 0, [], 0, 0, [], 0, [], m.seq, m.seq2, 0, m.flags, m.hops, m.nonce, 0, m.addr, m.orig, [], 0, [], m.subs⟩
  else if m.kind = 4 then some ⟨m.kind, 0, 0, [], 0, 0, [], m.plen, 0, [], 0, [], m.seq, 0, m.interval, m.flags, m.hops, 0, 0, m.addr, m.orig, [], 0, [], m.subs⟩
  else if m.kind = 5 then some ⟨m.kind, 0, 0, [], 0, 0, [], 0, 0, [], 0, [], 0, 0, 0, m.flags, 0, 0, 0, [], [], m.list, 0, [], m.subs⟩
  else if m.kind = 6 then some ⟨m.kind, 0, 0, [], 0, 0, [], 0, 0, [], 0, [], 0, 0, 0, 0, 0, 0, 0, [], [], [], 0, [], m.subs⟩
  else if m.kind = 7 then some ⟨m.kind, 0, 0, [], 0, 0, [], 0, 0, [], 0, [], 0, 0, m.interval, 0, 0, m.nonce, 0, [], [], [], 0, [], m.subs⟩
  else if m.kind = 8 then some ⟨m.kind, 0, 0, [], 0, 0, [], 0, 0, [], 0, [], 0, 0, 0, 0, 0, m.nonce, 0, [], [], [], 0, [], m.subs⟩
  else if m.kind = 9 then some ⟨m.kind, 0, 0, [], 0, 0, [], 0, 0, [], 0, [], m.seq, 0, m.interval, m.flags, 0, 0, 0, [], [], [], 0, [], m.subs⟩
  else if m.kind = 10 then some ⟨m.kind, 0, 0, [], 0, m.ae, [], 0, 0, [], 0, [], 0, 0, m.interval, 0, 0, 0, m.cost, m.addr, [], [], 0, [], m.subs⟩
  else if m.kind = 11 then some ⟨m.kind, 0, 0, [], 0, m.ae, m.prefix_, m.plen, 0, m.next, m.metric, m.id, m.seq, 0, m.interval, 0, 0, 0, 0, [], [], [], 0, [], m.subs⟩
  else if m.kind = 12 then some ⟨m.kind, 0, 0, [], 0, m.ae, m.prefix_, m.plen, 0, [], 0, [], 0, 0, 0, 0, 0, 0, 0, [], [], [], 0, [], m.subs⟩
  else if m.kind = 13 then some ⟨m.kind, 0, 0, [], 0, m.ae, m.prefix_, m.plen, 0, [], 0, m.id, m.seq, 0, 0, 0, m.hops, 0, 0, [], [], [], 0, [], m.subs⟩
  else if m.kind = 14 then some ⟨m.kind, 0, 0, [], 0, 0, [], 0, 0, [], 0, [], 0, 0, 0, 0, 0, 0, 0, [], [], [], m.type_, m.data, []⟩
  else none
noncomputable def bareB (m : Msg) : Bool := match bareOf m with | some x => eqB x m | none => false
theorem bq_step {R : Type} {x y : Int} {f t r : R} (heq : x = y → t = r) (hne : x ≠ y → f = r) : (if (x == y) = true then t else f) = r := by
  by_cases h : x = y
  · rw [if_pos (by simp [h])]; exact heq h
  · rw [if_neg (by simp [h])]; exact hne h
theorem rbare_is {m : Msg} (h1 : m.list.length ≤ 1000000000) (h2 : m.subs.length ≤ 1000000000) : g_ref07_Bare (m, ()) = some ((bareB m, ()), ()) := by
  have go : ∀ x : Msg, x.list.length ≤ 1000000000 → x.subs.length ≤ 1000000000 → bareOf m = some x → ((g_ref07_Same (x, m, ())).bind fun r1 => some ((r1.1.1, ()), ())) = some ((bareB m, ()), ()) := by
    intro x h1 h2 hx
    rw [same_is h1 h2, bareB, hx]; rfl
  rw [g_ref07_Bare_eq]
  repeat refine bq_step (fun h => go _ (by first | exact h1 | (show 0 ≤ _; omega)) (by first | exact h2 | (show 0 ≤ _; omega)) (by simp [bareOf, *])) (fun h => ?_)
  simp [bareB, bareOf, *]
theorem band3 {A B C S : Bool} (h : S = (A && B && C)) : (if A = true then (if B = true then (some ((C, ()), ()) : Option ((Bool × Unit) × Unit)) else some ((false, ()), ())) else some ((false, ()), ())) = some ((S, ()), ()) := by
  subst h; cases A <;> cases B <;> rfl
theorem band2 {A B S : Bool} (h : S = (A && B)) : (if A = true then (if B = true then (some ((true, ()), ()) : Option ((Bool × Unit) × Unit)) else some ((false, ()), ())) else some ((false, ()), ())) = some ((S, ()), ()) := by
  subst h; cases A <;> cases B <;> rfl
theorem band1 {A S : Bool} (h : S = A) : (if A = true then (some ((true, ()), ()) : Option ((Bool × Unit) × Unit)) else some ((false, ()), ())) = some ((S, ()), ()) := by
  subst h; cases S <;> rfl
theorem eqB_true' {α : Type} {a b : α} : eqB a b = true ↔ b = a := by rw [eqB_true]; exact eq_comm
theorem len_nil {α : Type} (l : List α) : ((l.length : Int) = 0) ↔ l = [] := by cases l <;> simp; omega
theorem bare_is {m : Msg} : g_msg_Bare (m, ()) = some ((bareB m, ()), ()) := by
  obtain ⟨kind, cmd, ver, auth, family, ae, pre, plen, tag, next, metric, id, seq, seq2, interval, flags, hops, nonce, cost, addr, orig, list, typ, data, subs⟩ := m
  rw [g_msg_Bare_eq, g_msg_strip_eq, Option.bind_some]
  dsimp only
  repeat' first | (exfalso; omega) | refine bq_step (fun h => ?_) (fun h => ?_)
  all_goals first | refine band3 ?_ | refine band2 ?_ | refine band1 ?_ | skip
  all_goals (try (subst kind))
  all_goals rw [bareB, bareOf]
  all_goals (try simp only [*, if_true, if_false])
  all_goals first | rfl | skip
  all_goals rw [Bool.eq_iff_iff]
  all_goals simp only [eqB_true', S_api_Msg.mk.injEq, Bool.and_eq_true, beq_iff_eq, len_nil]
  all_goals (simp only [true_and, and_true, and_self]; first | done | (constructor <;> (intro h; simp only [h, and_self])))
end Go.VP
set_option linter.unusedVariables false
set_option linter.unusedSimpArgs false
set_option maxRecDepth 100000
namespace Go.VP
open Go Go.VI
def Small (m : Msg) : Prop := m.list.length ≤ 1000000000 ∧ m.subs.length ≤ 1000000000
theorem eqB_cons (x y : Msg) (p q : List Msg) : (if (!(eqB x y)) = true then (some ((false, ()), ()) : Option ((Bool × Unit) × Unit)) else some ((eqB p q, ()), ())) = some ((eqB (x :: p) (y :: q), ()), ()) := by
  by_cases he : x = y
  · subst he
    rw [eqB_refl, ifnt]
    have : eqB p q = eqB (x :: p) (x :: q) := by simp [eqB]
    rw [this]
  · rw [eqB_false he, ifnf, eqB_false]
    intro e; injection e with e _; exact he e
theorem sameE_loop {a b : List Msg} {n : Nat} (hab : a.length = b.length) (hl : a.length ≤ 1000000) (hs : ∀ m ∈ a, Small m) : ∀ (d m i : Nat), i + d = a.length → d < m → L_ref07_SameAll_0 n m a b i = some ((eqB (a.drop i) (b.drop i), ()), ()) := by
  intro d
  induction d with
  | zero =>
    intro m i hd hm
    obtain ⟨m, rfl⟩ : ∃ k, m = k + 1 := ⟨m - 1, by omega⟩
    rw [L_ref07_SameAll_0_eq, ifn (by omega), List.drop_eq_nil_of_le (by omega), List.drop_eq_nil_of_le (by omega), eqB_refl]
  | succ d ih =>
    intro m i hd hm
    obtain ⟨m, rfl⟩ : ∃ k, m = k + 1 := ⟨m - 1, by omega⟩
    have hi : i < a.length := by omega
    have hib : i < b.length := by omega
    have := ih m (i + 1) (by omega) (by omega)
    rw [show ((i + 1 : Nat) : Int) = (i : Int) + 1 by omega] at this
    have hm' := hs _ (List.getElem_mem hi)
    have hp : 0 ≤ (i : Int) := by omega
    rw [L_ref07_SameAll_0_eq, ifd (by omega)]
    simp only [if_pos hp, Int.toNat_natCast, List.getElem?_eq_getElem hi, List.getElem?_eq_getElem hib, Option.bind_some]
    rw [same_is hm'.1 hm'.2, Option.bind_some, w64 (by omega) (by omega), this, List.drop_eq_getElem_cons hi, List.drop_eq_getElem_cons hib]
    exact eqB_cons _ _ _ _
theorem sameE_is {a b : List Msg} (hl : a.length ≤ 1000000) (hs : ∀ m ∈ a, Small m) : g_ref07_SameAll (a, b, ()) = some ((eqB a b, ()), ()) := by
  show h_ref07_SameAll fuel (a, b, ()) = _
  rw [h_ref07_SameAll_eq]
  refine ne_step (fun h => ?_) (fun h => ?_)
  · rw [eqB_false]; intro e; subst e; exact h rfl
  · exact sameE_loop (n := fuel) (by omega) hl hs a.length fuel 0 (by omega) (fuel_ge (by omega))
theorem sameA_is {a : List Msg} (hl : a.length ≤ 1000000) (hs : ∀ m ∈ a, Small m) : g_ref07_SameAll (a, a, ()) = some ((true, ()), ()) := by
  rw [sameE_is hl hs, eqB_refl]
theorem goodMsgA {m : Msg} (g : Good_api_Msg m) : GoodMsg m := by
  obtain ⟨g1, g2, g3, g4, g5, g6, g7, g8, g9, g10, g11, g12, g13, g14, g15, g16, g17, g18, g19, g20, g21, _⟩ := g
  exact ⟨g4, g7, g10, g12, g20, g21⟩
theorem fewA_loop {a : List Msg} {n : Nat} (g : ∀ m ∈ a, GoodMsg m) (hl : a.length ≤ 1000) : ∀ (d m i : Nat), i + d = a.length → d < m → ∃ b, L_ref07_FewAll_0 n m a i = some ((b, ()), ()) ∧ (b = true → ∀ m ∈ a.drop i, Few m) := by
  intro d
  induction d with
  | zero =>
    intro m i hd hm
    obtain ⟨m, rfl⟩ : ∃ k, m = k + 1 := ⟨m - 1, by omega⟩
    rw [L_ref07_FewAll_0_eq, ifn (by omega)]
    exact ⟨true, rfl, fun _ m hm => by rw [List.drop_eq_nil_of_le (by omega)] at hm; cases hm⟩
  | succ d ih =>
    intro m i hd hm
    obtain ⟨m, rfl⟩ : ∃ k, m = k + 1 := ⟨m - 1, by omega⟩
    have hi : i < a.length := by omega
    obtain ⟨b, h1, h2⟩ := ih m (i + 1) (by omega) (by omega)
    rw [show ((i + 1 : Nat) : Int) = (i : Int) + 1 by omega] at h1
    obtain ⟨c, k1, k2⟩ := few_is (g _ (List.getElem_mem hi))
    rw [L_ref07_FewAll_0_eq, ifd (by omega), if_pos (by omega), Int.toNat_natCast, bind_at hi, k1, Option.bind_some, w64 (by omega) (by omega), h1]
    cases c with
    | false => exact ⟨false, rfl, fun h => by cases h⟩
    | true =>
      refine ⟨b, rfl, fun h m hm => ?_⟩
      rw [List.drop_eq_getElem_cons hi] at hm
      rcases List.mem_cons.1 hm with rfl | hm
      · exact k2 rfl
      · exact h2 h m hm
theorem fewA_is {a : List Msg} {k : Int} (hk : k ≤ 1000) (g : ∀ m ∈ a, GoodMsg m) : ∃ b, g_ref07_FewAll (a, k, ()) = some ((b, ()), ()) ∧ (b = true → a.length ≤ k ∧ ∀ m ∈ a, Few m) := by
  show ∃ b, h_ref07_FewAll fuel (a, k, ()) = _ ∧ _
  rw [h_ref07_FewAll_eq]
  by_cases h : k < (a.length : Int)
  · rw [ifd h]; exact ⟨false, rfl, fun h => by cases h⟩
  · rw [ifn h]
    obtain ⟨b, h1, h2⟩ := fewA_loop (n := fuel) g (by omega) a.length fuel 0 (by omega) (fuel_ge (by omega))
    exact ⟨b, h1, fun hb => ⟨by omega, fun m hm => h2 hb m (by simpa using hm)⟩⟩
end Go.VP
set_option linter.unusedVariables false
set_option linter.unusedSimpArgs false
set_option maxRecDepth 100000
namespace Go.VP
open Go Go.VI
def linkP : Bs := [254, 128, 0, 0, 0, 0, 0, 0]
def linkB (a : Bs) : Bool := decide (a.length = 16) && (a.take 8 == linkP)
theorem hasP_is (a p : Bs) : g_strings_HasPrefix (a, p, ()) = some ((decide (p.length ≤ a.length) && (a.take p.length == p), ()), ()) := by
  rw [g_strings_HasPrefix_eq, g_internal_stringslite_HasPrefix_eq]
  by_cases h : p.length ≤ a.length
  · rw [ifd (by omega), if_pos (by omega), Option.bind_some, Int.toNat_natCast, decide_eq_true h]; rfl
  · rw [ifn (by omega), Option.bind_some, decide_eq_false h]; rfl
theorem link_is (a : Bs) : g_addr_Link (a, ()) = some ((linkB a, ()), ()) := by
  rw [g_addr_Link_eq, hasP_is, Option.bind_some]
  unfold linkB
  by_cases h : a.length = 16
  · rw [if_pos (by simp; omega), decide_eq_true h]
    have : decide (([254, 128, 0, 0, 0, 0, 0, 0] : Bs).length ≤ a.length) = true := by simp; omega
    rw [this]; rfl
  · rw [if_neg (by simp; omega), decide_eq_false h]; rfl
theorem rlink_is (a : Bs) : g_ref06_Link (a, ()) = some ((linkB a, ()), ()) := by
  rw [g_ref06_Link_eq, g_ref06_link_eq]
  unfold linkB
  by_cases h : a.length = 16
  · rw [if_pos (by simp; omega), if_pos (by omega), decide_eq_true h]; rfl
  · rw [if_neg (by simp; omega), decide_eq_false h]; rfl
theorem linkB_len {a : Bs} (h : linkB a = true) : a.length = 16 ∧ a.take 8 = linkP := by
  simpa [linkB] using h
def shortF (a : Bs) : Bs × Bool := if linkB a = true then (a.drop 8, true) else ([], false)
theorem short_is (a : Bs) : g_addr_Short (a, ()) = some (((shortF a).1, (shortF a).2, ()), ()) := by
  rw [g_addr_Short_eq, link_is, Option.bind_some]
  unfold shortF
  dsimp only
  by_cases h : linkB a = true
  · have := linkB_len h
    rw [h, ifnt, if_pos (by omega), ift]
  · rw [Bool.not_eq_true] at h
    rw [h, ifnf, iff_]
theorem rshort_is (a : Bs) : g_ref06_Short (a, ()) = some (((shortF a).1, (shortF a).2, ()), ()) := by
  rw [g_ref06_Short_eq, rlink_is, Option.bind_some]
  unfold shortF
  dsimp only
  by_cases h : linkB a = true
  · have := linkB_len h
    rw [h, ifnt, if_pos (by omega), ift]
  · rw [Bool.not_eq_true] at h
    rw [h, ifnf, iff_]
def longF (s : Bs) : Bs × Bool := if s.length = 8 then (linkP ++ s, true) else ([], false)
theorem long_is (s : Bs) : g_addr_Long (s, ()) = some (((longF s).1, (longF s).2, ()), ()) := by
  rw [g_addr_Long_eq]
  unfold longF
  by_cases h : s.length = 8
  · rw [if_neg (by simp; omega), if_pos (maxB_of (by omega)), if_pos h]; rfl
  · rw [if_pos (by simp; omega), if_neg h]
def famF (a : Bs) : Int := if a.length = 4 then 0 else if a.length = 16 then 1 else -1
theorem fam_is (a : Bs) : g_addr_Family (a, ()) = some ((famF a, ()), ()) := by
  rw [g_addr_Family_eq]
  unfold famF
  by_cases h : a.length = 4
  · rw [if_pos (by simp; omega), if_pos h]
  · rw [if_neg (by simp; omega), if_neg h]
    by_cases h2 : a.length = 16
    · rw [if_pos (by simp; omega), if_pos h2]
    · rw [if_neg (by simp; omega), if_neg h2]
theorem link_long {s : Bs} (h : s.length = 8) : linkB (linkP ++ s) = true := by
  unfold linkB
  have e : (linkP ++ s).take 8 = linkP := by rw [List.take_append_of_le_length (by decide)]; rfl
  rw [e]
  simp [linkP, h]
theorem link_parts {a : Bs} (h : linkB a = true) : linkP ++ a.drop 8 = a := by
  rw [← (linkB_len h).2, List.take_append_drop]
end Go.VP
set_option linter.unusedVariables false
set_option linter.unusedSimpArgs false
set_option maxRecDepth 100000
namespace Go.VP
open Go Go.VI
def maskN (b k : Nat) : Nat := b / 2 ^ (8 - k) * 2 ^ (8 - k)
def maskB (b : UInt8) (k : Int) : UInt8 := UInt8.ofNat (maskN b.toNat (min k.toNat 8))
theorem maskN_le (b k : Nat) : maskN b k ≤ b := Nat.div_mul_le_self ..
theorem maskB_toNat (b : UInt8) (k : Int) : (maskB b k).toNat = maskN b.toNat (min k.toNat 8) := by
  have := maskN_le b.toNat (min k.toNat 8); have := b.toNat_lt
  unfold maskB; rw [UInt8.toNat_ofNat']; omega
theorem maskB_all {b : UInt8} {k : Int} (h : 8 ≤ k) : maskB b k = b := by
  apply UInt8.toNat.inj
  rw [maskB_toNat, show min k.toNat 8 = 8 by omega]; simp [maskN]
theorem maskB_none {b : UInt8} {k : Int} (h : k ≤ 0) : maskB b k = 0 := by
  apply UInt8.toNat.inj
  have := b.toNat_lt
  rw [maskB_toNat, show min k.toNat 8 = 0 by omega]; simp [maskN]; omega
def keepF : Bs → Int → Bs
  | [], _ => []
  | b :: r, n => maskB b n :: keepF r (n - 8)
theorem keepF_length : ∀ (s : Bs) (n : Int), (keepF s n).length = s.length
  | [], _ => rfl
  | b :: r, n => by simp [keepF, keepF_length r]
theorem keepF_all : ∀ {s : Bs} {n : Int}, 8 * (s.length : Int) ≤ n → keepF s n = s
  | [], _, _ => rfl
  | b :: r, n, h => by simp only [List.length_cons] at h; rw [keepF, maskB_all (by omega), keepF_all (by omega)]
theorem keepF_none : ∀ {s : Bs} {n : Int}, n ≤ 0 → keepF s n = List.replicate s.length 0
  | [], _, _ => rfl
  | b :: r, n, h => by rw [keepF, maskB_none h, keepF_none (by omega), List.length_cons, List.replicate_succ]
theorem keepF_append : ∀ (a b : Bs) (n : Int), keepF (a ++ b) n = keepF a n ++ keepF b (n - 8 * a.length)
  | [], b, n => by simp [keepF]
  | x :: a, b, n => by simp only [List.cons_append, keepF, keepF_append a b, List.length_cons]; congr 3; omega
theorem keepF_get : ∀ (s : Bs) (n : Int) (j : Nat) (h : j < s.length), (keepF s n)[j]'(by rw [keepF_length]; exact h) = maskB s[j] (n - 8 * j)
  | b :: r, n, 0, _ => by simp [keepF]
  | b :: r, n, j + 1, h => by
    have := keepF_get r (n - 8) j (by simpa using h)
    simp only [keepF, List.getElem_cons_succ, this]
    congr 1; omega
theorem keepF_mid {s : Bs} {n : Int} (h0 : 0 ≤ n) (h : n < 8 * s.length) : keepF s n = s.take (n / 8).toNat ++ maskB (s[(n / 8).toNat]'(by omega)) (n % 8) :: List.replicate (s.length - (n / 8).toNat - 1) 0 := by
  have hk : (n / 8).toNat < s.length := by omega
  have e : s = s.take (n / 8).toNat ++ (s[(n / 8).toNat] :: s.drop ((n / 8).toNat + 1)) := by rw [← List.drop_eq_getElem_cons hk, List.take_append_drop]
  have hl : (s.take (n / 8).toNat).length = (n / 8).toNat := by rw [List.length_take]; omega
  have := congrArg (fun x => keepF x n) e
  rw [this, keepF_append, hl, keepF_all (by omega), keepF, keepF_none (by omega), List.length_drop]
  congr 3
  all_goals omega
theorem andnot_all : ∀ y : Fin 256, ∀ j : Fin 8, (u8of (ibits .andNot .u8 (y.val : Int) (ishr .u8 255 (j.val : Int)))).toNat = maskN y.val j.val := by decide +kernel
theorem ib64_and7 {n : Int} (h0 : 0 ≤ n) (h : n ≤ 9223372036854775807) : ibits .and .i64 n 7 = n % 8 := by
  obtain ⟨a, rfl⟩ : ∃ a : Nat, n = a := ⟨n.toNat, by omega⟩
  unfold ibits
  show IntKind.wrap .i64 (((BitVec.ofInt 64 (a : Int) &&& BitVec.ofInt 64 ((7 : Nat) : Int)).toNat : Nat) : Int) = _
  have e : a &&& 7 = a % 8 := Nat.and_two_pow_sub_one_eq_mod a 3
  rw [BitVec.toNat_and, BitVec.ofInt_natCast, BitVec.ofInt_natCast, BitVec.toNat_ofNat, BitVec.toNat_ofNat, Nat.mod_eq_of_lt (by omega), Nat.mod_eq_of_lt (by omega), e, w64 (by omega) (by omega)]
  omega
theorem ishr3 {n : Int} (h0 : 0 ≤ n) : ishr .i64 n 3 = n / 8 := by
  unfold ishr
  rw [show ((2 : Int) ^ min (3 : Int).toNat IntKind.i64.bits) = 8 by decide]
  exact Int.fdiv_eq_ediv_of_nonneg _ (by decide)
theorem keep_is {s : Bs} {n : Int} (hs : s.length ≤ 1000000000) (hn : IntKind.has .i64 n) : g_bits_Keep (s, n, ()) = some ((keepF s n, ()), ()) := by
  rw [has64] at hn
  rw [g_bits_Keep_eq, w64 (x := 8 * (s.length : Int)) (by omega) (by omega)]
  by_cases h1 : 8 * (s.length : Int) ≤ n
  · rw [ifd h1, keepF_all h1]
  · rw [ifn h1, if_pos (show 0 ≤ (s.length : Int) ∧ (s.length : Int) ≤ roomI by unfold roomI; omega)]
    by_cases h2 : n ≤ 0
    · rw [ifd h2, keepF_none h2, Int.toNat_natCast]
    · rw [ifn h2, ishr3 (by omega), ib64_and7 (by omega) (by omega), wu64 (by omega) (by omega), if_pos (show 0 ≤ n / 8 ∧ n / 8 ≤ (s.length : Int) by omega), if_pos (show 0 ≤ n / 8 by omega)]
      have hk : (n / 8).toNat < s.length := by omega
      have hl : ((s.take (n / 8).toNat).take ((List.replicate (s.length : Int).toNat (0 : UInt8)).length) ++ (List.replicate (s.length : Int).toNat (0 : UInt8)).drop (s.take (n / 8).toNat).length).length = s.length := by
        simp; omega
      rw [bind_at hk, if_pos (show 0 ≤ n % 8 by omega), hl, if_pos (show 0 ≤ n / 8 ∧ n / 8 < (s.length : Int) by omega), if_pos hk, keepF_mid (by omega) (by omega)]
      have e1 : u8of (ibits .andNot .u8 ((s[(n / 8).toNat].toNat : Nat) : Int) (ishr .u8 255 (n % 8))) = maskB s[(n / 8).toNat] (n % 8) := by
        apply UInt8.toNat.inj
        have := andnot_all ⟨s[(n / 8).toNat].toNat, s[(n / 8).toNat].toNat_lt⟩ ⟨(n % 8).toNat, by omega⟩
        dsimp only at this
        rw [show (((n % 8).toNat : Nat) : Int) = n % 8 by omega] at this
        rw [this, maskB_toNat, show min (n % 8).toNat 8 = (n % 8).toNat by omega]
      have e2 : (s.take (n / 8).toNat).length = (n / 8).toNat := by rw [List.length_take]; omega
      have e3 : (s.take (n / 8).toNat).take ((List.replicate (s.length : Int).toNat (0 : UInt8)).length) = s.take (n / 8).toNat := List.take_of_length_le (by simp; omega)
      have e4 : (List.replicate (s.length : Int).toNat (0 : UInt8)).drop (n / 8).toNat = 0 :: List.replicate (s.length - (n / 8).toNat - 1) 0 := by
        rw [List.drop_replicate, Int.toNat_natCast, show s.length - (n / 8).toNat = (s.length - (n / 8).toNat - 1) + 1 by omega, List.replicate_succ]
        simp
      rw [e1, e3, e2, e4, List.set_append_right _ _ (by omega), e2, Nat.sub_self, List.set_cons_zero]
theorem mask_step : ∀ b : Fin 256, ∀ r : Fin 8, maskN b.val (r.val + 1) = maskN b.val r.val + b.val / 2 ^ (7 - r.val) % 2 * 2 ^ (7 - r.val) := by decide +kernel
theorem ishl_u8 : ∀ r : Fin 8, ishl .u8 1 (r.val : Int) = 2 ^ r.val := by decide +kernel
theorem bit_is {s : Bs} {i : Nat} (hs : s.length ≤ 1000000000) (h : i < 8 * s.length) : g_ref03_Bit (s, (i : Int), ()) = some ((decide ((s[i / 8]'(by omega)).toNat / 2 ^ (7 - i % 8) % 2 = 1), ()), ()) := by
  have hk : i / 8 < s.length := by omega
  have e1 : Int.tdiv (i : Int) 8 = ((i / 8 : Nat) : Int) := by rw [Int.tdiv_eq_ediv_of_nonneg (by omega)]; omega
  have e2 : Int.tmod (i : Int) 8 = ((i % 8 : Nat) : Int) := by rw [Int.tmod_eq_emod_of_nonneg (by omega)]; omega
  rw [g_ref03_Bit_eq, ifd (by omega), w64 (x := 8 * (s.length : Int)) (by omega) (by omega), ifd (by omega), e1, e2, w64 (x := ((i / 8 : Nat) : Int)) (by omega) (by omega), if_pos (by omega), Int.toNat_natCast, bind_at hk, w64 (x := 7 - ((i % 8 : Nat) : Int)) (by omega) (by omega), wu64 (by omega) (by omega), if_pos (by omega), w64n]
  have e3 : ishr .i64 ((s[i / 8].toNat : Nat) : Int) (7 - ((i % 8 : Nat) : Int)) = ((s[i / 8].toNat / 2 ^ (7 - i % 8) : Nat) : Int) := by
    unfold ishr
    rw [show min (7 - ((i % 8 : Nat) : Int)).toNat IntKind.i64.bits = 7 - i % 8 by simp only [IntKind.bits]; omega, Int.fdiv_eq_ediv_of_nonneg _ (Int.pow_nonneg (by decide))]
    simp
  rw [e3]
  have e4 : ∀ m : Nat, (Int.tmod (m : Int) 2 == 1) = decide (m % 2 = 1) := fun m => by
    rw [Int.tmod_eq_emod_of_nonneg (by omega), Bool.eq_iff_iff]; simp; omega
  rw [e4]
theorem keepF_succ {s : Bs} {i : Nat} (h : i < 8 * s.length) : keepF s (i + 1 : Nat) = (if (s[i / 8]'(by omega)).toNat / 2 ^ (7 - i % 8) % 2 = 1 then (keepF s i).set (i / 8) (UInt8.ofNat (((keepF s i)[i / 8]'(by rw [keepF_length]; omega)).toNat + 2 ^ (7 - i % 8))) else keepF s i) := by
  have hk : i / 8 < s.length := by omega
  have far : ∀ j (hj : j < s.length), j ≠ i / 8 → maskB (s[j]'hj) (((i + 1 : Nat) : Int) - 8 * j) = maskB (s[j]'hj) ((i : Int) - 8 * j) := by
    intro j hj hne
    by_cases hlt : j < i / 8
    · rw [maskB_all (by omega), maskB_all (by omega)]
    · rw [maskB_none (by omega), maskB_none (by omega)]
  have st := mask_step ⟨s[i / 8].toNat, s[i / 8].toNat_lt⟩ ⟨i % 8, by omega⟩
  dsimp only at st
  have m1 : (maskB s[i / 8] (((i + 1 : Nat) : Int) - 8 * ((i / 8 : Nat) : Int))).toNat = maskN s[i / 8].toNat (i % 8 + 1) := by rw [maskB_toNat]; congr 1; omega
  have m0 : (maskB s[i / 8] ((i : Int) - 8 * ((i / 8 : Nat) : Int))).toNat = maskN s[i / 8].toNat (i % 8) := by rw [maskB_toNat]; congr 1; omega
  apply List.ext_getElem
  · split <;> simp [keepF_length]
  · intro j h1 h2
    have hj : j < s.length := by rw [keepF_length] at h1; exact h1
    rw [keepF_get s _ j hj]
    split
    · rename_i hb
      rw [List.getElem_set]
      split
      · rename_i he
        subst he
        apply UInt8.toNat.inj
        have lt := (maskB s[i / 8] (((i + 1 : Nat) : Int) - 8 * ((i / 8 : Nat) : Int))).toNat_lt
        rw [m1] at lt
        rw [m1, keepF_get s _ _ hk, m0, UInt8.toNat_ofNat', st, hb, Nat.one_mul]
        rw [st, hb, Nat.one_mul] at lt
        exact (Nat.mod_eq_of_lt lt).symm
      · rw [keepF_get s _ j hj]; exact far j hj (by omega)
    · rename_i hb
      rw [keepF_get s _ j hj]
      by_cases he : j = i / 8
      · subst he
        apply UInt8.toNat.inj
        have : s[i / 8].toNat / 2 ^ (7 - i % 8) % 2 = 0 := by omega
        rw [m1, m0, st, this]; simp
      · exact far j hj he
theorem rkeep_loop {s : Bs} {n : Int} {c : Nat} (hs : s.length ≤ 1000000000) : ∀ (d m i : Nat), 8 * s.length - i = d → i ≤ 8 * s.length → (i : Int) ≤ n → d < m → L_ref03_Keep_0 c m s n i (keepF s i) = some ((keepF s n, ()), ()) := by
  intro d
  induction d with
  | zero =>
    intro m i hd hi hn hm
    obtain ⟨m, rfl⟩ : ∃ k, m = k + 1 := ⟨m - 1, by omega⟩
    rw [L_ref03_Keep_0_eq, w64 (x := 8 * (s.length : Int)) (by omega) (by omega), ifn (by omega), keepF_all (by omega), keepF_all (by omega)]
  | succ d ih =>
    intro m i hd hi hn hm
    obtain ⟨m, rfl⟩ : ∃ k, m = k + 1 := ⟨m - 1, by omega⟩
    rw [L_ref03_Keep_0_eq, w64 (x := 8 * (s.length : Int)) (by omega) (by omega), ifd (by omega)]
    by_cases h : (i : Int) < n
    · have hi' : i < 8 * s.length := by omega
      have e1 : Int.tdiv (i : Int) 8 = ((i / 8 : Nat) : Int) := by rw [Int.tdiv_eq_ediv_of_nonneg (by omega)]; omega
      have e2 : Int.tmod (i : Int) 8 = ((i % 8 : Nat) : Int) := by rw [Int.tmod_eq_emod_of_nonneg (by omega)]; omega
      have next := ih m (i + 1) (by omega) (by omega) (by omega) (by omega)
      rw [keepF_succ hi', show ((i + 1 : Nat) : Int) = (i : Int) + 1 by omega] at next
      rw [ifd h, bit_is hs hi', Option.bind_some, e1, e2, w64 (x := ((i / 8 : Nat) : Int)) (by omega) (by omega), w64 (x := 7 - ((i % 8 : Nat) : Int)) (by omega) (by omega), wu64 (by omega) (by omega), w64 (x := (i : Int) + 1) (by omega) (by omega), Int.toNat_natCast, keepF_length]
      dsimp only
      by_cases hb : (s[i / 8]'(by omega)).toNat / 2 ^ (7 - i % 8) % 2 = 1
      · rw [if_pos hb] at next
        have hk : i / 8 < (keepF s i).length := by rw [keepF_length]; omega
        rw [ifd hb, if_pos (by omega), bind_at hk, if_pos (by omega), if_pos (by omega), if_pos (by omega)]
        have e5 : u8of (IntKind.wrap .u8 ((((keepF s i)[i / 8]).toNat : Int) + ishl .u8 1 (7 - ((i % 8 : Nat) : Int)))) = UInt8.ofNat (((keepF s i)[i / 8]).toNat + 2 ^ (7 - i % 8)) := by
          have := ishl_u8 ⟨7 - i % 8, by omega⟩
          dsimp only at this
          rw [show ((7 - i % 8 : Nat) : Int) = 7 - ((i % 8 : Nat) : Int) by omega] at this
          rw [this, wu8]
          apply UInt8.toNat.inj
          have h1 := u8of_int ((((keepF s i)[i / 8]).toNat : Int) + 2 ^ (7 - i % 8))
          rw [u8of_emod' (by have : (0 : Int) ≤ 2 ^ (7 - i % 8) := Int.pow_nonneg (by decide); omega)]
          have : ((((keepF s i)[i / 8]).toNat : Int) + 2 ^ (7 - i % 8)) = (((((keepF s i)[i / 8]).toNat + 2 ^ (7 - i % 8) : Nat)) : Int) := by simp
          rw [this]
          unfold u8of
          rw [Int.toNat_natCast]
        rw [e5]
        exact next
      · rw [if_neg hb] at next
        rw [ifn hb]
        exact next
    · have : n = i := by omega
      rw [ifn h, this]
theorem rkeep_is {s : Bs} {n : Int} (hs : s.length ≤ 1000000000) : g_ref03_Keep (s, n, ()) = some ((keepF s n, ()), ()) := by
  show h_ref03_Keep fuel _ = _
  rw [h_ref03_Keep_eq, if_pos (by unfold roomI; omega), Int.toNat_natCast]
  by_cases h : 0 ≤ n
  · have := rkeep_loop (n := n) (c := fuel) hs (8 * s.length) fuel 0 (by omega) (by omega) (by omega) (fuel_ge (by omega))
    rw [keepF_none (n := ((0 : Nat) : Int)) (by omega)] at this
    exact this
  · obtain ⟨c, hc⟩ := fuel_pos
    have : fuel = (c + 999999999999) + 1 := by omega
    rw [keepF_none (by omega), this, L_ref03_Keep_0_eq, w64 (x := 8 * (s.length : Int)) (by omega) (by omega), ifn (show ¬ (0 : Int) < n by omega)]
    split <;> rfl
def cleanB (s : Bs) (n : Int) : Bool := keepF s n == s
theorem clean_is {s : Bs} {n : Int} (hs : s.length ≤ 1000000000) (hn : IntKind.has .i64 n) : g_bits_Clean (s, n, ()) = some ((cleanB s n, ()), ()) := by
  rw [g_bits_Clean_eq, keep_is hs hn]; rfl
theorem rclean_is {s : Bs} {n : Int} (hs : s.length ≤ 1000000000) : g_ref03_Clean (s, n, ()) = some ((cleanB s n, ()), ()) := by
  rw [g_ref03_Clean_eq, rkeep_is hs]; rfl
def leastF (n : Int) : Int := if n < 0 then 0 else (n + 7) / 8
theorem least_is {n : Int} (h : n ≤ 9000000000000000000) : g_prefix_Least (n, ()) = some ((leastF n, ()), ()) := by
  rw [g_prefix_Least_eq]
  unfold leastF
  by_cases h0 : n < 0
  · rw [if_pos (show 0 > n from h0), if_pos h0]; rfl
  · rw [if_neg (show ¬ 0 > n from h0), if_neg h0, w64 (by omega) (by omega), ishr3 (by omega)]
theorem rleast_is {n : Int} (h : n ≤ 9000000000000000000) : g_ref04_Least (n, ()) = some ((leastF n, ()), ()) := by
  rw [g_ref04_Least_eq]
  unfold leastF
  by_cases h0 : n < 0
  · rw [ifd h0, if_pos h0]
  · rw [ifn h0, if_neg h0, w64 (x := n + 7) (by omega) (by omega), Int.tdiv_eq_ediv_of_nonneg (by omega), w64 (by omega) (by omega)]
def fillF (s : Bs) (n : Int) : Bs := s ++ List.replicate (n.toNat - s.length) 0
theorem fill_is {s : Bs} {n : Int} (h : n ≤ 1000000000) : g_prefix_Fill (s, n, ()) = some ((fillF s n, ()), ()) := by
  rw [g_prefix_Fill_eq]
  unfold fillF
  by_cases h0 : n ≤ (s.length : Int)
  · rw [ifd h0, show n.toNat - s.length = 0 by omega]; simp
  · rw [ifn h0, if_pos (by unfold roomI; omega), List.length_replicate, List.take_of_length_le (by omega), List.drop_replicate]
def cutF (a : Bs) (n : Int) : Bs := keepF (a.take (leastF n).toNat) n
theorem leastF_nn (n : Int) : 0 ≤ leastF n := by unfold leastF; split <;> omega
theorem min_toNat (a : Bs) (n : Int) (h : 0 ≤ n) : 0 ≤ (if (a.length : Int) < n then (a.length : Int) else n) ∧ (if (a.length : Int) < n then (a.length : Int) else n) ≤ (a.length : Int) ∧ a.take (if (a.length : Int) < n then (a.length : Int) else n).toNat = a.take n.toNat := by
  split
  · refine ⟨by omega, by omega, ?_⟩
    rw [Int.toNat_natCast, List.take_length, List.take_of_length_le (by omega)]
  · exact ⟨by omega, by omega, rfl⟩
theorem pcut_is {a : Bs} {n : Int} (ha : a.length ≤ 1000000000) (hn : IntKind.has .i64 n) (h : n ≤ 9000000000000000000) : g_prefix_Cut (a, n, ()) = some ((cutF a n, ()), ()) := by
  obtain ⟨m1, m2, m3⟩ := min_toNat a (leastF n) (leastF_nn n)
  rw [g_prefix_Cut_eq, least_is h, Option.bind_some]
  dsimp only
  rw [if_pos ⟨m1, m2⟩, m3, keep_is (by rw [List.length_take]; omega) hn]; rfl
theorem keepF_take (a : Bs) (n : Int) : ∀ k : Nat, (keepF a n).take k = keepF (a.take k) n := by
  intro k
  induction a generalizing n k with
  | nil => simp [keepF]
  | cons b r ih =>
    cases k with
    | zero => simp [keepF]
    | succ k => simp [keepF, ih]
theorem rcut_is {a : Bs} {n : Int} (ha : a.length ≤ 1000000000) (h : n ≤ 9000000000000000000) : g_ref04_Cut (a, n, ()) = some ((cutF a n, ()), ()) := by
  obtain ⟨m1, m2, m3⟩ := min_toNat a (leastF n) (leastF_nn n)
  rw [g_ref04_Cut_eq, rkeep_is ha, Option.bind_some, rleast_is h, Option.bind_some]
  dsimp only
  rw [if_pos (by rw [keepF_length]; exact ⟨m1, m2⟩), keepF_take, m3]; rfl
end Go.VP
set_option linter.unusedVariables false
set_option linter.unusedSimpArgs false
set_option maxRecDepth 100000
namespace Go.VP
open Go Go.VI
def addrB (ae : Int) (a : Bs) : Bool := if ae = 0 then a == [] else if ae = 1 then decide (a.length = 4) else if ae = 2 then decide (a.length = 16) else if ae = 3 then linkB a else false
theorem addr_is (ae : Int) (a : Bs) : g_field_address (ae, a, ()) = some ((addrB ae a, ()), ()) := by
  rw [g_field_address_eq, fam_is, link_is]
  unfold addrB
  refine bq_step (fun h => ?_) (fun h => ?_)
  · rw [if_pos h]
  rw [if_neg h]
  refine bq_step (fun h => ?_) (fun h => ?_)
  · rw [if_pos h, Option.bind_some]
    unfold famF; split
    · simp [*]
    · split <;> simp [*]
  rw [if_neg h]
  refine bq_step (fun h => ?_) (fun h => ?_)
  · rw [if_pos h, Option.bind_some]
    unfold famF; split
    · simp [*]
    · split <;> simp [*]
  rw [if_neg h]
  refine bq_step (fun h => ?_) (fun h => ?_)
  · rw [if_pos h, Option.bind_some]
  rw [if_neg h]
theorem raddr_is (ae : Int) (a : Bs) : g_ref20_addr (ae, a, ()) = some ((addrB ae a, ()), ()) := by
  rw [g_ref20_addr_eq, rlink_is]
  unfold addrB
  refine bq_step (fun h => ?_) (fun h => ?_)
  · rw [if_pos h]
  rw [if_neg h]
  refine bq_step (fun h => ?_) (fun h => ?_)
  · rw [if_pos h]
    have : ((a.length : Int) == 4) = decide (a.length = 4) := by rw [Bool.eq_iff_iff]; simp; omega
    rw [this]
  rw [if_neg h]
  refine bq_step (fun h => ?_) (fun h => ?_)
  · rw [if_pos h]
    have : ((a.length : Int) == 16) = decide (a.length = 16) := by rw [Bool.eq_iff_iff]; simp; omega
    rw [this]
  rw [if_neg h]
  refine bq_step (fun h => ?_) (fun h => ?_)
  · rw [if_pos h, Option.bind_some]
  rw [if_neg h]
def kindF (m : Msg) : Bool := if m.kind = 7 then true else if m.kind = 8 then true else if m.kind = 9 then (m.flags == 0 || m.flags == 1) else if m.kind = 10 then addrB m.ae m.addr else false
noncomputable def fieldB (m : Msg) : Bool := fitsB m.nonce 2 && (fitsB m.interval 2 && (fitsB m.seq 2 && (fitsB m.cost 2 && (bareB m && (rightB m.subs && kindF m)))))
structure GoodM (m : Msg) : Prop where
  few : Lite m
  nonce : IntKind.has .i64 m.nonce
  interval : IntKind.has .i64 m.interval
  seq : IntKind.has .i64 m.seq
  cost : IntKind.has .i64 m.cost
  kind : IntKind.has .i64 m.kind
  flags : IntKind.has .i64 m.flags
  ae : IntKind.has .i64 m.ae
  plen : IntKind.has .i64 m.plen
  hops : IntKind.has .i64 m.hops
theorem kindF_is {m : Msg} {c : Option ((Bool × Unit) × Unit)} (hc : c = some ((addrB m.ae m.addr, ()), ())) :
  (if (m.kind == 7) = true then (if (m.kind == 7) = true then some ((true, ()), ()) else (if (m.kind == 9) = true then (if (m.flags == 0) = true then some ((true, ()), ()) else some (((m.flags == 1), ()), ())) else (if (m.kind == 10) = true then (c.bind fun r5 => some ((r5.1.1, ()), ())) else some ((false, ()), ())))) else (if (m.kind == 8) = true then some ((true, ()), ()) else (if (m.kind == 9) = true then (if (m.flags == 0) = true then some ((true, ()), ()) else some (((m.flags == 1), ()), ())) else (if (m.kind == 10) = true then (c.bind fun r6 => some ((r6.1.1, ()), ())) else some ((false, ()), ()))))) = some ((kindF m, ()), ()) := by
  subst hc
  unfold kindF
  refine bq_step (fun h => ?_) (fun h => ?_)
  · rw [if_pos h, if_pos (by simp [h])]
  rw [if_neg h]
  refine bq_step (fun h => ?_) (fun h => ?_)
  · rw [if_pos h]
  rw [if_neg h]
  refine bq_step (fun h => ?_) (fun h => ?_)
  · rw [if_pos h]
    refine bq_step (fun h2 => ?_) (fun h2 => ?_)
    · simp [h2]
    · have : (m.flags == 0) = false := by simpa using h2
      rw [this, Bool.false_or]
  rw [if_neg h]
  refine bq_step (fun h => ?_) (fun h => ?_)
  · rw [if_pos h, Option.bind_some]
  rw [if_neg h]
theorem right_is {m : Msg} (g : GoodM m) : g_field_Right (m, ()) = some ((fieldB m, ()), ()) := by
  have f2 : ∀ {n : Int}, IntKind.has .i64 n → g_octet_Fits (n, 2, ()) = some ((fitsB n 2, ()), ()) := fun h => fits_is (k := 2) h (by omega) (by omega)
  obtain ⟨c, hc⟩ := fuel_pos
  show h_field_Right fuel _ = _
  rw [h_field_Right_eq, show ([m.nonce, m.interval, m.seq, m.cost] : List Int).length = 4 from rfl]
  have e0 : fuel = (c + 999999999995) + 5 := by omega
  have st : ∀ (k : Nat) (i : Nat) (x : Int), [m.nonce, m.interval, m.seq, m.cost][i]? = some x → i < 4 → IntKind.has .i64 x → L_field_Right_0 fuel (k + 1) m [m.nonce, m.interval, m.seq, m.cost] ((4 : Nat) : Int) i = (if (!fitsB x 2) = true then some ((false, ()), ()) else L_field_Right_0 fuel k m [m.nonce, m.interval, m.seq, m.cost] ((4 : Nat) : Int) ((i + 1 : Nat) : Int)) := by
    intro k i x hx hi hh
    rw [L_field_Right_0_eq, ifd (by omega), if_pos (by omega), Int.toNat_natCast, hx, Option.bind_some, f2 hh, Option.bind_some, w64 (by omega) (by omega)]
    rfl
  have last : ∀ k, L_field_Right_0 fuel (k + 1) m [m.nonce, m.interval, m.seq, m.cost] ((4 : Nat) : Int) ((4 : Nat) : Int) = some ((bareB m && (rightB m.subs && kindF m), ()), ()) := by
    intro k
    rw [L_field_Right_0_eq, ifn (by omega), bare_is, Option.bind_some, sright_is g.few.fewS, Option.bind_some]
    dsimp only
    rw [kindF_is (addr_is _ _)]
    cases bareB m
    · rfl
    · cases rightB m.subs <;> rfl
  have := st (c + 999999999999) 0 m.nonce rfl (by omega) g.nonce
  rw [show c + 999999999999 + 1 = fuel by omega] at this
  rw [show (0 : Int) = ((0 : Nat) : Int) from rfl, this]
  have := st (c + 999999999998) 1 m.interval rfl (by omega) g.interval
  rw [this]
  have := st (c + 999999999997) 2 m.seq rfl (by omega) g.seq
  rw [this]
  have := st (c + 999999999996) 3 m.cost rfl (by omega) g.cost
  rw [this]
  have := last (c + 999999999995)
  rw [this]
  unfold fieldB
  cases fitsB m.nonce 2
  · rfl
  · cases fitsB m.interval 2
    · rfl
    · cases fitsB m.seq 2
      · rfl
      · cases fitsB m.cost 2 <;> rfl
theorem rtwo_is (n : Int) : g_ref20_two (n, ()) = some ((fitsB n 2, ()), ()) := by
  have := rfits_is (n := n) (k := 2) (by omega) (by omega)
  rw [g_ref20_two_eq, show (2 : Int) = ((2 : Nat) : Int) from rfl, this]; rfl
theorem rright_is {m : Msg} (g : GoodM m) : g_ref20_Right (m, ()) = some ((fieldB m, ()), ()) := by
  have := g.few.list; have := g.few.subs
  rw [g_ref20_Right_eq, rbare_is (by omega) (by omega), Option.bind_some, rsright_is g.few.fewS, Option.bind_some]
  simp only [rtwo_is, Option.bind_some]
  rw [kindF_is (raddr_is _ _)]
  unfold fieldB
  cases bareB m
  · simp
  · cases rightB m.subs
    · simp
    · cases fitsB m.nonce 2
      · rfl
      · cases fitsB m.interval 2
        · rfl
        · cases fitsB m.seq 2
          · rfl
          · cases fitsB m.cost 2 <;> rfl
def fieldsF (m : Msg) : Bs :=
  if m.kind = 7 then be 2 0 ++ (be 2 m.nonce ++ be 2 m.interval)
  else if m.kind = 8 then be 2 m.nonce
  else if m.kind = 9 then be 2 (32768 * m.flags) ++ (be 2 m.seq ++ be 2 m.interval)
  else be 2 (256 * m.ae) ++ (be 2 m.cost ++ (be 2 m.interval ++ (if m.ae = 3 then m.addr.drop 8 else m.addr)))
noncomputable def fieldPut (m : Msg) : Bs × Bool := if fieldB m = true then tput (m.kind - 5) (fieldsF m ++ encS m.subs) else ([], false)
theorem be2 {n : Int} (h : 0 ≤ n ∧ n < 65536) : [u8of (IntKind.wrap .u8 (ishr .i64 n 8)), u8of (IntKind.wrap .u8 n)] = be 2 n := by
  have e : ishr .i64 n 8 = n / 256 := by
    unfold ishr
    rw [show ((2 : Int) ^ min (8 : Int).toNat IntKind.i64.bits) = 256 by decide]
    exact Int.fdiv_eq_ediv_of_nonneg _ (by decide)
  rw [e, wu8, wu8]; rfl
theorem two_loop {l : List Int} {n : Nat} (hl : l.length ≤ 10) (hr : ∀ x ∈ l, 0 ≤ x ∧ x < 65536) : ∀ (d m i : Nat) (b : Bs), i + d = l.length → d < m → b.length ≤ 1000 + 2 * i →
    L_field_writer_two_0 n m l i b = some ((), (⟨b ++ (l.drop i).flatMap (be 2)⟩, ())) := by
  intro d
  induction d with
  | zero =>
    intro m i b hd hm hb
    obtain ⟨m, rfl⟩ : ∃ k, m = k + 1 := ⟨m - 1, by omega⟩
    rw [L_field_writer_two_0_eq, ifn (by omega), List.drop_eq_nil_of_le (by omega)]
    simp
  | succ d ih =>
    intro m i b hd hm hb
    obtain ⟨m, rfl⟩ : ∃ k, m = k + 1 := ⟨m - 1, by omega⟩
    have hi : i < l.length := by omega
    have := ih m (i + 1) (b ++ be 2 l[i]) (by omega) (by omega) (by simp [be_length]; omega)
    rw [show ((i + 1 : Nat) : Int) = (i : Int) + 1 by omega] at this
    rw [L_field_writer_two_0_eq, ifd (by omega), if_pos (by omega), Int.toNat_natCast, bind_at hi, if_pos (roomB_of (by simp; omega)), be2 (hr _ (List.getElem_mem hi)), w64 (by omega) (by omega), this, List.drop_eq_getElem_cons hi]
    simp only [List.flatMap_cons, List.append_assoc]
theorem two_is {l : List Int} {b : Bs} (hl : l.length ≤ 10) (hr : ∀ x ∈ l, 0 ≤ x ∧ x < 65536) (hb : b.length ≤ 1000) : g_field_writer_two (⟨b⟩, l, ()) = some ((), (⟨b ++ l.flatMap (be 2)⟩, ())) := by
  show h_field_writer_two fuel _ = _
  rw [h_field_writer_two_eq]
  exact two_loop (n := fuel) hl hr l.length fuel 0 b (by omega) (fuel_ge (by omega)) (by omega)
structure FieldR (m : Msg) : Prop where
  nonce : 0 ≤ m.nonce ∧ m.nonce < 65536
  interval : 0 ≤ m.interval ∧ m.interval < 65536
  seq : 0 ≤ m.seq ∧ m.seq < 65536
  cost : 0 ≤ m.cost ∧ m.cost < 65536
  bare : bareB m = true
  subs : rightB m.subs = true
  kind : kindF m = true
theorem fitsB2 {n : Int} : fitsB n 2 = true ↔ 0 ≤ n ∧ n < 65536 := by simp [fitsB]
theorem fieldR_iff {m : Msg} : fieldB m = true ↔ FieldR m := by
  unfold fieldB
  simp only [Bool.and_eq_true, fitsB2]
  exact ⟨fun ⟨a, b, c, d, e, f, g⟩ => ⟨a, b, c, d, e, f, g⟩, fun h => ⟨h.1, h.2, h.3, h.4, h.5, h.6, h.7⟩⟩
theorem FieldR.kinds {m : Msg} (h : FieldR m) : m.kind = 7 ∨ m.kind = 8 ∨ (m.kind = 9 ∧ (m.flags = 0 ∨ m.flags = 1)) ∨ (m.kind = 10 ∧ addrB m.ae m.addr = true) := by
  have := h.kind
  unfold kindF at this
  split at this
  · omega
  · split at this
    · omega
    · split at this
      · simp at this; exact .inr (.inr (.inl ⟨by assumption, this⟩))
      · split at this
        · exact .inr (.inr (.inr ⟨by assumption, this⟩))
        · cases this
theorem addrB_cases {ae : Int} {a : Bs} (h : addrB ae a = true) : (ae = 0 ∧ a = []) ∨ (ae = 1 ∧ a.length = 4) ∨ (ae = 2 ∧ a.length = 16) ∨ (ae = 3 ∧ linkB a = true) := by
  unfold addrB at h
  split at h
  · simp at h; exact .inl ⟨by assumption, h⟩
  · split at h
    · simp at h; exact .inr (.inl ⟨by assumption, h⟩)
    · split at h
      · simp at h; exact .inr (.inr (.inl ⟨by assumption, h⟩))
      · split at h
        · exact .inr (.inr (.inr ⟨by assumption, h⟩))
        · cases h
theorem ishl_ok {x : Int} {k : Nat} (hx : 0 ≤ x ∧ x < 65536) (hk : k ≤ 15) : ishl .i64 x k = 2 ^ k * x := by
  unfold ishl
  rw [Int.mul_comm]
  have e : min (k : Int).toNat IntKind.i64.bits = k := by simp only [IntKind.bits]; omega
  rw [e]
  have hp : (2 : Int) ^ k ≤ 32768 ∧ 1 ≤ (2 : Int) ^ k := by
    match k, hk with
    | 0, _ | 1, _ | 2, _ | 3, _ | 4, _ | 5, _ | 6, _ | 7, _ | 8, _ | 9, _ | 10, _ | 11, _ | 12, _ | 13, _ | 14, _ | 15, _ => decide
  have h1 : x * 2 ^ k ≤ 65536 * 32768 := Int.mul_le_mul (by omega) hp.1 (by omega) (by omega)
  have h0 : 0 ≤ x * 2 ^ k := Int.mul_nonneg hx.1 (by omega)
  rw [w64 (by omega) (by omega), Int.mul_comm]
theorem putS_r {l : List Sub} (h : rightB l = true) : putS l = (encS l, true) := by unfold putS; rw [if_pos h]
theorem encS_small {l : List Sub} (h : rightB l = true) : (encS l).length ≤ 200 := by
  have := (rightB_split h).2; have := encS_length l; omega
theorem put_is {m : Msg} (g : GoodM m) : g_field_Put (m, ()) = some (((fieldPut m).1, (fieldPut m).2, ()), ()) := by
  rw [g_field_Put_eq, right_is g, Option.bind_some]
  unfold fieldPut
  dsimp only
  by_cases h : fieldB m = true
  · have r := fieldR_iff.1 h
    have hs := sput_is g.few.fewS (by have := g.few.subs; omega)
    rw [putS_r r.subs] at hs
    have hz := encS_small r.subs
    rw [if_neg (by simp [h]), if_pos h, hs]
    simp only [Option.bind_some]
    rcases r.kinds with hk | hk | ⟨hk, hf⟩ | ⟨hk, ha⟩
    · rw [if_pos (by simp [hk]), two_is (by simp) (by have := r.nonce; have := r.interval; simp; omega) (by simp), Option.bind_some]
      dsimp only
      rw [if_pos (maxB_of (by simp [be_length]; omega)), tput_is, w64 (x := m.kind - 7) (by omega) (by omega), w64 (by omega) (by omega)]
      simp [fieldsF, hk]
    · rw [if_neg (by simp [hk]), if_pos (by simp [hk]), two_is (by simp) (by have := r.nonce; simp; omega) (by simp), Option.bind_some]
      dsimp only
      rw [if_pos (maxB_of (by simp [be_length]; omega)), tput_is, w64 (x := m.kind - 7) (by omega) (by omega), w64 (by omega) (by omega)]
      simp [fieldsF, hk]
    · rw [if_neg (by simp [hk]), if_neg (by simp [hk]), if_pos (by simp [hk]), show (15 : Int) = ((15 : Nat) : Int) from rfl, ishl_ok (by omega) (by omega), two_is (by simp) (by have := r.seq; have := r.interval; simp; omega) (by simp), Option.bind_some]
      dsimp only
      rw [if_pos (maxB_of (by simp [be_length]; omega)), tput_is, w64 (x := m.kind - 7) (by omega) (by omega), w64 (by omega) (by omega)]
      simp [fieldsF, hk]
    · have hc := addrB_cases ha
      have hl : m.addr.length ≤ 16 := by rcases hc with ⟨_, h⟩ | ⟨_, h⟩ | ⟨_, h⟩ | ⟨_, h⟩ <;> first | (rw [h]; simp; done) | omega | (have := linkB_len h; omega)
      rw [if_neg (by simp [hk]), if_neg (by simp [hk]), if_neg (by simp [hk]), if_pos (by simp [hk]), show (8 : Int) = ((8 : Nat) : Int) from rfl, ishl_ok (by omega) (by omega), two_is (by simp) (by have := r.cost; have := r.interval; simp; omega) (by simp), Option.bind_some, short_is, Option.bind_some]
      dsimp only
      have fin : ∀ a : Bs, a.length ≤ 16 → fieldsF m = be 2 (256 * m.ae) ++ (be 2 m.cost ++ (be 2 m.interval ++ a)) → (if roomB (([] ++ [2 ^ 8 * m.ae, m.cost, m.interval].flatMap (be 2)).length + a.length) = true then (if maxB ((([] ++ [2 ^ 8 * m.ae, m.cost, m.interval].flatMap (be 2)) ++ a).length + (encS m.subs).length) = true then ((g_frame_Put ((IntKind.wrap .i64 ((IntKind.wrap .i64 (m.kind - 7)) + 2)), ((([] ++ [2 ^ 8 * m.ae, m.cost, m.interval].flatMap (be 2)) ++ a) ++ encS m.subs), ())).bind fun r14 => some ((r14.1.1, r14.1.2.1, ()), ())) else none) else none) = some (((tput (m.kind - 5) (fieldsF m ++ encS m.subs)).1, (tput (m.kind - 5) (fieldsF m ++ encS m.subs)).2, ()), ()) := by
        intro a ha he
        rw [if_pos (roomB_of (by simp [be_length]; omega)), if_pos (maxB_of (by simp [be_length]; omega)), tput_is, w64 (x := m.kind - 7) (by omega) (by omega), w64 (by omega) (by omega), he]
        simp [hk]
      unfold shortF
      by_cases hb : linkB m.addr = true
      · rw [hb, ift, ift]
        dsimp only
        refine bq_step (fun h3 => ?_) (fun h3 => ?_)
        · exact fin _ (by simp; omega) (by simp [fieldsF, hk, h3])
        · exact fin _ hl (by simp [fieldsF, hk, h3])
      · have h3 : m.ae ≠ 3 := fun h3 => by rcases hc with ⟨h, _⟩ | ⟨h, _⟩ | ⟨h, _⟩ | ⟨_, h⟩ <;> first | omega | exact hb h
        rw [Bool.not_eq_true] at hb
        rw [hb, iff_, iff_]
        exact fin _ hl (by simp [fieldsF, hk, h3])
  · rw [Bool.not_eq_true] at h
    rw [h, ifnf, iff_]
theorem oput_of {n : Int} {k : Nat} (h : fitsB n k = true) : (oput n k).1 = be k n := by unfold oput; rw [if_pos h]
theorem rof2 {n : Int} (h : 0 ≤ n ∧ n < 65536) : g_ref02_Of (n, 2, ()) = some ((be 2 n, ()), ()) := by
  have := rof_is (n := n) (k := 2) (has64.2 ⟨by omega, by omega⟩) (by omega) (by omega)
  rw [oput_of (fitsB2.2 h)] at this
  exact this
theorem rof1 {n : Int} (h : 0 ≤ n ∧ n < 256) : g_ref02_Of (n, 1, ()) = some ((be 1 n, ()), ()) := by
  have := rof_is (n := n) (k := 1) (has64.2 ⟨by omega, by omega⟩) (by omega) (by omega)
  rw [oput_of (by simp [fitsB]; omega)] at this
  exact this
theorem be2_256 {n : Int} (h : 0 ≤ n ∧ n < 256) : be 2 (256 * n) = be 1 n ++ [0] := by
  show ([] ++ [u8of ((256 * n / 256) % 256)]) ++ [u8of ((256 * n) % 256)] = ([] ++ [u8of (n % 256)]) ++ [0]
  rw [show 256 * n / 256 = n by omega, show 256 * n % 256 = 0 by omega]; rfl
theorem rfields_is {m : Msg} (r : FieldR m) (hl : m.addr.length ≤ 400) : g_ref20_fields (m, ()) = some ((m.kind - 5, fieldsF m, ()), ()) := by
  rw [g_ref20_fields_eq, rof2 r.interval, Option.bind_some]
  dsimp only
  rcases r.kinds with hk | hk | ⟨hk, hf⟩ | ⟨hk, ha⟩
  · rw [if_pos (by simp [hk]), rof2 r.nonce, Option.bind_some, if_pos (maxB_of (by simp [be_length])), if_pos (maxB_of (by simp [be_length]))]
    simp [fieldsF, hk]; rfl
  · rw [if_neg (by simp [hk]), if_pos (by simp [hk]), rof2 r.nonce, Option.bind_some]
    simp [fieldsF, hk]
  · rw [if_neg (by simp [hk]), if_neg (by simp [hk]), if_pos (by simp [hk]), w64 (by omega) (by omega), rof2 (by omega), Option.bind_some, rof2 r.seq, Option.bind_some, if_pos (maxB_of (by simp [be_length])), if_pos (maxB_of (by simp [be_length]))]
    simp [fieldsF, hk]
  · have hc := addrB_cases ha
    have hae : 0 ≤ m.ae ∧ m.ae < 256 := by rcases hc with ⟨h, _⟩ | ⟨h, _⟩ | ⟨h, _⟩ | ⟨h, _⟩ <;> omega
    have hd : (m.addr.drop 8).length ≤ 400 := by simp; omega
    rw [if_neg (by simp [hk]), if_neg (by simp [hk]), if_neg (by simp [hk]), rof1 hae, rof2 r.cost, rshort_is]
    simp only [Option.bind_some]
    by_cases h3 : m.ae = 3
    · have hb : linkB m.addr = true := by rcases hc with ⟨h, _⟩ | ⟨h, _⟩ | ⟨h, _⟩ | ⟨_, h⟩ <;> first | omega | exact h
      have hs : (shortF m.addr).1 = m.addr.drop 8 := by unfold shortF; rw [if_pos hb]
      rw [if_pos (by simp [h3]), hs, if_pos (maxB_of (by simp [be_length])), if_pos (maxB_of (by simp [be_length])), if_pos (maxB_of (by simp [be_length])), if_pos (maxB_of (by simp [be_length]; omega))]
      simp [fieldsF, hk, h3, be2_256 (show (0 : Int) ≤ 3 ∧ (3 : Int) < 256 by omega)]
      rfl
    · rw [if_neg (by simp [h3]), if_pos (maxB_of (by simp [be_length])), if_pos (maxB_of (by simp [be_length])), if_pos (maxB_of (by simp [be_length])), if_pos (maxB_of (by simp [be_length]; omega))]
      simp [fieldsF, hk, h3, be2_256 hae]
theorem fieldsF_len {m : Msg} (hl : m.addr.length ≤ 400) : (fieldsF m).length ≤ 406 := by
  unfold fieldsF; split
  · simp [be_length]
  · split
    · simp [be_length]
    · split
      · simp [be_length]
      · split <;> simp [be_length] <;> omega
theorem rput20_is {m : Msg} (g : GoodM m) : g_ref20_Put (m, ()) = some (((fieldPut m).1, (fieldPut m).2, ()), ()) := by
  rw [g_ref20_Put_eq, rright_is g, Option.bind_some]
  unfold fieldPut
  dsimp only
  by_cases h : fieldB m = true
  · have r := fieldR_iff.1 h
    have hs := rsput_is g.few.fewS (by have := g.few.subs; omega)
    rw [putS_r r.subs] at hs
    have hz := encS_small r.subs
    have hl := fieldsF_len (m := m) (by have := g.few.addr; omega)
    rw [if_neg (by simp [h]), if_pos h, hs, rfields_is r (by have := g.few.addr; omega)]
    simp only [Option.bind_some]
    rw [if_pos (maxB_of (by omega)), rtput_is]; rfl
  · rw [Bool.not_eq_true] at h
    rw [h, ifnf, iff_]
end Go.VP
set_option linter.unusedVariables false
set_option linter.unusedSimpArgs false
set_option maxRecDepth 100000
namespace Go.VP
open Go Go.VI
abbrev msg0 : Msg := ⟨0, 0, 0, [], 0, 0, [], 0, 0, [], 0, [], 0, 0, 0, 0, 0, 0, 0, [], [], [], 0, [], []⟩
def finG (F : List Sub → Msg) (x : List Sub × Bool × Int) : Msg × Bool × Int := if (x.2.2 != 0) = true then (msg0, false, x.2.2) else if (!x.2.1) = true then (msg0, false, x.2.2) else (F x.1, true, 0)
theorem finG_some (F : List Sub → Msg) (x : List Sub × Bool × Int) : (if (x.2.2 != 0) = true then (some ((msg0, false, x.2.2, ()), ()) : Option ((Msg × Bool × Int × Unit) × Unit)) else (if (!x.2.1) = true then some ((msg0, false, x.2.2, ()), ()) else some ((F x.1, true, 0, ()), ()))) = some (trip (finG F x), ()) := by
  unfold finG trip
  by_cases h : (x.2.2 != 0) = true
  · rw [if_pos h, if_pos h]
  · rw [if_neg h, if_neg h]
    by_cases h2 : (!x.2.1) = true
    · rw [if_pos h2, if_pos h2]
    · rw [if_neg h2, if_neg h2]
abbrev frd (d : Bs) (p : Int) (b : Bool) : S_field_reader := ⟨d, p, d.length, b⟩
theorem two_ok {d : Bs} {p q : Int} (h : d.length ≤ 1000000) (h0 : 0 ≤ p) (hq : q = p + 2) (h2 : q ≤ d.length) : g_field_reader_two (frd d p false, ()) = some ((num (cut_ d p 2), ()), (frd d q false, ())) := by
  subst hq
  have w : WfC d p d.length := ⟨h0, by omega, by omega, by omega⟩
  rw [g_field_reader_two_eq, num_ok w (by omega) (by omega) h2]; rfl
theorem two_bad {d : Bs} {p : Int} {b : Bool} (h : d.length ≤ 1000000) (h0 : 0 ≤ p) (h1 : p ≤ d.length) (h2 : b = true ∨ (d.length : Int) < p + 2) : g_field_reader_two (frd d p b, ()) = some ((0, ()), (frd d p true, ())) := by
  have w : WfC d p d.length := ⟨h0, by omega, by omega, by omega⟩
  rw [g_field_reader_two_eq, num_bad w (by omega) (by omega) h2]; rfl
def lenA (ae : Int) : Int := if ae = 0 then 0 else if ae = 1 then 4 else if ae = 2 then 16 else 8
theorem lenA_rng (ae : Int) : 0 ≤ lenA ae ∧ lenA ae ≤ 16 := by unfold lenA; split <;> (try split) <;> (try split) <;> omega
theorem lenA_8 {ae : Int} (ha : 0 ≤ ae ∧ ae ≤ 3) : lenA ae = 8 ↔ ae = 3 := by
  have : ae = 0 ∨ ae = 1 ∨ ae = 2 ∨ ae = 3 := by omega
  rcases this with rfl | rfl | rfl | rfl <;> decide
theorem raddr_ok {d : Bs} {p ae : Int} (h : d.length ≤ 1000000) (h0 : 0 ≤ p) (ha : 0 ≤ ae ∧ ae ≤ 3) (h2 : p + lenA ae ≤ d.length) : g_field_reader_addr (frd d p false, ae, ()) = some ((if ae = 3 then linkP ++ cut_ d p 8 else cut_ d p (lenA ae), ()), (frd d (p + lenA ae) false, ())) := by
  have hn := lenA_rng ae
  rw [g_field_reader_addr_eq, if_pos (by omega)]
  change ((g_cursor_Text (S_api_Cur.mk d p d.length false, lenA ae, ())).bind _) = _
  rw [text_ok (show WfC d p d.length from ⟨h0, by omega, by omega, by omega⟩) hn.1 h2, Option.bind_some, long_is, Option.bind_some]
  have hl := cut_length (s := d) (p := p) (n := lenA ae) h0 hn.1 h2
  dsimp only
  by_cases h3 : ae = 3
  · have h8 := (lenA_8 ha).2 h3
    have : longF (cut_ d p (lenA ae)) = (linkP ++ cut_ d p (lenA ae), true) := by unfold longF; rw [if_pos (by omega)]
    rw [this, ift, if_pos (by simp [h3]), if_pos h3, h8]
  · have h8 : lenA ae ≠ 8 := fun h => h3 ((lenA_8 ha).1 h)
    have : (longF (cut_ d p (lenA ae))).2 = false := by unfold longF; rw [if_neg (by omega)]
    rw [this, iff_, if_neg h3]
theorem raddr_bad {d : Bs} {p ae : Int} {b : Bool} (h : d.length ≤ 1000000) (h0 : 0 ≤ p) (h1 : p ≤ d.length) (ha : 0 ≤ ae ∧ ae ≤ 3) (h2 : b = true ∨ d.length < p + lenA ae) : ∃ s, g_field_reader_addr (frd d p b, ae, ()) = some ((s, ()), (frd d p true, ())) := by
  rw [g_field_reader_addr_eq, if_pos (by omega)]
  change ∃ s, ((g_cursor_Text (S_api_Cur.mk d p d.length b, lenA ae, ())).bind _) = _
  rw [text_bad (show WfC d p d.length from ⟨h0, by omega, by omega, by omega⟩) (h2.imp id .inr), Option.bind_some, long_is, Option.bind_some]
  exact ⟨_, rfl⟩
def fieldG (ty : Int) (d : Bs) : Msg × Bool × Int :=
  if ty = 2 then (if d.length < 6 then (msg0, false, 2) else finG (fun l => ⟨7, 0, 0, [], 0, 0, [], 0, 0, [], 0, [], 0, 0, num (cut_ d 4 2), 0, 0, num (cut_ d 2 2), 0, [], [], [], 0, [], l⟩) (getS (d.drop 6)))
  else if ty = 3 then (if d.length < 2 then (msg0, false, 2) else finG (fun l => ⟨8, 0, 0, [], 0, 0, [], 0, 0, [], 0, [], 0, 0, 0, 0, 0, num (cut_ d 0 2), 0, [], [], [], 0, [], l⟩) (getS (d.drop 2)))
  else if ty = 4 then (if d.length < 6 then (msg0, false, 2) else finG (fun l => ⟨9, 0, 0, [], 0, 0, [], 0, 0, [], 0, [], num (cut_ d 2 2), 0, num (cut_ d 4 2), bt d 0 / 128, 0, 0, 0, [], [], [], 0, [], l⟩) (getS (d.drop 6)))
  else if d.length < 6 then (msg0, false, 2)
  else if 3 < bt d 0 then (msg0, false, 0)
  else if (d.length : Int) < 6 + lenA (bt d 0) then (msg0, false, 2)
  else finG (fun l => ⟨10, 0, 0, [], 0, bt d 0, [], 0, 0, [], 0, [], 0, 0, num (cut_ d 4 2), 0, 0, 0, num (cut_ d 2 2), if bt d 0 = 3 then linkP ++ cut_ d 6 8 else cut_ d 6 (lenA (bt d 0)), [], [], 0, [], l⟩) (getS (d.drop (6 + lenA (bt d 0)).toNat))
theorem ishr8 {n : Int} (k : Nat) (hk : k ≤ 63) : ishr .i64 n k = n / 2 ^ k := by
  unfold ishr
  rw [show min (k : Int).toNat IntKind.i64.bits = k by simp only [IntKind.bits]; omega]
  exact Int.fdiv_eq_ediv_of_nonneg _ (Int.pow_nonneg (by decide))
theorem hi_lo (d : Bs) (h : 2 ≤ d.length) : num (cut_ d 0 2) = bt d 0 * 256 + bt d 1 := num2 (p := 0) (by omega)
theorem bt_lt2 (d : Bs) (h : 2 ≤ d.length) : num (cut_ d 0 2) / 256 = bt d 0 := by
  have := bt_rng d 0; have := bt_rng d 1; rw [hi_lo d h]; omega
theorem bt_128 (d : Bs) (h : 2 ≤ d.length) : num (cut_ d 0 2) / 32768 = bt d 0 / 128 := by
  have := bt_rng d 0; have := bt_rng d 1; rw [hi_lo d h]; omega
theorem getF_is {ty at_ : Int} {d : Bs} (hd : d.length ≤ 1000) (ht : 2 ≤ ty ∧ ty ≤ 5) : g_field_Get (⟨ty, at_, d⟩, ()) = some (trip (fieldG ty d), ()) := by
  have nw := new_is d
  have ok := fun p q (a : 0 ≤ p) (b : q = p + 2) c => two_ok (d := d) (p := p) (q := q) (by omega) a b c
  have bad := fun p b (a : 0 ≤ p) (c : p ≤ (d.length : Int)) e => two_bad (d := d) (p := p) (b := b) (by omega) a c e
  rw [g_field_Get_eq]
  dsimp only
  rw [nw, Option.bind_some]
  dsimp only
  unfold fieldG
  have hcase : ty = 2 ∨ ty = 3 ∨ ty = 4 ∨ ty = 5 := by omega
  rcases hcase with rfl | rfl | rfl | rfl
  · rw [if_pos (by decide), if_pos rfl]
    by_cases h : d.length < 6
    · rw [if_pos h]
      have fin : ∃ n x, g_field_reader_two (frd d 0 false, ()) = some ((n, ()), (x, ())) ∧ ∃ n' y, g_field_reader_two (x, ()) = some ((n', ()), (y, ())) ∧ ∃ n'' z, g_field_reader_two (y, ()) = some ((n'', ()), (z, ())) ∧ z.c_Bad = true := by
        by_cases h2 : d.length < 2
        · exact ⟨_, _, bad 0 false (by omega) (by omega) (.inr (by omega)), _, _, bad 0 true (by omega) (by omega) (.inl rfl), _, _, bad 0 true (by omega) (by omega) (.inl rfl), rfl⟩
        · by_cases h4 : d.length < 4
          · exact ⟨_, _, ok 0 2 (by omega) rfl (by omega), _, _, bad 2 false (by omega) (by omega) (.inr (by omega)), _, _, bad 2 true (by omega) (by omega) (.inl rfl), rfl⟩
          · exact ⟨_, _, ok 0 2 (by omega) rfl (by omega), _, _, ok 2 4 (by omega) rfl (by omega), _, _, bad 4 false (by omega) (by omega) (.inr (by omega)), rfl⟩
      obtain ⟨n, x, e1, n', y, e2, n'', z, e3, e4⟩ := fin
      rw [e1, Option.bind_some]; dsimp only
      rw [e2, Option.bind_some]; dsimp only
      rw [e3, Option.bind_some]; dsimp only
      rw [if_pos e4]
    · rw [if_neg h, ok 0 2 (by omega) rfl (by omega), Option.bind_some]; dsimp only
      rw [ok 2 4 (by omega) rfl (by omega), Option.bind_some]; dsimp only
      rw [ok 4 6 (by omega) rfl (by omega), Option.bind_some]; dsimp only
      rw [if_neg (by decide), if_pos (by omega), show ((6 : Int)).toNat = 6 from rfl, sget_is (by simp; omega), Option.bind_some]
      exact finG_some _ _
  · rw [if_neg (by decide), if_pos (by decide), if_neg (by decide), if_pos rfl]
    by_cases h : d.length < 2
    · rw [if_pos h, bad 0 false (by omega) (by omega) (.inr (by omega)), Option.bind_some]; rfl
    · rw [if_neg h, ok 0 2 (by omega) rfl (by omega), Option.bind_some]; dsimp only
      rw [if_neg (by decide), if_pos (by omega), show ((2 : Int)).toNat = 2 from rfl, sget_is (by simp; omega), Option.bind_some]
      exact finG_some _ _
  · rw [if_neg (by decide), if_neg (by decide), if_pos (by decide), if_neg (by decide), if_neg (by decide), if_pos rfl]
    by_cases h : d.length < 6
    · rw [if_pos h]
      have fin : ∃ n x, g_field_reader_two (frd d 0 false, ()) = some ((n, ()), (x, ())) ∧ ∃ n' y, g_field_reader_two (x, ()) = some ((n', ()), (y, ())) ∧ ∃ n'' z, g_field_reader_two (y, ()) = some ((n'', ()), (z, ())) ∧ z.c_Bad = true := by
        by_cases h2 : d.length < 2
        · exact ⟨_, _, bad 0 false (by omega) (by omega) (.inr (by omega)), _, _, bad 0 true (by omega) (by omega) (.inl rfl), _, _, bad 0 true (by omega) (by omega) (.inl rfl), rfl⟩
        · by_cases h4 : d.length < 4
          · exact ⟨_, _, ok 0 2 (by omega) rfl (by omega), _, _, bad 2 false (by omega) (by omega) (.inr (by omega)), _, _, bad 2 true (by omega) (by omega) (.inl rfl), rfl⟩
          · exact ⟨_, _, ok 0 2 (by omega) rfl (by omega), _, _, ok 2 4 (by omega) rfl (by omega), _, _, bad 4 false (by omega) (by omega) (.inr (by omega)), rfl⟩
      obtain ⟨n, x, e1, n', y, e2, n'', z, e3, e4⟩ := fin
      rw [e1, Option.bind_some]; dsimp only
      rw [e2, Option.bind_some]; dsimp only
      rw [e3, Option.bind_some]; dsimp only
      rw [if_pos e4]
    · rw [if_neg h, ok 0 2 (by omega) rfl (by omega), Option.bind_some]; dsimp only
      rw [ok 2 4 (by omega) rfl (by omega), Option.bind_some]; dsimp only
      rw [ok 4 6 (by omega) rfl (by omega), Option.bind_some]; dsimp only
      rw [if_neg (by decide), if_pos (by omega), show ((6 : Int)).toNat = 6 from rfl, sget_is (by simp; omega), Option.bind_some, show (15 : Int) = ((15 : Nat) : Int) from rfl, ishr8 15 (by omega), show (2 : Int) ^ 15 = 32768 from by decide, bt_128 d (by omega)]
      exact finG_some _ _
  · rw [if_neg (by decide), if_neg (by decide), if_neg (by decide), if_pos (by decide), if_neg (by decide), if_neg (by decide), if_neg (by decide)]
    have sh : ∀ n : Int, ishr .i64 n 8 = n / 256 := fun n => by
      rw [show (8 : Int) = ((8 : Nat) : Int) from rfl, ishr8 8 (by omega)]; rfl
    have hb := bt_rng d 0
    by_cases h : d.length < 6
    · rw [if_pos h]
      have fin : ∃ n x, g_field_reader_two (frd d 0 false, ()) = some ((n, ()), (x, ())) ∧ 0 ≤ n ∧ ∃ n' y, g_field_reader_two (x, ()) = some ((n', ()), (y, ())) ∧ ∃ n'' p, g_field_reader_two (y, ()) = some ((n'', ()), (frd d p true, ())) ∧ 0 ≤ p ∧ p ≤ d.length := by
        by_cases h2 : d.length < 2
        · exact ⟨_, _, bad 0 false (by omega) (by omega) (.inr (by omega)), by omega, _, _, bad 0 true (by omega) (by omega) (.inl rfl), _, _, bad 0 true (by omega) (by omega) (.inl rfl), by omega, by omega⟩
        · by_cases h4 : d.length < 4
          · exact ⟨_, _, ok 0 2 (by omega) rfl (by omega), (num_rng _).1, _, _, bad 2 false (by omega) (by omega) (.inr (by omega)), _, _, bad 2 true (by omega) (by omega) (.inl rfl), by omega, by omega⟩
          · exact ⟨_, _, ok 0 2 (by omega) rfl (by omega), (num_rng _).1, _, _, ok 2 4 (by omega) rfl (by omega), _, _, bad 4 false (by omega) (by omega) (.inr (by omega)), by omega, by omega⟩
      obtain ⟨n, x, e1, e0, n', y, e2, n'', p, e3, e4, e5⟩ := fin
      rw [e1, Option.bind_some]; dsimp only
      rw [e2, Option.bind_some]; dsimp only
      rw [e3, Option.bind_some]; dsimp only
      rw [sh]
      by_cases ha : n / 256 ≤ 3
      · obtain ⟨s, e6⟩ := raddr_bad (d := d) (p := p) (ae := n / 256) (b := true) (by omega) e4 e5 ⟨by omega, ha⟩ (.inl rfl)
        rw [ifd ha, e6, Option.bind_some]; rfl
      · rw [ifn ha, if_pos rfl]
    · rw [if_neg h, ok 0 2 (by omega) rfl (by omega), Option.bind_some]; dsimp only
      rw [ok 2 4 (by omega) rfl (by omega), Option.bind_some]; dsimp only
      rw [ok 4 6 (by omega) rfl (by omega), Option.bind_some]; dsimp only
      rw [sh, bt_lt2 d (by omega)]
      by_cases ha : 3 < bt d 0
      · rw [if_pos ha, ifn (by omega), if_neg (by decide), ifd ha]
      · rw [if_neg ha, ifd (by omega)]
        by_cases hl : (d.length : Int) < 6 + lenA (bt d 0)
        · obtain ⟨s, e6⟩ := raddr_bad (d := d) (p := 6) (ae := bt d 0) (b := false) (by omega) (by omega) (by omega) ⟨by omega, by omega⟩ (.inr hl)
          rw [if_pos hl, e6, Option.bind_some]; rfl
        · have hn : 0 ≤ lenA (bt d 0) := by unfold lenA; split <;> (try split) <;> (try split) <;> omega
          rw [if_neg hl, raddr_ok (by omega) (by omega) ⟨by omega, by omega⟩ (by omega), Option.bind_some]; dsimp only
          rw [if_neg (by decide), ifn ha, if_pos (by omega), sget_is (by simp; omega), Option.bind_some]
          exact finG_some _ _
end Go.VP
set_option linter.unusedVariables false
set_option linter.unusedSimpArgs false
set_option maxRecDepth 100000
namespace Go.VP
open Go Go.VI
theorem AllR.few {l : List Sub} (h : AllR l) : ∀ y ∈ l, y.data.length ≤ 300 := fun y hy => by have := h y hy; omega
theorem sub_len : ∀ {l : List Sub}, (l.length : Int) * 2 ≤ sumN l
  | [] => by simp [sumN]
  | y :: l => by have := sub_len (l := l); simp only [sumN, List.length_cons]; omega
theorem getS_enc : ∀ {l : List Sub} (p : Int), AllR l → ∃ tl, spl p (encS l) = .ok tl ∧ keep tl = l ∧ free tl = true
  | [], p, _ => ⟨[], spl_nil p, rfl, rfl⟩
  | y :: l, p, h => by
    have hy := h y (List.mem_cons_self ..)
    have h1 : (u8of y.type_).toNat = y.type_.toNat := by have := u8of_int y.type_; rw [if_pos (by omega)] at this; omega
    have h2 : (u8of (y.data.length : Int)).toNat = y.data.length := by have := u8of_int (y.data.length : Int); rw [if_pos (by omega)] at this; omega
    have h0 : u8of y.type_ ≠ 0 := fun e => by rw [e] at h1; simp at h1; omega
    obtain ⟨tl, e1, e2, e3⟩ := getS_enc (l := l) (p + 2 + y.data.length) (fun z hz => h z (List.mem_cons_of_mem _ hz))
    refine ⟨⟨y.type_, p, y.data⟩ :: tl, ?_, ?_, ?_⟩
    · rw [encS, spl_all h0 (by rw [h2]; simp), h2, h1]
      simp only [List.drop_left, List.take_left]
      rw [e1, show ((y.type_.toNat : Nat) : Int) = y.type_ by omega]; rfl
    · rw [keep, if_pos ⟨hy.1, hy.2.1⟩, e2]
    · rw [free_cons, e3, decide_eq_true hy.2.1]; rfl
theorem getS_encS {l : List Sub} (h : AllR l) (h2 : sumN l ≤ 200) : getS (encS l) = (l, true, 0) := by
  obtain ⟨tl, e1, e2, e3⟩ := getS_enc 0 h
  unfold getS
  rw [e1]
  dsimp only
  rw [e2, e3, endS, if_neg (by omega)]
theorem cutL {x y : Bs} {n : Int} (h : (x.length : Int) = n) : cut_ (x ++ y) 0 n = x := by
  unfold cut_
  rw [show ((0 : Int) + n).toNat = x.length by omega]
  simp
theorem cutR {x y : Bs} {k : Nat} {p n : Int} (h : x.length = k) (hp : (k : Int) ≤ p) (hn : 0 ≤ n) : cut_ (x ++ y) p n = cut_ y (p - k) n := by
  unfold cut_
  obtain ⟨a, rfl⟩ : ∃ a : Nat, p = k + a := ⟨(p - k).toNat, by omega⟩
  obtain ⟨b, rfl⟩ : ∃ b : Nat, n = b := ⟨n.toNat, by omega⟩
  rw [show ((k : Int) + (a : Int) + (b : Int)).toNat = k + (a + b) by omega, show ((k : Int) + (a : Int)).toNat = k + a by omega, show ((k : Int) + (a : Int) - (k : Int) + (b : Int)).toNat = a + b by omega, show ((k : Int) + (a : Int) - (k : Int)).toNat = a by omega, ← h, List.take_length_add_append, List.drop_length_add_append]
theorem num_be2 {n : Int} (h : 0 ≤ n ∧ n < 65536) : num (be 2 n) = n := num_be 2 n h.1 h.2
theorem fieldG_back {m : Msg} (r : FieldR m) : fieldG (m.kind - 5) (fieldsF m ++ encS m.subs) = (m, true, 0) := by
  obtain ⟨hr, hs⟩ := rightB_split r.subs
  have hg := getS_encS hr hs
  have hbare := r.bare
  have l2 : ∀ n, (be 2 n).length = 2 := be_length 2
  have cat : ∀ (a b : Int) (x : Bs), (be 2 a ++ (be 2 b ++ x)).drop 4 = x := fun a b x => by
    rw [← List.append_assoc, List.drop_left' (by simp [l2])]
  have fin : ∀ F : List Sub → Msg, F m.subs = m → finG F (getS (encS m.subs)) = (m, true, 0) := fun F h => by rw [hg]; show (F m.subs, true, 0) = _; rw [h]
  have eqm : ∀ x, bareOf m = some x → x = m := fun x h => by rw [bareB, h] at hbare; exact eqB_true.1 hbare
  rcases r.kinds with hk | hk | ⟨hk, hf⟩ | ⟨hk, ha⟩
  · have hx := eqm _ (by unfold bareOf; rw [if_neg (by omega), if_neg (by omega), if_neg (by omega), if_neg (by omega), if_neg (by omega), if_neg (by omega), if_pos hk])
    have ef : fieldsF m = be 2 0 ++ (be 2 m.nonce ++ be 2 m.interval) := by unfold fieldsF; rw [if_pos hk]
    rw [ef, hk]
    have el : (be 2 0 ++ (be 2 m.nonce ++ be 2 m.interval) ++ encS m.subs).length = 6 + (encS m.subs).length := by simp [l2]; omega
    have e1 : cut_ (be 2 0 ++ (be 2 m.nonce ++ be 2 m.interval) ++ encS m.subs) 2 2 = be 2 m.nonce := by
      rw [List.append_assoc, cutR (l2 _) (by omega) (by omega), List.append_assoc]; exact cutL (by simp [l2])
    have e2 : cut_ (be 2 0 ++ (be 2 m.nonce ++ be 2 m.interval) ++ encS m.subs) 4 2 = be 2 m.interval := by
      rw [List.append_assoc, cutR (l2 _) (by omega) (by omega), List.append_assoc, cutR (l2 _) (by omega) (by omega)]; exact cutL (by simp [l2])
    have e3 : (be 2 0 ++ (be 2 m.nonce ++ be 2 m.interval) ++ encS m.subs).drop 6 = encS m.subs := List.drop_left' (by simp [l2])
    unfold fieldG
    rw [if_pos (by omega), if_neg (by omega), e1, e2, e3, num_be2 r.nonce, num_be2 r.interval]
    refine fin _ ?_
    rw [hk] at hx
    exact hx
  · have hx := eqm _ (by unfold bareOf; rw [if_neg (by omega), if_neg (by omega), if_neg (by omega), if_neg (by omega), if_neg (by omega), if_neg (by omega), if_neg (by omega), if_pos hk])
    have ef : fieldsF m = be 2 m.nonce := by unfold fieldsF; rw [if_neg (by omega), if_pos hk]
    rw [ef, hk]
    have el : (be 2 m.nonce ++ encS m.subs).length = 2 + (encS m.subs).length := by simp [l2]
    have e1 : cut_ (be 2 m.nonce ++ encS m.subs) 0 2 = be 2 m.nonce := cutL (by simp [l2])
    have e3 : (be 2 m.nonce ++ encS m.subs).drop 2 = encS m.subs := List.drop_left' (by simp [l2])
    unfold fieldG
    rw [if_neg (by omega), if_pos (by omega), if_neg (by omega), e1, e3, num_be2 r.nonce]
    refine fin _ ?_
    rw [hk] at hx
    exact hx
  · have hx := eqm _ (by unfold bareOf; rw [if_neg (by omega), if_neg (by omega), if_neg (by omega), if_neg (by omega), if_neg (by omega), if_neg (by omega), if_neg (by omega), if_neg (by omega), if_pos hk])
    have ef : fieldsF m = be 2 (32768 * m.flags) ++ (be 2 m.seq ++ be 2 m.interval) := by unfold fieldsF; rw [if_neg (by omega), if_neg (by omega), if_pos hk]
    rw [ef, hk]
    have el : (be 2 (32768 * m.flags) ++ (be 2 m.seq ++ be 2 m.interval) ++ encS m.subs).length = 6 + (encS m.subs).length := by simp [l2]; omega
    have e0 : bt (be 2 (32768 * m.flags) ++ (be 2 m.seq ++ be 2 m.interval) ++ encS m.subs) 0 / 128 = m.flags := by
      rw [← bt_128 _ (by omega), List.append_assoc, cutL (by simp [l2]), num_be2 (by omega)]; omega
    have e1 : cut_ (be 2 (32768 * m.flags) ++ (be 2 m.seq ++ be 2 m.interval) ++ encS m.subs) 2 2 = be 2 m.seq := by
      rw [List.append_assoc, cutR (l2 _) (by omega) (by omega), List.append_assoc]; exact cutL (by simp [l2])
    have e2 : cut_ (be 2 (32768 * m.flags) ++ (be 2 m.seq ++ be 2 m.interval) ++ encS m.subs) 4 2 = be 2 m.interval := by
      rw [List.append_assoc, cutR (l2 _) (by omega) (by omega), List.append_assoc, cutR (l2 _) (by omega) (by omega)]; exact cutL (by simp [l2])
    have e3 : (be 2 (32768 * m.flags) ++ (be 2 m.seq ++ be 2 m.interval) ++ encS m.subs).drop 6 = encS m.subs := List.drop_left' (by simp [l2])
    unfold fieldG
    rw [if_neg (by omega), if_neg (by omega), if_pos (by omega), if_neg (by omega), e0, e1, e2, e3, num_be2 r.seq, num_be2 r.interval]
    refine fin _ ?_
    rw [hk] at hx
    exact hx
  · have hx := eqm _ (by unfold bareOf; rw [if_neg (by omega), if_neg (by omega), if_neg (by omega), if_neg (by omega), if_neg (by omega), if_neg (by omega), if_neg (by omega), if_neg (by omega), if_neg (by omega), if_pos hk])
    obtain ⟨A, hA⟩ : ∃ A, A = (if m.ae = 3 then m.addr.drop 8 else m.addr) := ⟨_, rfl⟩
    have hc := addrB_cases ha
    have hae : 0 ≤ m.ae ∧ m.ae ≤ 3 := by rcases hc with ⟨h, _⟩ | ⟨h, _⟩ | ⟨h, _⟩ | ⟨h, _⟩ <;> omega
    have ef : fieldsF m = be 2 (256 * m.ae) ++ (be 2 m.cost ++ (be 2 m.interval ++ A)) := by unfold fieldsF; rw [if_neg (by omega), if_neg (by omega), if_neg (by omega), hA]
    have hAl : (A.length : Int) = lenA m.ae ∧ (if m.ae = 3 then linkP ++ A else A) = m.addr := by
      rcases hc with ⟨h, h2⟩ | ⟨h, h2⟩ | ⟨h, h2⟩ | ⟨h, h2⟩
      · rw [h] at hA ⊢; rw [if_neg (by omega)] at hA ⊢; rw [hA, h2]; exact ⟨rfl, rfl⟩
      · rw [h] at hA ⊢; rw [if_neg (by omega)] at hA ⊢; rw [hA]; exact ⟨by rw [h2]; rfl, rfl⟩
      · rw [h] at hA ⊢; rw [if_neg (by omega)] at hA ⊢; rw [hA]; exact ⟨by rw [h2]; rfl, rfl⟩
      · rw [h] at hA ⊢; rw [if_pos rfl] at hA ⊢; rw [hA]; exact ⟨by rw [List.length_drop, (linkB_len h2).1]; rfl, link_parts h2⟩
    rw [ef, hk]
    have el : (be 2 (256 * m.ae) ++ (be 2 m.cost ++ (be 2 m.interval ++ A)) ++ encS m.subs).length = 6 + A.length + (encS m.subs).length := by simp [l2]; omega
    have e0 : bt (be 2 (256 * m.ae) ++ (be 2 m.cost ++ (be 2 m.interval ++ A)) ++ encS m.subs) 0 = m.ae := by
      rw [← bt_lt2 _ (by omega), List.append_assoc, cutL (by simp [l2]), num_be2 (by omega)]; omega
    have e1 : cut_ (be 2 (256 * m.ae) ++ (be 2 m.cost ++ (be 2 m.interval ++ A)) ++ encS m.subs) 2 2 = be 2 m.cost := by
      rw [List.append_assoc, cutR (l2 _) (by omega) (by omega), List.append_assoc]; exact cutL (by simp [l2])
    have e2 : cut_ (be 2 (256 * m.ae) ++ (be 2 m.cost ++ (be 2 m.interval ++ A)) ++ encS m.subs) 4 2 = be 2 m.interval := by
      rw [List.append_assoc, cutR (l2 _) (by omega) (by omega), List.append_assoc, cutR (l2 _) (by omega) (by omega), List.append_assoc]; exact cutL (by simp [l2])
    have e4 : cut_ (be 2 (256 * m.ae) ++ (be 2 m.cost ++ (be 2 m.interval ++ A)) ++ encS m.subs) 6 (lenA m.ae) = A := by
      rw [List.append_assoc, cutR (l2 _) (by omega) (by omega), List.append_assoc, cutR (l2 _) (by omega) (by omega), List.append_assoc, cutR (l2 _) (by omega) (by omega)]; exact cutL hAl.1
    have e3 : (be 2 (256 * m.ae) ++ (be 2 m.cost ++ (be 2 m.interval ++ A)) ++ encS m.subs).drop (6 + lenA m.ae).toNat = encS m.subs := List.drop_left' (by simp [l2]; omega)
    unfold fieldG
    rw [if_neg (by omega), if_neg (by omega), if_neg (by omega), if_neg (by omega), e0, if_neg (by omega), if_neg (by omega), e1, e2, e3, num_be2 r.cost, num_be2 r.interval]
    refine fin _ ?_
    have e5 : (if m.ae = 3 then linkP ++ cut_ (be 2 (256 * m.ae) ++ (be 2 m.cost ++ (be 2 m.interval ++ A)) ++ encS m.subs) 6 8 else cut_ (be 2 (256 * m.ae) ++ (be 2 m.cost ++ (be 2 m.interval ++ A)) ++ encS m.subs) 6 (lenA m.ae)) = m.addr := by
      rw [e4]
      by_cases h3 : m.ae = 3
      · have h8 : lenA m.ae = 8 := by rw [h3]; rfl
        rw [h8] at e4
        rw [if_pos h3, e4]
        have := hAl.2; rw [if_pos h3] at this; exact this
      · have := hAl.2; rw [if_neg h3] at this ⊢; exact this
    rw [e5]
    rw [hk] at hx
    exact hx
theorem FieldR.small {m : Msg} (r : FieldR m) : (fieldsF m).length ≤ 22 := by
  unfold fieldsF; split
  · simp [be_length]
  · split
    · simp [be_length]
    · split
      · simp [be_length]
      · rcases r.kinds with hk | hk | ⟨hk, _⟩ | ⟨hk, ha⟩ <;> first | omega | skip
        rcases addrB_cases ha with ⟨h, h2⟩ | ⟨h, h2⟩ | ⟨h, h2⟩ | ⟨h, h2⟩
        · simp [be_length, h, h2]
        · simp [be_length, h, h2]
        · simp [be_length, h, h2]
        · have := (linkB_len h2).1
          simp [be_length, h, this]
theorem fieldPut_ok {m : Msg} (r : FieldR m) : fieldPut m = (u8of (m.kind - 5) :: u8of (fieldsF m ++ encS m.subs).length :: (fieldsF m ++ encS m.subs), true) ∧ (fieldsF m ++ encS m.subs).length ≤ 255 ∧ 2 ≤ m.kind - 5 ∧ m.kind - 5 ≤ 5 := by
  have h1 := r.small
  have h2 := encS_small r.subs
  have hk : 2 ≤ m.kind - 5 ∧ m.kind - 5 ≤ 5 := by rcases r.kinds with h | h | ⟨h, _⟩ | ⟨h, _⟩ <;> omega
  have hl : (fieldsF m ++ encS m.subs).length ≤ 255 := by simp; omega
  refine ⟨?_, hl, hk⟩
  unfold fieldPut
  rw [if_pos (fieldR_iff.2 r), tput, if_pos ⟨by omega, by omega, hl⟩]
theorem spl_tput {t p : Int} {d : Bs} (ht : 1 ≤ t ∧ t ≤ 255) (hd : d.length ≤ 255) : spl p (u8of t :: u8of d.length :: d) = .ok [⟨t, p, d⟩] := by
  have h1 : (u8of t).toNat = t.toNat := by have := u8of_int t; rw [if_pos (by omega)] at this; omega
  have h2 : (u8of (d.length : Int)).toNat = d.length := by have := u8of_int (d.length : Int); rw [if_pos (by omega)] at this; omega
  have h0 : u8of t ≠ 0 := fun e => by rw [e] at h1; simp at h1; omega
  rw [spl_all h0 (by omega), h2, List.drop_length, spl_nil, List.take_length, h1]
  simp only [Except.map]
  rw [show ((t.toNat : Nat) : Int) = t by omega]
theorem getS_nil : getS [] = ([], true, 0) := by unfold getS; rw [spl_nil]; rfl
end Go.VP
set_option linter.unusedVariables false
set_option linter.unusedSimpArgs false
set_option maxRecDepth 100000
namespace Go.VP
open Go Go.VI
def szA (ae : Int) : Int := if ae = 0 then 0 else (if ae = 1 then 4 else (if ae = 2 then 16 else 16))
def baseA (ae : Int) : Int := if ae = 0 then 0 else (if ae = 1 then 0 else (if ae = 2 then 0 else 8))
def lowA (ae : Int) : Int := if ae = 0 then 0 else (if ae = 1 then 0 else (if ae = 2 then 0 else 64))
def highA (ae : Int) : Int := if ae = 0 then 0 else (if ae = 1 then 32 else (if ae = 2 then 128 else 128))
theorem ae_cases {ae : Int} (h : 0 ≤ ae ∧ ae < 4) : ae = 0 ∨ ae = 1 ∨ ae = 2 ∨ ae = 3 := by omega
def inB (ae : Int) (a : Bs) (plen : Int) : Bool := decide (0 ≤ ae ∧ ae < 4) && (decide ((a.length : Int) = szA ae) && (decide (lowA ae ≤ plen ∧ plen ≤ highA ae) && (cleanB a plen && (decide (ae ≠ 3) || linkB a))))
theorem in_is {ae plen : Int} {a : Bs} (ha : a.length ≤ 1000000000) (hp : IntKind.has .i64 plen) : g_route_In (ae, a, plen, ()) = some ((inB ae a plen, ()), ()) := by
  rw [g_route_In_eq, g_route_shapes_eq, Option.bind_some]
  dsimp only
  unfold inB
  by_cases h0 : ae < 0
  · rw [ifd h0, decide_eq_false (by omega)]; rfl
  by_cases h3 : 3 < ae
  · rw [ifn h0, ifd h3, decide_eq_false (by omega)]; rfl
  have hae : 0 ≤ ae ∧ ae < 4 := by omega
  rw [ifn h0, ifn h3, if_pos hae, decide_eq_true hae, Bool.true_and]
  change (if ((a.length : Int) == szA ae) = true then (if decide (lowA ae ≤ plen) = true then (if decide (plen ≤ highA ae) = true then _ else _) else _) else _) = _
  by_cases h1 : (a.length : Int) = szA ae
  · rw [if_pos (by simp [h1]), decide_eq_true h1, Bool.true_and]
    by_cases h2 : lowA ae ≤ plen
    · rw [ifd h2]
      by_cases h4 : plen ≤ highA ae
      · rw [ifd h4, decide_eq_true ⟨h2, h4⟩, Bool.true_and, clean_is ha hp, Option.bind_some, link_is]
        dsimp only
        cases cleanB a plen
        · rfl
        · rw [ift, Bool.true_and]
          by_cases h5 : ae = 3
          · rw [if_neg (by simp [h5])]; simp [h5]
          · rw [if_pos (by simp [h5])]; simp [h5]
      · rw [ifn h4, decide_eq_false (by omega)]; rfl
    · rw [ifn h2, decide_eq_false (by omega)]; rfl
  · rw [if_neg (by simp [h1]), decide_eq_false h1]; rfl
theorem rright4_is {a : Bs} {n : Int} (ha : a.length ≤ 1000000000) (h : a.length = 4 ∨ a.length = 16) : g_ref04_Right (a, n, ()) = some ((decide (0 ≤ n ∧ n ≤ 8 * a.length) && cleanB a n, ()), ()) := by
  rw [g_ref04_Right_eq, w64 (x := 8 * (a.length : Int)) (by omega) (by omega), rclean_is ha, Option.bind_some]
  have go : (if decide (0 ≤ n) = true then (if decide (n ≤ 8 * (a.length : Int)) = true then (some ((cleanB a n, ()), ()) : Option ((Bool × Unit) × Unit)) else some ((false, ()), ())) else some ((false, ()), ())) = some ((decide (0 ≤ n ∧ n ≤ 8 * a.length) && cleanB a n, ()), ()) := by
    by_cases h1 : 0 ≤ n
    · rw [ifd h1]
      by_cases h2 : n ≤ 8 * (a.length : Int)
      · rw [ifd h2, decide_eq_true ⟨h1, h2⟩]; rfl
      · rw [ifn h2, decide_eq_false (by omega)]; rfl
    · rw [ifn h1, decide_eq_false (by omega)]; rfl
  rcases h with h | h
  · rw [if_pos (by simp; omega)]; exact go
  · rw [if_neg (by simp; omega), if_pos (by simp; omega)]; exact go
theorem rin_is {ae plen : Int} {a : Bs} (ha : a.length ≤ 1000000000) : g_ref21_In (ae, a, plen, ()) = some ((inB ae a plen, ()), ()) := by
  rw [g_ref21_In_eq, rlink_is]
  unfold inB
  refine bq_step (fun h => ?_) (fun h0 => ?_)
  · subst h
    by_cases h1 : a = []
    · subst h1
      rw [if_pos (show (([] : Bs) == []) = true from rfl)]
      have hc : cleanB [] plen = true := rfl
      rw [hc]
      by_cases h2 : plen = 0
      · subst h2; rfl
      · have : (plen == 0) = false := by simpa using h2
        have h3 : ¬ (lowA 0 ≤ plen ∧ plen ≤ highA 0) := by show ¬ (0 ≤ plen ∧ plen ≤ 0); omega
        rw [this, decide_eq_false h3]; simp
    · have hl : ¬ ((a.length : Int) = szA 0) := by show ¬ ((a.length : Int) = 0); intro h; exact h1 (List.length_eq_zero_iff.1 (by omega))
      rw [if_neg (by simpa using h1), decide_eq_false hl]; simp
  refine bq_step (fun h => ?_) (fun h1 => ?_)
  · subst h
    by_cases h4 : a.length = 4
    · rw [if_pos (by simp; omega), rright4_is ha (.inl h4), Option.bind_some, h4]
      rw [decide_eq_true (show (0 : Int) ≤ 1 ∧ (1 : Int) < 4 by omega), decide_eq_true (show ((4 : Nat) : Int) = szA 1 from rfl), decide_eq_true (show (1 : Int) ≠ 3 by omega)]
      show some ((decide (0 ≤ plen ∧ plen ≤ 32) && cleanB a plen, ()), ()) = some ((true && (true && (decide (0 ≤ plen ∧ plen ≤ 32) && (cleanB a plen && (true || linkB a)))), ()), ())
      simp
    · have hl : ¬ ((a.length : Int) = szA 1) := by show ¬ ((a.length : Int) = 4); omega
      rw [if_neg (by simp; omega), decide_eq_false hl]; simp
  refine bq_step (fun h => ?_) (fun h2 => ?_)
  · subst h
    by_cases h4 : a.length = 16
    · rw [if_pos (by simp; omega), rright4_is ha (.inr h4), Option.bind_some, h4]
      rw [decide_eq_true (show (0 : Int) ≤ 2 ∧ (2 : Int) < 4 by omega), decide_eq_true (show ((16 : Nat) : Int) = szA 2 from rfl), decide_eq_true (show (2 : Int) ≠ 3 by omega)]
      show some ((decide (0 ≤ plen ∧ plen ≤ 128) && cleanB a plen, ()), ()) = some ((true && (true && (decide (0 ≤ plen ∧ plen ≤ 128) && (cleanB a plen && (true || linkB a)))), ()), ())
      simp
    · have hl : ¬ ((a.length : Int) = szA 2) := by show ¬ ((a.length : Int) = 16); omega
      rw [if_neg (by simp; omega), decide_eq_false hl]; simp
  refine bq_step (fun h => ?_) (fun h3 => ?_)
  · subst h
    rw [Option.bind_some]
    dsimp only
    by_cases hb : linkB a = true
    · have h16 := (linkB_len hb).1
      rw [hb, ift, rright4_is ha (.inr h16), Option.bind_some, h16]
      rw [decide_eq_true (show (0 : Int) ≤ 3 ∧ (3 : Int) < 4 by omega), decide_eq_true (show ((16 : Nat) : Int) = szA 3 from rfl)]
      by_cases h6 : 64 ≤ plen
      · have : decide (lowA 3 ≤ plen ∧ plen ≤ highA 3) = decide (0 ≤ plen ∧ plen ≤ 8 * ((16 : Nat) : Int)) := by
          rw [Bool.eq_iff_iff]; show decide (64 ≤ plen ∧ plen ≤ 128) = true ↔ _; simp; omega
        rw [ifd h6, this]; simp
      · have : decide (lowA 3 ≤ plen ∧ plen ≤ highA 3) = false := decide_eq_false (by show ¬ (64 ≤ plen ∧ plen ≤ 128); omega)
        rw [ifn h6, this]; simp
    · rw [Bool.not_eq_true] at hb
      rw [hb, iff_]; simp
  rw [decide_eq_false (by omega)]; rfl
def kindR (m : Msg) : Bool := if m.kind = 12 then true else if m.kind = 13 then (decide (0 < m.ae) && (fitsB m.seq 2 && (decide (1 ≤ m.hops ∧ m.hops ≤ 255) && decide (m.id.length = 8)))) else false
noncomputable def routeB (m : Msg) : Bool := bareB m && (rightB m.subs && (inB m.ae m.prefix_ m.plen && kindR m))
theorem len8 (l : Bs) : ((l.length : Int) == 8) = decide (l.length = 8) := by rw [Bool.eq_iff_iff]; simp; omega
theorem rtright_is {m : Msg} (g : GoodM m) : g_route_Right (m, ()) = some ((routeB m, ()), ()) := by
  have h2 : g_octet_Fits (m.seq, 2, ()) = some ((fitsB m.seq 2, ()), ()) := fits_is (k := 2) g.seq (by omega) (by omega)
  have h1 : g_octet_Fits (m.hops, 1, ()) = some ((fitsB m.hops 1, ()), ()) := fits_is (k := 1) g.hops (by omega) (by omega)
  rw [g_route_Right_eq, bare_is, Option.bind_some, sright_is g.few.fewS, Option.bind_some, in_is (by have := g.few.pre; omega) g.plen, Option.bind_some, h1, h2]
  dsimp only
  unfold routeB
  cases bareB m
  · rfl
  rw [ifnt, Bool.true_and]
  cases rightB m.subs
  · rfl
  rw [ifnt, Bool.true_and]
  cases inB m.ae m.prefix_ m.plen
  · rfl
  rw [ifnt, Bool.true_and]
  unfold kindR
  refine bq_step (fun h => ?_) (fun h => ?_)
  · rw [if_pos h]
  rw [if_neg h]
  refine bq_step (fun h => ?_) (fun h => ?_)
  · rw [if_pos h, Option.bind_some, Option.bind_some, len8]
    by_cases ha : 0 < m.ae
    · rw [ifd ha, decide_eq_true ha, Bool.true_and]
      cases fitsB m.seq 2
      · rfl
      rw [ift, Bool.true_and]
      by_cases hh : 0 < m.hops
      · rw [ifd hh]
        have : fitsB m.hops 1 = decide (1 ≤ m.hops ∧ m.hops ≤ 255) := by unfold fitsB; rw [Bool.eq_iff_iff]; simp; omega
        rw [this]
        cases decide (1 ≤ m.hops ∧ m.hops ≤ 255) <;> rfl
      · rw [ifn hh, decide_eq_false (by omega)]; rfl
    · rw [ifn ha, decide_eq_false ha]; rfl
  rw [if_neg h]
theorem rrtright_is {m : Msg} (g : GoodM m) : g_ref21_Right (m, ()) = some ((routeB m, ()), ()) := by
  have h2 : g_ref02_Fits (m.seq, 2, ()) = some ((fitsB m.seq 2, ()), ()) := rfits_is (k := 2) (by omega) (by omega)
  rw [g_ref21_Right_eq, rbare_is (by have := g.few.list; omega) (by have := g.few.subs; omega), Option.bind_some, rsright_is g.few.fewS, Option.bind_some, rin_is (by have := g.few.pre; omega), Option.bind_some, h2]
  dsimp only
  unfold routeB
  cases bareB m
  · rfl
  rw [ifnt, Bool.true_and]
  cases rightB m.subs
  · rfl
  rw [ifnt, Bool.true_and]
  cases hin : inB m.ae m.prefix_ m.plen
  · rfl
  have hae : 0 ≤ m.ae ∧ m.ae < 4 := by
    unfold inB at hin
    simp only [Bool.and_eq_true, decide_eq_true_eq] at hin
    exact hin.1
  rw [ifnt, Bool.true_and]
  unfold kindR
  refine bq_step (fun h => ?_) (fun h => ?_)
  · rw [if_pos h]
  rw [if_neg h]
  refine bq_step (fun h => ?_) (fun h => ?_)
  · rw [if_pos h, Option.bind_some, len8]
    by_cases ha : m.ae = 0
    · rw [if_neg (by simp [ha]), decide_eq_false (by omega)]; rfl
    · rw [if_pos (by simp [ha]), decide_eq_true (show 0 < m.ae by omega), Bool.true_and]
      cases fitsB m.seq 2
      · rfl
      rw [ift, Bool.true_and]
      by_cases hh : 1 ≤ m.hops
      · rw [ifd hh]
        by_cases h5 : m.hops ≤ 255
        · rw [ifd h5, decide_eq_true (show 1 ≤ m.hops ∧ m.hops ≤ 255 from ⟨hh, h5⟩)]; rfl
        · rw [ifn h5, decide_eq_false (by omega)]; rfl
      · rw [ifn hh, decide_eq_false (by omega)]; rfl
  rw [if_neg h]
structure RouteR (m : Msg) : Prop where
  bare : bareB m = true
  subs : rightB m.subs = true
  ae : 0 ≤ m.ae ∧ m.ae < 4
  len : (m.prefix_.length : Int) = szA m.ae
  plen : lowA m.ae ≤ m.plen ∧ m.plen ≤ highA m.ae
  clean : keepF m.prefix_ m.plen = m.prefix_
  link : m.ae = 3 → linkB m.prefix_ = true
  kind : kindR m = true
theorem inB_iff {ae plen : Int} {a : Bs} : inB ae a plen = true ↔ (0 ≤ ae ∧ ae < 4) ∧ (a.length : Int) = szA ae ∧ (lowA ae ≤ plen ∧ plen ≤ highA ae) ∧ keepF a plen = a ∧ (ae = 3 → linkB a = true) := by
  unfold inB cleanB
  simp only [Bool.and_eq_true, decide_eq_true_eq, beq_iff_eq, Bool.or_eq_true]
  constructor
  · rintro ⟨a, b, c, d, e⟩; exact ⟨a, b, c, d, fun h => e.resolve_left (fun h2 => h2 h)⟩
  · rintro ⟨a, b, c, d, e⟩; exact ⟨a, b, c, d, by by_cases h : ae = 3 <;> simp [h, e]⟩
theorem routeR_iff {m : Msg} : routeB m = true ↔ RouteR m := by
  unfold routeB
  simp only [Bool.and_eq_true, inB_iff]
  exact ⟨fun ⟨a, b, ⟨c, d, e, f, g⟩, h⟩ => ⟨a, b, c, d, e, f, g, h⟩, fun h => ⟨h.1, h.2, ⟨h.3, h.4, h.5, h.6, h.7⟩, h.8⟩⟩
theorem RouteR.kinds {m : Msg} (h : RouteR m) : m.kind = 12 ∨ (m.kind = 13 ∧ 0 < m.ae ∧ (0 ≤ m.seq ∧ m.seq < 65536) ∧ (1 ≤ m.hops ∧ m.hops ≤ 255) ∧ m.id.length = 8) := by
  have := h.kind
  unfold kindR at this
  split at this
  · exact .inl (by assumption)
  · split at this
    · simp only [Bool.and_eq_true, decide_eq_true_eq, fitsB2] at this
      exact .inr ⟨by assumption, this⟩
    · cases this
def bytesP (m : Msg) : Bs := (cutF m.prefix_ m.plen).drop (baseA m.ae).toNat
theorem cutF_length (a : Bs) (n : Int) : (cutF a n).length = min (leastF n).toNat a.length := by unfold cutF; rw [keepF_length, List.length_take]
theorem least_base {ae plen : Int} (hae : 0 ≤ ae ∧ ae < 4) (hp : lowA ae ≤ plen ∧ plen ≤ highA ae) : 0 ≤ baseA ae ∧ baseA ae ≤ leastF plen ∧ leastF plen ≤ szA ae ∧ 0 ≤ plen ∧ plen ≤ 128 ∧ szA ae ≤ 16 := by
  have h8 : leastF plen = if plen < 0 then 0 else (plen + 7) / 8 := rfl
  rcases ae_cases hae with rfl | rfl | rfl | rfl
  · have : 0 ≤ plen ∧ plen ≤ 0 := hp
    rw [h8]; show 0 ≤ (0 : Int) ∧ (0 : Int) ≤ _ ∧ _ ≤ (0 : Int) ∧ _ ∧ _ ∧ (0 : Int) ≤ 16; rw [if_neg (by omega)]; omega
  · have : 0 ≤ plen ∧ plen ≤ 32 := hp
    rw [h8]; show 0 ≤ (0 : Int) ∧ (0 : Int) ≤ _ ∧ _ ≤ (4 : Int) ∧ _ ∧ _ ∧ (4 : Int) ≤ 16; rw [if_neg (by omega)]; omega
  · have : 0 ≤ plen ∧ plen ≤ 128 := hp
    rw [h8]; show 0 ≤ (0 : Int) ∧ (0 : Int) ≤ _ ∧ _ ≤ (16 : Int) ∧ _ ∧ _ ∧ (16 : Int) ≤ 16; rw [if_neg (by omega)]; omega
  · have : 64 ≤ plen ∧ plen ≤ 128 := hp
    rw [h8]; show 0 ≤ (8 : Int) ∧ (8 : Int) ≤ _ ∧ _ ≤ (16 : Int) ∧ _ ∧ _ ∧ (16 : Int) ≤ 16; rw [if_neg (by omega)]; omega
theorem RouteR.cut {m : Msg} (h : RouteR m) : ((cutF m.prefix_ m.plen).length : Int) = leastF m.plen ∧ ((bytesP m).length : Int) = leastF m.plen - baseA m.ae := by
  obtain ⟨h1, h2, h3, h4, h5, h6⟩ := least_base h.ae h.plen
  have := h.len
  have hc : ((cutF m.prefix_ m.plen).length : Int) = leastF m.plen := by rw [cutF_length]; omega
  exact ⟨hc, by unfold bytesP; rw [List.length_drop]; omega⟩
def headF (m : Msg) : Bs := if m.kind = 13 then u8of m.ae :: u8of m.plen :: (be 2 m.seq ++ (u8of m.hops :: 0 :: (m.id ++ bytesP m))) else u8of m.ae :: u8of m.plen :: bytesP m
noncomputable def routePut (m : Msg) : Bs × Bool := if routeB m = true then tput (if m.kind = 13 then 10 else 9) (headF m ++ encS m.subs) else ([], false)
theorem u8w {n : Int} (h : 0 ≤ n) : u8of (IntKind.wrap .u8 n) = u8of n := by rw [wu8, u8of_emod' h]
theorem be2' {n : Int} (h : 0 ≤ n ∧ n < 65536) : be 2 n = [u8of (IntKind.wrap .u8 (ishr .i64 n 8)), u8of (IntKind.wrap .u8 n)] := (be2 h).symm
theorem rtput_is' {m : Msg} (g : GoodM m) : g_route_Put (m, ()) = some (((routePut m).1, (routePut m).2, ()), ()) := by
  rw [g_route_Put_eq, rtright_is g, Option.bind_some]
  unfold routePut
  dsimp only
  by_cases h : routeB m = true
  · have r := routeR_iff.1 h
    have hs := sput_is g.few.fewS (by have := g.few.subs; omega)
    rw [putS_r r.subs] at hs
    have hz := encS_small r.subs
    obtain ⟨c1, c2⟩ := r.cut
    obtain ⟨l1, l2, l3, l4, l5, l6⟩ := least_base r.ae r.plen
    have hcut := pcut_is (a := m.prefix_) (n := m.plen) (by have := g.few.pre; omega) g.plen (by omega)
    rw [if_neg (by simp [h]), if_pos h, hs, Option.bind_some, hcut, g_route_shapes_eq, u8w r.ae.1, u8w l4]
    simp only [Option.bind_some]
    have hd : ((cutF m.prefix_ m.plen).drop (baseA m.ae).toNat) = bytesP m := rfl
    have hae : 0 ≤ m.ae ∧ m.ae < 4 := r.ae
    rcases r.kinds with hk | ⟨hk, _, hq, hh, hi⟩
    · rw [if_neg (show ¬ (m.kind == 13) = true by simp [hk]), if_pos hae]
      change (if 0 ≤ baseA m.ae ∧ baseA m.ae ≤ ((cutF m.prefix_ m.plen).length : Int) then (if roomB ([u8of m.ae, u8of m.plen].length + (bytesP m).length) = true then (if maxB (([u8of m.ae, u8of m.plen] ++ bytesP m).length + (encS m.subs).length) = true then ((g_frame_Put (9, (([u8of m.ae, u8of m.plen] ++ bytesP m) ++ encS m.subs), ())).bind _) else none) else none) else none) = _
      rw [if_pos (by omega), if_pos (roomB_of (by simp; omega)), if_pos (maxB_of (by simp; omega)), tput_is, Option.bind_some, if_neg (show ¬ m.kind = 13 by omega)]
      unfold headF
      rw [if_neg (show ¬ m.kind = 13 by omega)]; rfl
    · rw [if_pos (show (m.kind == 13) = true by simp [hk]), if_pos (roomB_of (by simp)), if_pos (roomB_of (by simp; omega)), if_pos hae, u8w (n := m.hops) (by omega)]
      change (if 0 ≤ baseA m.ae ∧ baseA m.ae ≤ ((cutF m.prefix_ m.plen).length : Int) then (if roomB ((([u8of m.ae, u8of m.plen] ++ [u8of (IntKind.wrap .u8 (ishr .i64 m.seq 8)), u8of (IntKind.wrap .u8 m.seq), u8of m.hops, 0]) ++ m.id).length + (bytesP m).length) = true then (if maxB (((([u8of m.ae, u8of m.plen] ++ [u8of (IntKind.wrap .u8 (ishr .i64 m.seq 8)), u8of (IntKind.wrap .u8 m.seq), u8of m.hops, 0]) ++ m.id) ++ bytesP m).length + (encS m.subs).length) = true then ((g_frame_Put (10, (((([u8of m.ae, u8of m.plen] ++ [u8of (IntKind.wrap .u8 (ishr .i64 m.seq 8)), u8of (IntKind.wrap .u8 m.seq), u8of m.hops, 0]) ++ m.id) ++ bytesP m) ++ encS m.subs), ())).bind _) else none) else none) else none) = _
      rw [if_pos (by omega), if_pos (roomB_of (by simp; omega)), if_pos (maxB_of (by simp; omega)), tput_is, Option.bind_some, if_pos hk]
      unfold headF
      rw [if_pos hk, be2' hq]
      simp
  · rw [Bool.not_eq_true] at h
    rw [h, ifnf, iff_]
theorem rbase_is {ae : Int} (h : 0 ≤ ae ∧ ae < 4) : g_ref21_Base (ae, ()) = some ((baseA ae, ()), ()) := by
  rw [g_ref21_Base_eq]
  rcases ae_cases h with rfl | rfl | rfl | rfl <;> rfl
theorem rbytes21_is {m : Msg} (g : GoodM m) (r : RouteR m) : g_ref21_Bytes (m, ()) = some ((bytesP m, ()), ()) := by
  obtain ⟨c1, c2⟩ := r.cut
  obtain ⟨l1, l2, l3, l4, l5, l6⟩ := least_base r.ae r.plen
  rw [g_ref21_Bytes_eq, rcut_is (by have := g.few.pre; omega) (by omega), Option.bind_some, rbase_is r.ae, Option.bind_some]
  dsimp only
  rw [if_pos (by omega)]; rfl
theorem rrtput_is {m : Msg} (g : GoodM m) : g_ref21_Put (m, ()) = some (((routePut m).1, (routePut m).2, ()), ()) := by
  rw [g_ref21_Put_eq, rrtright_is g, Option.bind_some]
  unfold routePut
  dsimp only
  by_cases h : routeB m = true
  · have r := routeR_iff.1 h
    have hs := rsput_is g.few.fewS (by have := g.few.subs; omega)
    rw [putS_r r.subs] at hs
    have hz := encS_small r.subs
    obtain ⟨c1, c2⟩ := r.cut
    obtain ⟨l1, l2, l3, l4, l5, l6⟩ := least_base r.ae r.plen
    rw [if_neg (by simp [h]), if_pos h, hs, Option.bind_some, rbytes21_is g r, u8w r.ae.1, u8w l4]
    rcases r.kinds with hk | ⟨hk, _, hq, hh, hi⟩
    · rw [if_pos (by simp [hk]), Option.bind_some]
      dsimp only
      rw [if_pos (maxB_of (by simp; omega)), if_pos (maxB_of (by simp; omega)), rtput_is, Option.bind_some, if_neg (show ¬ m.kind = 13 by omega)]
      unfold headF
      rw [if_neg (show ¬ m.kind = 13 by omega)]; rfl
    · rw [if_neg (by simp [hk]), rof2 hq, Option.bind_some]
      dsimp only
      rw [if_pos (maxB_of (by simp [be_length])), if_pos (maxB_of (by simp [be_length])), if_pos (maxB_of (by simp [be_length]; omega)), Option.bind_some]
      dsimp only
      rw [if_pos (maxB_of (by simp [be_length]; omega)), if_pos (maxB_of (by simp [be_length]; omega)), rtput_is, Option.bind_some, if_pos hk, u8w (n := m.hops) (by omega)]
      unfold headF
      rw [if_pos hk]
      simp
  · rw [Bool.not_eq_true] at h
    rw [h, ifnf, iff_]
end Go.VP
