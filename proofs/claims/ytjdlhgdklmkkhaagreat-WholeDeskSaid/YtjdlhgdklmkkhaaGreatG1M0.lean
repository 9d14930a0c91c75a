import Derived.Test.YtjdlhgdklmkkhaaGreatG1FH
import Derived.Test.YtjdlhgdklmkkhaaGreatG1FQ11
import Derived.Test.YtjdlhgdklmkkhaaGreatG1FQ12
import Derived.Test.YtjdlhgdklmkkhaaGreatG1FQ0
import Derived.Test.YtjdlhgdklmkkhaaGreatG1FQ9
import Derived.Test.YtjdlhgdklmkkhaaGreatG1FQ15
import Derived.Test.YtjdlhgdklmkkhaaGreatG1FQ10
import Derived.Test.YtjdlhgdklmkkhaaGreatG1FQ13
import Derived.Test.YtjdlhgdklmkkhaaGreatG1FQ8
import Derived.Test.YtjdlhgdklmkkhaaGreatG1FQ14
import Derived.Test.YtjdlhgdklmkkhaaGreatG1FGood
set_option linter.unusedVariables false
set_option linter.unusedSimpArgs false
set_option maxRecDepth 100000
namespace Go.VP
open Go Go.VI
abbrev Bs := List UInt8
theorem w64 {x : Int} (h : -9223372036854775808 ≤ x) (h' : x ≤ 9223372036854775807) : IntKind.wrap .i64 x = x := by
  simp only [IntKind.wrap, IntKind.bits, IntKind.signed]
  simp
  omega
theorem wu64 {x : Int} (h : 0 ≤ x) (h' : x ≤ 18446744073709551615) : IntKind.wrap .u64 x = x := by
  simp only [IntKind.wrap, IntKind.bits, IntKind.signed]
  simp
  omega
theorem wu8 {x : Int} : IntKind.wrap .u8 x = x % 256 := by
  simp only [IntKind.wrap, IntKind.bits, IntKind.signed]
  simp
theorem w64n (b : UInt8) : IntKind.wrap .i64 (b.toNat : Int) = b.toNat := by
  have := b.toNat_lt; exact w64 (by omega) (by omega)
theorem has64 {x : Int} : IntKind.has .i64 x ↔ -9223372036854775808 ≤ x ∧ x ≤ 9223372036854775807 := by
  simp only [IntKind.has, IntKind.min, IntKind.max, IntKind.bits, IntKind.signed]
  simp
theorem maxB_of {n : Nat} (h : n ≤ 9223372036854775807) : maxB n = true := Nat.ble_eq_true_of_le h
theorem roomB_of {n : Nat} (h : n ≤ 35184372088832) : roomB n = true := Nat.ble_eq_true_of_le h
theorem fuel_pos : ∃ n, fuel = n + 1000000000000 := ⟨1124899906842624, rfl⟩
theorem fuel_ge {n : Nat} (h : n ≤ 1125899906842623) : n < fuel := Nat.lt_succ_of_le h
theorem ib_or {x y : Int} (hx : 0 ≤ x ∧ x < 36028797018963968) (hy : 0 ≤ y ∧ y < 256) : ibits .or .i64 (ishl .i64 x 8) y = x * 256 + y := by
  obtain ⟨a, rfl⟩ : ∃ a : Nat, x = a := ⟨x.toNat, by omega⟩
  obtain ⟨b, rfl⟩ : ∃ b : Nat, y = b := ⟨y.toNat, by omega⟩
  have e : ishl .i64 (a : Int) 8 = ((a * 256 : Nat) : Int) := by
    unfold ishl
    rw [Int.mul_comm]
    have : (2 : Int) ^ (min (8 : Int).toNat IntKind.i64.bits) = 256 := by decide
    rw [this, w64 (by omega) (by omega)]
    omega
  rw [e]
  unfold ibits
  show IntKind.wrap .i64 (((BitVec.ofInt 64 ((a * 256 : Nat) : Int) ||| BitVec.ofInt 64 (b : Int)).toNat : Nat) : Int) = _
  rw [BitVec.toNat_or, BitVec.ofInt_natCast, BitVec.ofInt_natCast, BitVec.toNat_ofNat, BitVec.toNat_ofNat, Nat.mod_eq_of_lt (by omega), Nat.mod_eq_of_lt (by omega)]
  have : a * 256 ||| b = a * 256 + b := by
    have := Nat.two_pow_add_eq_or_of_lt (i := 8) (b := b) (by omega) a
    rw [Nat.mul_comm a 256]
    exact this.symm
  rw [this, w64 (by omega) (by omega)]
  omega
theorem ib8_xor {a b : Nat} (ha : a < 256) (hb : b < 256) : ibits .xor .u8 (a : Int) (b : Int) = ((a ^^^ b : Nat) : Int) := by
  unfold ibits
  show IntKind.wrap .u8 (((BitVec.ofInt 8 (a : Int) ^^^ BitVec.ofInt 8 (b : Int)).toNat : Nat) : Int) = _
  have h : a ^^^ b < 256 := Nat.xor_lt_two_pow (n := 8) ha hb
  rw [BitVec.toNat_xor, BitVec.ofInt_natCast, BitVec.ofInt_natCast, BitVec.toNat_ofNat, BitVec.toNat_ofNat, Nat.mod_eq_of_lt ha, Nat.mod_eq_of_lt hb, wu8]
  omega
theorem ib8_and {a b : Nat} (ha : a < 256) (hb : b < 256) : ibits .and .u8 (a : Int) (b : Int) = ((a &&& b : Nat) : Int) := by
  unfold ibits
  show IntKind.wrap .u8 (((BitVec.ofInt 8 (a : Int) &&& BitVec.ofInt 8 (b : Int)).toNat : Nat) : Int) = _
  have h : a &&& b ≤ a := Nat.and_le_left
  rw [BitVec.toNat_and, BitVec.ofInt_natCast, BitVec.ofInt_natCast, BitVec.toNat_ofNat, BitVec.toNat_ofNat, Nat.mod_eq_of_lt ha, Nat.mod_eq_of_lt hb, wu8]
  omega
theorem u8of_int (n : Int) : ((u8of n).toNat : Int) = if 0 ≤ n then n % 256 else 0 := by
  unfold u8of
  have : (n.toNat.toUInt8).toNat = n.toNat % 256 := by simp
  rw [this]
  split <;> omega
theorem u8of_emod' {n : Int} (h : 0 ≤ n) : u8of (n % 256) = u8of n := by
  apply UInt8.toNat.inj
  have h1 := u8of_int (n % 256); have h2 := u8of_int n
  rw [if_pos (by omega)] at h1; rw [if_pos h] at h2; omega
theorem u8_eq {a b : UInt8} (h : (a.toNat : Int) = b.toNat) : a = b := UInt8.toNat.inj (by omega)
def num (l : Bs) : Int := l.foldl (fun n b => n * 256 + (b.toNat : Int)) 0
theorem foldl_rng : ∀ (l : Bs) (x : Int), 0 ≤ x → 0 ≤ l.foldl (fun n b => n * 256 + (b.toNat : Int)) x ∧ l.foldl (fun n b => n * 256 + (b.toNat : Int)) x < (x + 1) * 256 ^ l.length
  | [], x, h => by simp; omega
  | b :: l, x, h => by
    have hb := b.toNat_lt
    obtain ⟨h1, h2⟩ := foldl_rng l (x * 256 + (b.toNat : Int)) (by omega)
    refine ⟨h1, Int.lt_of_lt_of_le h2 ?_⟩
    rw [List.length_cons, Int.pow_succ, Int.mul_comm (256 ^ l.length) 256, ← Int.mul_assoc]
    exact Int.mul_le_mul_of_nonneg_right (by omega) (Int.pow_nonneg (by decide))
theorem num_rng (l : Bs) : 0 ≤ num l ∧ num l < 256 ^ l.length := by
  have := foldl_rng l 0 (by omega)
  rw [Int.zero_add, Int.one_mul] at this
  exact this
theorem num_append (a : Bs) (b : UInt8) : num (a ++ [b]) = num a * 256 + b.toNat := by simp [num]
def be : Nat → Int → Bs
  | 0, _ => []
  | k + 1, n => be k (n / 256) ++ [u8of (n % 256)]
theorem be_length : ∀ (k : Nat) (n : Int), (be k n).length = k
  | 0, _ => rfl
  | k + 1, n => by simp [be, be_length k]
theorem num_be : ∀ (k : Nat) (n : Int), 0 ≤ n → n < 256 ^ k → num (be k n) = n
  | 0, n, h, h2 => by simp at h2; simp [be, num]; omega
  | k + 1, n, h, h2 => by
    rw [be, num_append, num_be k (n / 256) (by omega) (by rw [Int.pow_succ] at h2; omega), u8of_int]
    omega
def cut_ (s : Bs) (p n : Int) : Bs := (s.take (p + n).toNat).drop p.toNat
theorem cut_length {s : Bs} {p n : Int} (h : 0 ≤ p) (h1 : 0 ≤ n) (h2 : p + n ≤ s.length) : ((cut_ s p n).length : Int) = n := by
  simp [cut_]; omega
def bt (s : Bs) (i : Nat) : Int := ((s[i]?.getD 0).toNat : Int)
theorem bt_rng (s : Bs) (i : Nat) : 0 ≤ bt s i ∧ bt s i < 256 := by unfold bt; have := (s[i]?.getD 0).toNat_lt; omega
theorem get_bt {s : Bs} {i : Nat} (h : i < s.length) : s[i]? = some (s[i]?.getD 0) := by simp [h]
theorem bind_at {α β : Type} {l : List α} {i : Nat} (h : i < l.length) (f : α → Option β) : (l[i]?.bind f) = f (l[i]'h) := by simp [h]
end Go.VP
set_option linter.unusedVariables false
set_option linter.unusedSimpArgs false
set_option maxRecDepth 100000
namespace Go.VP
open Go Go.VI
abbrev cu (s : Bs) (p q : Int) (b : Bool) : S_api_Cur := ⟨s, p, q, b⟩
structure WfC (s : Bs) (p q : Int) : Prop where
  lo : 0 ≤ p
  hi : p ≤ q
  top : q ≤ s.length
  sz : s.length ≤ 1000000000000000
theorem new_is (s : Bs) : g_cursor_New (s, ()) = some ((cu s 0 s.length false, ()), ()) := g_cursor_New_eq s
theorem step_ok {s : Bs} {p q n : Int} (w : WfC s p q) (h : 0 ≤ n) (h2 : p + n ≤ q) : g_cursor_step (cu s p q false, n, ()) = some ((cu s (p + n) q false, true, ()), ()) := by
  have := w.lo; have := w.hi; have := w.top; have := w.sz
  rw [g_cursor_step_eq]; dsimp only
  rw [if_neg (by decide), if_neg (by simpa using h), w64 (by omega) (by omega), if_neg (by simp; omega), w64 (by omega) (by omega)]
theorem step_bad {s : Bs} {p q n : Int} {b : Bool} (w : WfC s p q) (h : b = true ∨ n < 0 ∨ q - p < n) : g_cursor_step (cu s p q b, n, ()) = some ((cu s p q true, false, ()), ()) := by
  have := w.lo; have := w.hi; have := w.top; have := w.sz
  rw [g_cursor_step_eq]; dsimp only
  rw [w64 (x := q - p) (by omega) (by omega)]
  simp only [decide_eq_true_eq]
  split
  · rfl
  · split
    · rfl
    · rw [if_pos]
      simp_all
theorem num_loop {n : Nat} {r : (S_api_Cur × Bool × Unit) × Unit} {l : Bs} (hl : l.length ≤ 7) : ∀ (d i m : Nat) (x : Int), i + d = l.length → d < m → x = num (l.take i) → L_cursor_Num_0 n m r x l l.length i = some ((num l, r.1.1, ()), ())
  | 0, i, m, x, h, hm, hx => by
    obtain ⟨m, rfl⟩ : ∃ k, m = k + 1 := ⟨m - 1, by omega⟩
    rw [L_cursor_Num_0_eq, if_neg (by simp; omega), hx, List.take_of_length_le (by omega)]
  | d + 1, i, m, x, h, hm, hx => by
    obtain ⟨m, rfl⟩ : ∃ k, m = k + 1 := ⟨m - 1, by omega⟩
    have hi : i < l.length := by omega
    have hp := num_rng (l.take i)
    have hp2 : (256 : Int) ^ (l.take i).length ≤ 256 ^ 6 := by
      have : (l.take i).length ≤ 6 := by simp; omega
      generalize (l.take i).length = z at this
      match z, this with
      | 0, _ | 1, _ | 2, _ | 3, _ | 4, _ | 5, _ | 6, _ => decide
    have hp3 : (256 : Int) ^ 6 = 281474976710656 := by decide
    have hb := (l[i]).toNat_lt
    rw [L_cursor_Num_0_eq, if_pos (by simp; omega), if_pos (by omega), Int.toNat_natCast, bind_at hi, w64n, hx, ib_or (by omega) (by omega), w64 (by omega) (by omega)]
    have := num_loop (r := r) (n := n) hl d (i + 1) m (num (l.take i) * 256 + (l[i].toNat : Int)) (by omega) (by omega) (by rw [List.take_succ_eq_append_getElem hi, num_append])
    rw [show ((i + 1 : Nat) : Int) = (i : Int) + 1 by omega] at this
    exact this
theorem num_ok {s : Bs} {p q n : Int} (w : WfC s p q) (h : 1 ≤ n) (h7 : n ≤ 7) (h2 : p + n ≤ q) : g_cursor_Num (cu s p q false, n, ()) = some ((num (cut_ s p n), cu s (p + n) q false, ()), ()) := by
  have := w.lo; have := w.hi; have := w.top; have := w.sz
  have hl := cut_length (s := s) (p := p) (n := n) (by omega) (by omega) (by omega)
  show h_cursor_Num fuel _ = _
  rw [h_cursor_Num_eq, if_neg (by simp; omega), if_neg (by simp; omega), step_ok w (by omega) h2]
  rw [Option.bind_some]; dsimp only
  rw [if_neg (by decide), if_pos (by omega)]
  have := num_loop (n := fuel) (r := ((cu s (p + n) q false, true, ()), ())) (l := cut_ s p n) (by omega) (cut_ s p n).length 0 fuel 0 (by omega) (fuel_ge (by omega)) rfl
  exact this
theorem num_bad {s : Bs} {p q n : Int} {b : Bool} (w : WfC s p q) (h : 1 ≤ n) (h7 : n ≤ 7) (h2 : b = true ∨ q < p + n) : g_cursor_Num (cu s p q b, n, ()) = some ((0, cu s p q true, ()), ()) := by
  show h_cursor_Num fuel _ = _
  rw [h_cursor_Num_eq, if_neg (by simp; omega), if_neg (by simp; omega), step_bad w (h2.imp id fun h => .inr (by omega))]
  rfl
theorem text_ok {s : Bs} {p q n : Int} (w : WfC s p q) (h : 0 ≤ n) (h2 : p + n ≤ q) : g_cursor_Text (cu s p q false, n, ()) = some ((cut_ s p n, cu s (p + n) q false, ()), ()) := by
  have := w.lo; have := w.hi; have := w.top; have := w.sz
  rw [g_cursor_Text_eq, step_ok w (by omega) h2]
  rw [Option.bind_some]; dsimp only
  rw [if_neg (by decide), if_pos (by omega)]
  rfl
theorem text_bad {s : Bs} {p q n : Int} {b : Bool} (w : WfC s p q) (h : b = true ∨ n < 0 ∨ q < p + n) : g_cursor_Text (cu s p q b, n, ()) = some (([], cu s p q true, ()), ()) := by
  rw [g_cursor_Text_eq, step_bad w (h.imp id fun h => h.imp id fun h => by omega)]
  rfl
theorem left_is {s : Bs} {p q : Int} (w : WfC s p q) : g_cursor_Left (cu s p q false, ()) = some ((q - p, ()), ()) := by
  have := w.lo; have := w.hi; have := w.top; have := w.sz
  rw [g_cursor_Left_eq]; dsimp only
  rw [w64 (by omega) (by omega)]
  rfl
theorem WfC.fwd {s : Bs} {p q n : Int} (w : WfC s p q) (h : 0 ≤ n) (h2 : p + n ≤ q) : WfC s (p + n) q := ⟨by have := w.lo; omega, h2, w.top, w.sz⟩
theorem WfC.whole {s : Bs} (h : s.length ≤ 1000000000000000) : WfC s 0 s.length := ⟨by omega, by omega, by omega, h⟩
theorem num1 {s : Bs} {p : Nat} (h : p + 1 ≤ s.length) : num (cut_ s p 1) = bt s p := by
  have e : cut_ s p 1 = [s[p]] := by
    unfold cut_
    rw [show ((p : Int) + 1).toNat = p + 1 by omega, Int.toNat_natCast, List.take_succ_eq_append_getElem (by omega), List.drop_append_of_le_length (by simp; omega)]
    simp [List.drop_take]
  rw [e]; simp [num, bt, List.getElem?_eq_getElem (show p < s.length by omega)]
theorem cut_succ {s : Bs} {p n : Nat} (h : p + n + 1 ≤ s.length) : cut_ s p (n + 1 : Nat) = cut_ s p n ++ [s[p + n]'(by omega)] := by
  unfold cut_
  rw [show ((p : Int) + ((n + 1 : Nat) : Int)).toNat = p + n + 1 by omega, show ((p : Int) + (n : Int)).toNat = p + n by omega, Int.toNat_natCast, List.take_succ_eq_append_getElem (by omega), List.drop_append_of_le_length (by simp; omega)]
theorem num_cut_succ {s : Bs} {p n : Nat} (h : p + n + 1 ≤ s.length) : num (cut_ s p (n + 1 : Nat)) = num (cut_ s p n) * 256 + bt s (p + n) := by
  rw [cut_succ h, num_append]
  simp [bt, List.getElem?_eq_getElem (show p + n < s.length by omega)]
theorem num2 {s : Bs} {p : Nat} (h : p + 2 ≤ s.length) : num (cut_ s p 2) = bt s p * 256 + bt s (p + 1) := by
  have := num_cut_succ (s := s) (p := p) (n := 1) (by omega)
  rw [show ((1 : Nat) : Int) = 1 from rfl, num1 (by omega)] at this
  exact this
end Go.VP
set_option linter.unusedVariables false
set_option linter.unusedSimpArgs false
set_option maxRecDepth 100000
namespace Go.VP
open Go Go.VI
theorem ifd {α : Sort _} {p : Prop} [d : Decidable p] {a b : α} (h : p) : (if decide p = true then a else b) = a := if_pos (decide_eq_true h)
theorem ifn {α : Sort _} {p : Prop} [d : Decidable p] {a b : α} (h : ¬ p) : (if decide p = true then a else b) = b := if_neg (by simpa using h)
theorem ift {α : Sort _} {a b : α} : (if true = true then a else b) = a := rfl
theorem iff_ {α : Sort _} {a b : α} : (if false = true then a else b) = b := rfl
theorem ifnt {α : Sort _} {a b : α} : (if (!true) = true then a else b) = b := rfl
theorem ifnf {α : Sort _} {a b : α} : (if (!false) = true then a else b) = a := rfl
def fitsB (n : Int) (k : Nat) : Bool := decide (0 ≤ n ∧ n < 256 ^ k)
theorem pow8 (k : Nat) : (2 : Int) ^ (8 * k) = 256 ^ k := by rw [Int.pow_mul]; rfl
theorem fits_is {n : Int} {k : Nat} (hn : IntKind.has .i64 n) (h1 : 1 ≤ k) (h7 : k ≤ 7) : g_octet_Fits (n, (k : Int), ()) = some ((fitsB n k, ()), ()) := by
  rw [has64] at hn
  rw [g_octet_Fits_eq, ifd (by omega), ifd (by omega)]
  by_cases h0 : 0 ≤ n
  · rw [ifd h0, w64 (x := 8 * (k : Int)) (by omega) (by omega), wu64 (by omega) (by omega), if_pos (by omega)]
    have e : ishr .i64 n (8 * (k : Int)) = n / 256 ^ k := by
      unfold ishr
      rw [show min (8 * (k : Int)).toNat IntKind.i64.bits = 8 * k by simp only [IntKind.bits]; omega, pow8]
      exact Int.fdiv_eq_ediv_of_nonneg _ (Int.pow_nonneg (by decide))
    have hp : (0 : Int) < 256 ^ k := Int.pow_pos (by decide)
    rw [e]
    unfold fitsB
    by_cases hlt : n < 256 ^ k
    · rw [Int.ediv_eq_zero_of_lt h0 hlt]; simp [h0, hlt]
    · have : 1 ≤ n / 256 ^ k := Int.le_ediv_of_mul_le hp (by omega)
      have h2 : (n / 256 ^ k == 0) = false := by simp; omega
      rw [h2]; simp [hlt]
  · rw [ifn h0]; simp [fitsB, h0]
def oput (n : Int) (k : Nat) : Bs × Bool := if fitsB n k = true then (be k n, true) else ([], false)
end Go.VP
set_option linter.unusedVariables false
set_option linter.unusedSimpArgs false
set_option maxRecDepth 100000
namespace Go.VP
open Go Go.VI
def wordsK : List (List UInt8) := [[], [114, 105, 112], [110, 103], [114, 114, 101, 113], [114, 114, 101, 112], [114, 101, 114, 114], [114, 114, 101, 112, 97, 99, 107], [97, 99, 107, 114, 101, 113], [97, 99, 107], [104, 101, 108, 108, 111], [105, 104, 117], [117, 112, 100, 97, 116, 101], [114, 111, 117, 116, 101, 114, 101, 113], [115, 101, 113, 110, 111, 114, 101, 113], [111, 112, 97, 113, 117, 101]]
def wordM (k : Int) : List UInt8 := if 1 ≤ k ∧ k ≤ 14 then wordsK.getD k.toNat [] else []
end Go.VP
set_option linter.unusedVariables false
set_option linter.unusedSimpArgs false
set_option maxRecDepth 100000
namespace Go.VP
open Go Go.VI
abbrev Tlv := S_api_Tlv
abbrev Sub := S_api_Sub
theorem tlvBo : bo_api_Tlv ≤ 100 := Nat.le_of_ble_eq_true (by kernel_rfl)
theorem subBo : bo_api_Sub ≤ 100 := Nat.le_of_ble_eq_true (by kernel_rfl)
theorem room_mul {a b : Nat} (h : a ≤ 300000000000) (hb : b ≤ 100) : roomB (a * b) = true := by
  refine roomB_of ?_
  have : a * b ≤ 300000000000 * 100 := Nat.mul_le_mul h hb
  omega
def tput (t : Int) (d : Bs) : Bs × Bool := if 1 ≤ t ∧ t ≤ 255 ∧ d.length ≤ 255 then (u8of t :: u8of d.length :: d, true) else ([], false)
theorem u8of_emod (n : Int) (h : 0 ≤ n) : u8of (n % 256) = u8of n := by
  apply u8_eq; rw [u8of_int, u8of_int, if_pos (by omega), if_pos h]; omega
theorem tput_is (t : Int) (d : Bs) : g_frame_Put (t, d, ()) = some (((tput t d).1, (tput t d).2, ()), ()) := by
  rw [g_frame_Put_eq]
  unfold tput
  by_cases h1 : t < 1
  · rw [if_pos (by simpa using h1), if_neg (by omega)]
  · rw [if_neg (by simpa using h1)]
    by_cases h2 : 255 < t
    · rw [if_pos (by simpa using h2), if_neg (by omega)]
    · rw [if_neg (by simpa using h2)]
      by_cases h3 : (255 : Int) < d.length
      · rw [if_pos (by simpa using h3), if_neg (by omega)]
      · have hh : 1 ≤ t ∧ t ≤ 255 ∧ d.length ≤ 255 := by omega
        rw [if_neg (by simpa using h3), if_pos hh, wu8, wu8, u8of_emod _ (by omega), u8of_emod _ (by omega), if_pos (maxB_of (by simp; omega))]
        rfl
def spl (p : Int) (s : Bs) : Except Int (List Tlv) :=
  match s with
  | [] => .ok []
  | t :: r =>
    if t = 0 then (spl (p + 1) r).map (⟨0, p, []⟩ :: ·)
    else match r with
      | [] => .error p
      | n :: d => if d.length < n.toNat then .error p else (spl (p + 2 + n.toNat) (d.drop n.toNat)).map (⟨t.toNat, p, d.take n.toNat⟩ :: ·)
termination_by s.length
decreasing_by all_goals (simp_wf; try omega)
def splOut (acc : List Tlv) : Except Int (List Tlv) → List Tlv × Int × Int
  | .ok l => (acc ++ l, 0, 0)
  | .error q => ([], q, 2)
theorem splOut_map (acc : List Tlv) (x : Tlv) (r : Except Int (List Tlv)) : splOut acc (r.map (x :: ·)) = splOut (acc ++ [x]) r := by
  cases r <;> simp [splOut, Except.map]
abbrev trip {α β γ : Type} (x : α × β × γ) : α × β × γ × Unit := (x.1, x.2.1, x.2.2, ())
theorem next_zero {s : Bs} {p : Nat} (w : WfC s p s.length) (h : p < s.length) (hz : s[p] = 0) : g_frame_next (cu s p s.length false, ()) = some ((⟨0, p, []⟩, cu s (p + 1) s.length false, ()), ()) := by
  rw [g_frame_next_eq, num_ok w (by omega) (by omega) (by omega), Option.bind_some]
  have e : num (cut_ s p 1) = 0 := by rw [num1 (by omega), bt]; simp [h, hz]
  dsimp only
  rw [e]; rfl
theorem next_one {s : Bs} {p : Nat} (w : WfC s p s.length) (h : p + 1 = s.length) (hz : s[p] ≠ 0) : ∃ t, g_frame_next (cu s p s.length false, ()) = some ((t, cu s (p + 1) s.length true, ()), ()) ∧ t.at_ = p := by
  have e : (num (cut_ s p 1) == 0) = false := by
    rw [num1 (by omega), bt, List.getElem?_eq_getElem (by omega), Option.getD_some]
    simp
    intro h2; exact hz (UInt8.toNat.inj h2)
  have e2 : ((s.length : Nat) : Int) = (p : Int) + 1 := by omega
  rw [g_frame_next_eq, num_ok w (by omega) (by omega) (by omega), Option.bind_some]
  dsimp only
  rw [e, if_neg (by decide), num_bad (w.fwd (by omega) (by omega)) (by omega) (by omega) (.inr (by omega)), Option.bind_some]
  dsimp only
  rw [text_bad (w.fwd (by omega) (by omega)) (.inl rfl), Option.bind_some]
  exact ⟨_, rfl, rfl⟩
theorem next_two {s : Bs} {p : Nat} (w : WfC s p s.length) (h : p + 1 < s.length) (hz : s[p] ≠ 0) (hb : s.length < p + 2 + s[p + 1].toNat) : ∃ t, g_frame_next (cu s p s.length false, ()) = some ((t, cu s (p + 2) s.length true, ()), ()) ∧ t.at_ = p := by
  have e : (num (cut_ s p 1) == 0) = false := by
    rw [num1 (by omega), bt, List.getElem?_eq_getElem (by omega), Option.getD_some]
    simp
    intro h2; exact hz (UInt8.toNat.inj h2)
  have e2 : num (cut_ s ((p : Int) + 1) 1) = s[p + 1].toNat := by
    rw [show ((p : Int) + 1) = ((p + 1 : Nat) : Int) by omega, num1 (by omega), bt, List.getElem?_eq_getElem (by omega), Option.getD_some]
  rw [g_frame_next_eq, num_ok w (by omega) (by omega) (by omega), Option.bind_some]
  dsimp only
  rw [e, if_neg (by decide), num_ok (w.fwd (by omega) (by omega)) (by omega) (by omega) (by omega), Option.bind_some]
  dsimp only
  rw [e2, Int.add_assoc, text_bad (w.fwd (by omega) (by omega)) (.inr (.inr (by omega))), Option.bind_some]
  exact ⟨_, rfl, rfl⟩
theorem next_all {s : Bs} {p : Nat} (w : WfC s p s.length) (h : p + 1 < s.length) (hz : s[p] ≠ 0) (hb : p + 2 + s[p + 1].toNat ≤ s.length) : g_frame_next (cu s p s.length false, ()) = some ((⟨s[p].toNat, p, (s.drop (p + 2)).take s[p + 1].toNat⟩, cu s ((p + 2 + s[p + 1].toNat : Nat) : Int) s.length false, ()), ()) := by
  have e0 : num (cut_ s p 1) = s[p].toNat := by
    rw [num1 (by omega), bt, List.getElem?_eq_getElem (by omega), Option.getD_some]
  have e : (((s[p].toNat : Nat) : Int) == 0) = false := by
    simp
    intro h2; exact hz (UInt8.toNat.inj h2)
  have e2 : num (cut_ s ((p : Int) + 1) 1) = s[p + 1].toNat := by
    rw [show ((p : Int) + 1) = ((p + 1 : Nat) : Int) by omega, num1 (by omega), bt, List.getElem?_eq_getElem (by omega), Option.getD_some]
  rw [g_frame_next_eq, num_ok w (by omega) (by omega) (by omega), Option.bind_some]
  dsimp only
  rw [e0, e, if_neg (by decide), num_ok (w.fwd (by omega) (by omega)) (by omega) (by omega) (by omega), Option.bind_some]
  dsimp only
  rw [e2, Int.add_assoc, text_ok (w.fwd (by omega) (by omega)) (by omega) (by omega), Option.bind_some]
  have e3 : cut_ s ((p : Int) + (1 + 1)) (s[p + 1].toNat : Int) = (s.drop (p + 2)).take s[p + 1].toNat := by
    unfold cut_
    rw [show ((p : Int) + (1 + 1) + (s[p + 1].toNat : Int)).toNat = p + 2 + s[p + 1].toNat by omega, show ((p : Int) + (1 + 1)).toNat = p + 2 by omega, List.take_add, List.drop_append_of_le_length (by simp; omega)]
    simp
  dsimp only
  rw [e3, show ((p : Int) + (1 + 1) + (s[p + 1].toNat : Int)) = ((p + 2 + s[p + 1].toNat : Nat) : Int) by omega]
theorem spl_nil (p : Int) : spl p [] = .ok [] := by rw [spl.eq_def]
theorem spl_zero {p : Int} {r : Bs} : spl p (0 :: r) = (spl (p + 1) r).map (⟨0, p, []⟩ :: ·) := by rw [spl.eq_def]; rfl
theorem spl_one {p : Int} {t : UInt8} (h : t ≠ 0) : spl p [t] = .error p := by rw [spl.eq_def]; simp [h]
theorem spl_bad {p : Int} {t n : UInt8} {d : Bs} (h : t ≠ 0) (h2 : d.length < n.toNat) : spl p (t :: n :: d) = .error p := by rw [spl.eq_def]; simp [h, h2]
theorem spl_all {p : Int} {t n : UInt8} {d : Bs} (h : t ≠ 0) (h2 : n.toNat ≤ d.length) : spl p (t :: n :: d) = (spl (p + 2 + n.toNat) (d.drop n.toNat)).map (⟨t.toNat, p, d.take n.toNat⟩ :: ·) := by
  rw [spl.eq_def]; simp only [h, if_false]; rw [if_neg (by omega)]
theorem drop2 {s : Bs} {p : Nat} (h : p + 1 < s.length) : s.drop p = s[p] :: s[p + 1] :: s.drop (p + 2) := by
  rw [List.drop_eq_getElem_cons (by omega), List.drop_eq_getElem_cons (i := p + 1) (by omega)]
theorem split_loop {s : Bs} {base : Int} {n : Nat} (hs : s.length ≤ 1000000000) (hb : 0 ≤ base ∧ base ≤ 1152921504606846976) : ∀ (d m p : Nat) (acc : List Tlv), p ≤ s.length → s.length - p ≤ d → d < m → acc.length ≤ p →
    L_frame_Split_0 n m base acc s p s.length false = some (trip (splOut acc (spl (base + p) (s.drop p))), ()) := by
  intro d
  induction d with
  | zero =>
    intro m p acc h1 h2 hk ha
    obtain ⟨m, rfl⟩ : ∃ k, m = k + 1 := ⟨m - 1, by omega⟩
    have w : WfC s p s.length := ⟨by omega, by omega, by omega, by omega⟩
    rw [L_frame_Split_0_eq, left_is w, Option.bind_some]
    dsimp only
    rw [if_neg (by simp; omega), List.drop_eq_nil_of_le (by omega), spl_nil]
    simp [splOut, trip]
  | succ d ih =>
    intro m p acc h1 h2 hk ha
    obtain ⟨m, rfl⟩ : ∃ k, m = k + 1 := ⟨m - 1, by omega⟩
    have w : WfC s p s.length := ⟨by omega, by omega, by omega, by omega⟩
    rw [L_frame_Split_0_eq, left_is w, Option.bind_some]
    dsimp only
    by_cases hp : p < s.length
    · rw [if_pos (by simp; omega)]
      have hroom : ∀ x : Tlv, roomB ((acc.length + [x].length) * bo_api_Tlv) = true := fun x => room_mul (by simp; omega) tlvBo
      by_cases hz : s[p] = 0
      · rw [next_zero w hp hz, Option.bind_some]
        dsimp only
        rw [if_neg (by decide), if_pos (hroom _), w64 (by omega) (by omega), List.drop_eq_getElem_cons hp, hz, spl_zero, splOut_map]
        have := ih m (p + 1) (acc ++ [⟨0, base + p, []⟩]) (by omega) (by omega) (by omega) (by simp; omega)
        rw [show ((p + 1 : Nat) : Int) = (p : Int) + 1 by omega] at this
        rw [show (p : Int) + base = base + p by omega, this, Int.add_assoc]
      · by_cases h3 : p + 1 = s.length
        · obtain ⟨t, e, et⟩ := next_one w h3 hz
          rw [e, Option.bind_some]
          dsimp only
          rw [if_pos rfl, et, w64 (by omega) (by omega), List.drop_eq_getElem_cons hp, List.drop_eq_nil_of_le (by omega), spl_one hz]
          simp [splOut, trip]; omega
        · have h4 : p + 1 < s.length := by omega
          by_cases h5 : p + 2 + s[p + 1].toNat ≤ s.length
          · rw [next_all w h4 hz h5, Option.bind_some]
            dsimp only
            rw [if_neg (by decide), if_pos (hroom _), w64 (by omega) (by omega), drop2 h4, spl_all hz (by simp; omega), splOut_map]
            have := ih m (p + 2 + s[p + 1].toNat) (acc ++ [⟨s[p].toNat, base + p, (s.drop (p + 2)).take s[p + 1].toNat⟩]) (by omega) (by omega) (by omega) (by simp; omega)
            rw [show (p : Int) + base = base + p by omega, this, List.drop_drop]
            congr 4
            congr 1
            omega
          · obtain ⟨t, e, et⟩ := next_two w h4 hz (by omega)
            rw [e, Option.bind_some]
            dsimp only
            rw [if_pos rfl, et, w64 (by omega) (by omega), drop2 h4, spl_bad hz (by simp; omega)]
            simp [splOut, trip]; omega
    · rw [if_neg (by simp; omega), List.drop_eq_nil_of_le (by omega), spl_nil]
      simp [splOut, trip]
theorem split_is {s : Bs} {base : Int} (hs : s.length ≤ 1000000000) (hb : 0 ≤ base ∧ base ≤ 1152921504606846976) : g_frame_Split (s, base, ()) = some (trip (splOut [] (spl base s)), ()) := by
  show h_frame_Split fuel _ = _
  rw [h_frame_Split_eq, new_is, Option.bind_some]
  have := split_loop (n := fuel) hs hb s.length fuel 0 [] (by omega) (by omega) (fuel_ge (by omega)) (by simp)
  simpa using this
end Go.VP
set_option linter.unusedVariables false
set_option linter.unusedSimpArgs false
set_option maxRecDepth 100000
namespace Go.VP
open Go Go.VI
def sumN : List Sub → Int
  | [] => 0
  | y :: l => 2 + (y.data.length : Int) + sumN l
def FewS (l : List Sub) : Prop := l.length ≤ 1000000000 ∧ ∀ y ∈ l, y.data.length ≤ 300
theorem FewS.tail {y : Sub} {l : List Sub} (h : FewS (y :: l)) : FewS l := ⟨by have := h.1; simp at this; omega, fun z hz => h.2 z (List.mem_cons_of_mem _ hz)⟩
theorem FewS.drop {l : List Sub} (h : FewS l) (i : Nat) : FewS (l.drop i) := ⟨by have := h.1; simp; omega, fun y hy => h.2 y (List.mem_of_mem_drop hy)⟩
theorem sumN_rng : ∀ {l : List Sub}, FewS l → 0 ≤ sumN l ∧ sumN l ≤ 302 * l.length
  | [], _ => by simp [sumN]
  | y :: l, h => by
    have := sumN_rng h.tail
    have hy := h.2 y (List.mem_cons_self ..)
    simp only [sumN, List.length_cons]
    omega
theorem bytes_loop {l : List Sub} {n : Nat} (hl : FewS l) : ∀ (d m i : Nat) (acc : Int), i + d = l.length → d < m → 0 ≤ acc → acc ≤ 302 * i →
    L_msg_Bytes_0 n m l acc i = some ((acc + sumN (l.drop i), ()), ()) := by
  have h1 := hl.1
  intro d
  induction d with
  | zero =>
    intro m i acc hd hm h2 h3
    obtain ⟨m, rfl⟩ : ∃ k, m = k + 1 := ⟨m - 1, by omega⟩
    rw [L_msg_Bytes_0_eq, ifn (by omega), List.drop_eq_nil_of_le (by omega)]
    simp [sumN]
  | succ d ih =>
    intro m i acc hd hm h2 h3
    obtain ⟨m, rfl⟩ : ∃ k, m = k + 1 := ⟨m - 1, by omega⟩
    have hlt : i < l.length := by omega
    have hy := hl.2 l[i] (List.getElem_mem hlt)
    rw [L_msg_Bytes_0_eq, ifd (by omega), if_pos (by omega), Int.toNat_natCast, bind_at hlt, w64 (x := 2 + (l[i].data.length : Int)) (by omega) (by omega), w64 (x := acc + (2 + (l[i].data.length : Int))) (by omega) (by omega), w64 (x := (i : Int) + 1) (by omega) (by omega)]
    have := ih m (i + 1) (acc + (2 + (l[i].data.length : Int))) (by omega) (by omega) (by omega) (by omega)
    rw [show ((i + 1 : Nat) : Int) = (i : Int) + 1 by omega] at this
    rw [this, List.drop_eq_getElem_cons hlt, sumN, Int.add_assoc]
theorem bytes_is {l : List Sub} (hl : FewS l) : g_msg_Bytes (l, ()) = some ((sumN l, ()), ()) := by
  show h_msg_Bytes fuel _ = _
  have := hl.1
  rw [h_msg_Bytes_eq]
  have := bytes_loop (n := fuel) hl l.length fuel 0 0 (by omega) (fuel_ge (by omega)) (by omega) (by omega)
  simpa using this
def subB (lo hi : Int) (y : Sub) : Bool := decide (lo ≤ y.type_ ∧ y.type_ ≤ hi ∧ y.data.length ≤ 255)
theorem subs_loop {l : List Sub} {n : Nat} (h1 : l.length ≤ 1000000000) (lo hi : Int) : ∀ (d m i : Nat), i + d = l.length → d < m →
    L_msg_Subs_0 n m lo hi l i = some (((l.drop i).all (subB lo hi), ()), ()) := by
  intro d
  induction d with
  | zero =>
    intro m i hd hm
    obtain ⟨m, rfl⟩ : ∃ k, m = k + 1 := ⟨m - 1, by omega⟩
    rw [L_msg_Subs_0_eq, ifn (by omega), List.drop_eq_nil_of_le (by omega)]
    rfl
  | succ d ih =>
    intro m i hd hm
    obtain ⟨m, rfl⟩ : ∃ k, m = k + 1 := ⟨m - 1, by omega⟩
    have hlt : i < l.length := by omega
    have := ih m (i + 1) (by omega) (by omega)
    rw [show ((i + 1 : Nat) : Int) = (i : Int) + 1 by omega] at this
    rw [L_msg_Subs_0_eq, ifd (by omega), if_pos (by omega), Int.toNat_natCast, bind_at hlt, w64 (x := (i : Int) + 1) (by omega) (by omega), this, List.drop_eq_getElem_cons hlt, List.all_cons]
    by_cases a : l[i].type_ < lo
    · rw [ifd a, show subB lo hi l[i] = false by simp [subB]; omega]; rfl
    · rw [ifn a]
      by_cases b : hi < l[i].type_
      · rw [ifd b, show subB lo hi l[i] = false by simp [subB]; omega]; rfl
      · rw [ifn b]
        by_cases c : (255 : Int) < l[i].data.length
        · rw [ifd c, show subB lo hi l[i] = false by simp [subB]; omega]; rfl
        · rw [ifn c, show subB lo hi l[i] = true by simp [subB]; omega, Bool.true_and]
theorem subs_is {l : List Sub} (h1 : l.length ≤ 1000000000) (lo hi : Int) : g_msg_Subs (l, lo, hi, ()) = some ((l.all (subB lo hi), ()), ()) := by
  show h_msg_Subs fuel _ = _
  rw [h_msg_Subs_eq]
  exact subs_loop (n := fuel) h1 lo hi l.length fuel 0 (by omega) (fuel_ge (by omega))
def rightB (l : List Sub) : Bool := l.all (subB 2 127) && decide (sumN l ≤ 200)
theorem sright_is {l : List Sub} (hl : FewS l) : g_sub_Right (l, ()) = some ((rightB l, ()), ()) := by
  rw [g_sub_Right_eq, subs_is hl.1, Option.bind_some, bytes_is hl]
  unfold rightB
  dsimp only
  cases l.all (subB 2 127) <;> rfl
def encS : List Sub → Bs
  | [] => []
  | y :: l => u8of y.type_ :: u8of y.data.length :: (y.data ++ encS l)
def AllR (l : List Sub) : Prop := ∀ y ∈ l, 2 ≤ y.type_ ∧ y.type_ ≤ 127 ∧ y.data.length ≤ 255
theorem allR_iff {l : List Sub} : l.all (subB 2 127) = true ↔ AllR l := by simp [subB, AllR]
theorem tput_r {y : Sub} (h : 2 ≤ y.type_ ∧ y.type_ ≤ 127 ∧ y.data.length ≤ 255) : tput y.type_ y.data = (u8of y.type_ :: u8of y.data.length :: y.data, true) := by
  unfold tput; rw [if_pos (by omega)]
theorem encS_length : ∀ (l : List Sub), ((encS l).length : Int) = sumN l
  | [] => rfl
  | y :: l => by have := encS_length l; simp [encS, sumN]; omega
theorem sput_loop {l : List Sub} {n : Nat} (hr : AllR l) (h1 : l.length ≤ 1000000) : ∀ (d m i : Nat) (acc : Bs), i + d = l.length → d < m → acc.length ≤ 257 * i →
    L_sub_Put_0 n m l acc i = some ((acc ++ encS (l.drop i), true, ()), ()) := by
  intro d
  induction d with
  | zero =>
    intro m i acc hd hm ha
    obtain ⟨m, rfl⟩ : ∃ k, m = k + 1 := ⟨m - 1, by omega⟩
    rw [L_sub_Put_0_eq, ifn (by omega), List.drop_eq_nil_of_le (by omega), encS, List.append_nil]
  | succ d ih =>
    intro m i acc hd hm ha
    obtain ⟨m, rfl⟩ : ∃ k, m = k + 1 := ⟨m - 1, by omega⟩
    have hlt : i < l.length := by omega
    have hy := hr l[i] (List.getElem_mem hlt)
    have := ih m (i + 1) (acc ++ (u8of l[i].type_ :: u8of l[i].data.length :: l[i].data)) (by omega) (by omega) (by simp; omega)
    rw [show ((i + 1 : Nat) : Int) = (i : Int) + 1 by omega] at this
    rw [L_sub_Put_0_eq, ifd (by omega), if_pos (by omega), Int.toNat_natCast, bind_at hlt, tput_is, tput_r hy, Option.bind_some]
    dsimp only
    rw [if_pos (roomB_of (by simp; omega)), w64 (by omega) (by omega), this, List.drop_eq_getElem_cons hlt, encS]
    simp
def putS (l : List Sub) : Bs × Bool := if rightB l = true then (encS l, true) else ([], false)
theorem rightB_split {l : List Sub} (h : rightB l = true) : AllR l ∧ sumN l ≤ 200 := by
  simp only [rightB, Bool.and_eq_true, allR_iff, decide_eq_true_eq] at h; exact h
theorem sput_is {l : List Sub} (hl : FewS l) (h1 : l.length ≤ 1000000) : g_sub_Put (l, ()) = some (((putS l).1, (putS l).2, ()), ()) := by
  show h_sub_Put fuel _ = _
  rw [h_sub_Put_eq, sright_is hl, Option.bind_some]
  unfold putS
  dsimp only
  by_cases h : rightB l = true
  · have := sput_loop (n := fuel) (rightB_split h).1 h1 l.length fuel 0 [] (by omega) (fuel_ge (by omega)) (by simp)
    rw [show ((0 : Nat) : Int) = 0 from rfl] at this
    rw [h, ifnt, this, ift]
    simp
  · rw [Bool.not_eq_true] at h
    rw [h, ifnf, iff_]
def keep : List Tlv → List Sub
  | [] => []
  | t :: l => if 2 ≤ t.type_ ∧ t.type_ ≤ 127 then ⟨t.type_, t.data⟩ :: keep l else keep l
def free (l : List Tlv) : Bool := l.all fun t => decide (t.type_ ≤ 127)
theorem free_cons (t : Tlv) (l : List Tlv) : free (t :: l) = (decide (t.type_ ≤ 127) && free l) := rfl
def endS (acc : List Sub) (b : Bool) : List Sub × Bool × Int := if 200 < sumN acc then ([], false, 10) else (acc, b, 0)
def ShortT (l : List Tlv) : Prop := ∀ t ∈ l, t.data.length ≤ 255
theorem endS_is {acc : List Sub} {b : Bool} (hl : FewS acc) : (g_msg_Bytes (acc, ())).bind (fun r3 => (if (decide (200 < r3.1.1)) = true then some (([], false, 10, ()), ()) else some ((acc, b, 0, ()), ()))) = some (trip (endS acc b), ()) := by
  rw [bytes_is hl, Option.bind_some]
  unfold endS
  by_cases h : 200 < sumN acc
  · rw [ifd h, if_pos h]
  · rw [ifn h, if_neg h]
theorem FewS.app {a b : List Sub} (h : ∀ y ∈ a, y.data.length ≤ 300) (h2 : ∀ y ∈ b, y.data.length ≤ 300) (h3 : a.length + b.length ≤ 1000000000) : FewS (a ++ b) :=
  ⟨by simpa using h3, fun y hy => (List.mem_append.1 hy).elim (h y) (h2 y)⟩
theorem sget_loop {l : List Tlv} {x : Int × Int × Unit} {n : Nat} (hs : ShortT l) (h1 : l.length ≤ 1000000) : ∀ (d m i : Nat) (acc : List Sub) (b : Bool), i + d = l.length → d < m → acc.length ≤ i → (∀ y ∈ acc, y.data.length ≤ 300) →
    L_sub_Get_0 n m ((l, x), ()) acc b i = some (trip (endS (acc ++ keep (l.drop i)) (b && free (l.drop i))), ()) := by
  intro d
  induction d with
  | zero =>
    intro m i acc b hd hm ha hb
    obtain ⟨m, rfl⟩ : ∃ k, m = k + 1 := ⟨m - 1, by omega⟩
    rw [L_sub_Get_0_eq]
    dsimp only
    rw [ifn (by omega), List.drop_eq_nil_of_le (by omega), endS_is ⟨by omega, hb⟩]
    simp [keep, free]
  | succ d ih =>
    intro m i acc b hd hm ha hb
    obtain ⟨m, rfl⟩ : ∃ k, m = k + 1 := ⟨m - 1, by omega⟩
    have hlt : i < l.length := by omega
    have hy := hs l[i] (List.getElem_mem hlt)
    have hroom : ∀ x : Sub, roomB ((acc.length + [x].length) * bo_api_Sub) = true := fun x => room_mul (by simp; omega) subBo
    rw [L_sub_Get_0_eq]
    dsimp only
    rw [ifd (by omega), if_pos (by omega), Int.toNat_natCast, bind_at hlt, w64 (by omega) (by omega), List.drop_eq_getElem_cons hlt]
    have e : (i : Int) + 1 = ((i + 1 : Nat) : Int) := by omega
    rw [e]
    by_cases c1 : 128 ≤ l[i].type_
    · rw [ifd c1, ih m (i + 1) acc false (by omega) (by omega) (by omega) hb, keep, if_neg (by omega), free_cons, decide_eq_false (by omega)]
      simp
    · rw [ifn c1]
      have h127 : l[i].type_ ≤ 127 := by omega
      by_cases c2 : 2 ≤ l[i].type_
      · rw [ifd c2, if_pos (hroom _), ih m (i + 1) (acc ++ [⟨l[i].type_, l[i].data⟩]) b (by omega) (by omega) (by simp; omega) (fun y hy' => (List.mem_append.1 hy').elim (hb y) (fun h => by simp at h; subst h; dsimp only; omega)), keep, if_pos ⟨c2, h127⟩, free_cons, decide_eq_true h127]
        simp
      · rw [ifn c2, ih m (i + 1) acc b (by omega) (by omega) (by omega) hb, keep, if_neg (by omega), free_cons, decide_eq_true h127]
        simp
def getS (s : Bs) : List Sub × Bool × Int :=
  match spl 0 s with
  | .ok l => endS (keep l) (free l)
  | .error _ => ([], false, 2)
theorem spl_ok (s : Bs) : ∀ (p : Int) (l : List Tlv), spl p s = .ok l → ShortT l ∧ l.length ≤ s.length := by
  match s with
  | [] => intro p l h; rw [spl_nil] at h; injection h with h; subst h; exact ⟨fun t h => by simp at h, Nat.le_refl _⟩
  | t :: r =>
    intro p l h
    have go : ∀ (q : Int) (x : Tlv) (r' : Bs), r'.length < (t :: r).length → x.data.length ≤ 255 → (spl q r').map (x :: ·) = .ok l → ShortT l ∧ l.length ≤ (t :: r).length := by
      intro q x r' hr hx h
      cases hm : spl q r' with
      | error e => rw [hm] at h; cases h
      | ok l' =>
        rw [hm] at h
        injection h with h
        subst h
        obtain ⟨a, b⟩ := spl_ok r' q l' hm
        exact ⟨fun y hy => (List.mem_cons.1 hy).elim (fun h => by subst h; exact hx) (a y), by simp only [List.length_cons] at *; omega⟩
    by_cases ht : t = 0
    · subst ht
      rw [spl_zero] at h
      exact go _ _ _ (by simp) (by simp) h
    · match r with
      | [] => rw [spl_one ht] at h; cases h
      | n :: d =>
        by_cases hn : d.length < n.toNat
        · rw [spl_bad ht hn] at h; cases h
        · rw [spl_all ht (by omega)] at h
          have := n.toNat_lt
          exact go _ _ _ (by simp; omega) (by simp; omega) h
termination_by s.length
theorem sget_is {s : Bs} (h : s.length ≤ 1000000) : g_sub_Get (s, ()) = some (trip (getS s), ()) := by
  show h_sub_Get fuel _ = _
  rw [h_sub_Get_eq, split_is (by omega) (by omega), Option.bind_some]
  unfold getS
  cases hm : spl 0 s with
  | error e => rfl
  | ok l =>
    obtain ⟨h1, h2⟩ := spl_ok s 0 l hm
    have := sget_loop (x := (0, 0, ())) (n := fuel) h1 (by omega) l.length fuel 0 [] true (by omega) (fuel_ge (by omega)) (by simp) (by simp)
    show L_sub_Get_0 fuel fuel ((l, 0, 0, ()), ()) [] true 0 = _
    simpa using this
end Go.VP
set_option linter.unusedVariables false
set_option linter.unusedSimpArgs false
set_option maxRecDepth 100000
namespace Go.VP
open Go Go.VI
abbrev Msg := S_api_Msg
abbrev Dest := S_api_Dest
theorem ne_step {α R : Type} [BEq α] [LawfulBEq α] {x y : α} {f t r : R} (hne : x ≠ y → f = r) (heq : x = y → t = r) : (if (x != y) = true then f else t) = r := by
  by_cases h : x = y
  · rw [if_neg (by simp [h])]; exact heq h
  · rw [if_pos (by simp [h])]; exact hne h
theorem nq_step {α R : Type} [BEq α] [LawfulBEq α] {x y : α} {f t r : R} (hne : x ≠ y → f = r) (heq : x = y → t = r) : (if (!(x == y)) = true then f else t) = r := ne_step hne heq
open Classical in
noncomputable def eqB {α : Type} (a b : α) : Bool := decide (a = b)
theorem eqB_true {α : Type} {a b : α} : eqB a b = true ↔ a = b := by simp [eqB]
theorem eqB_refl {α : Type} (a : α) : eqB a a = true := eqB_true.2 rfl
theorem eqB_false {α : Type} {a b : α} (h : a ≠ b) : eqB a b = false := by simp [eqB, h]
theorem dests_loop {a b : List Dest} {n : Nat} (hl : a.length = b.length) (h1 : a.length ≤ 1000000000) : ∀ (d m i : Nat), i + d = a.length → d < m → L_ref07_dests_0 n m a b i = some ((eqB (a.drop i) (b.drop i), ()), ()) := by
  intro d
  induction d with
  | zero =>
    intro m i hd hm
    obtain ⟨m, rfl⟩ : ∃ k, m = k + 1 := ⟨m - 1, by omega⟩
    rw [L_ref07_dests_0_eq, ifn (by omega), List.drop_eq_nil_of_le (by omega), List.drop_eq_nil_of_le (by omega), eqB_refl]
  | succ d ih =>
    intro m i hd hm
    obtain ⟨m, rfl⟩ : ∃ k, m = k + 1 := ⟨m - 1, by omega⟩
    have ha : i < a.length := by omega
    have hb : i < b.length := by omega
    have := ih m (i + 1) (by omega) (by omega)
    rw [show ((i + 1 : Nat) : Int) = (i : Int) + 1 by omega] at this
    rw [L_ref07_dests_0_eq, ifd (by omega), if_pos (by omega), Int.toNat_natCast, bind_at ha, if_pos (by omega), bind_at hb, w64 (by omega) (by omega), this, List.drop_eq_getElem_cons ha, List.drop_eq_getElem_cons hb]
    generalize a[i] = x
    generalize b[i] = y
    obtain ⟨x1, x2⟩ := x
    obtain ⟨y1, y2⟩ := y
    dsimp only
    by_cases h : x1 = y1 ∧ x2 = y2
    · obtain ⟨rfl, rfl⟩ := h
      rw [if_neg (by simp)]
      simp [eqB]
    · have hx : ¬ ((⟨x1, x2⟩ : Dest) = ⟨y1, y2⟩) := by simpa using h
      have hb : ((x1 == y1) && (x2 == y2)) = false := by rw [Bool.eq_false_iff]; simpa using h
      rw [hb, ifnf, eqB_false]
      intro e
      injection e with e _
      exact hx e
theorem dests_is {a b : List Dest} (h1 : a.length ≤ 1000000000) : g_ref07_dests (a, b, ()) = some ((eqB a b, ()), ()) := by
  show h_ref07_dests fuel _ = _
  rw [h_ref07_dests_eq]
  refine ne_step (fun h => ?_) (fun h => ?_)
  · rw [eqB_false]; intro e; subst e; exact h rfl
  · exact dests_loop (n := fuel) (by omega) h1 a.length fuel 0 (by omega) (fuel_ge (by omega))
theorem subs2_loop {a b : List Sub} {n : Nat} (hl : a.length = b.length) (h1 : a.length ≤ 1000000000) : ∀ (d m i : Nat), i + d = a.length → d < m → L_ref07_subs_0 n m a b i = some ((eqB (a.drop i) (b.drop i), ()), ()) := by
  intro d
  induction d with
  | zero =>
    intro m i hd hm
    obtain ⟨m, rfl⟩ : ∃ k, m = k + 1 := ⟨m - 1, by omega⟩
    rw [L_ref07_subs_0_eq, ifn (by omega), List.drop_eq_nil_of_le (by omega), List.drop_eq_nil_of_le (by omega), eqB_refl]
  | succ d ih =>
    intro m i hd hm
    obtain ⟨m, rfl⟩ : ∃ k, m = k + 1 := ⟨m - 1, by omega⟩
    have ha : i < a.length := by omega
    have hb : i < b.length := by omega
    have := ih m (i + 1) (by omega) (by omega)
    rw [show ((i + 1 : Nat) : Int) = (i : Int) + 1 by omega] at this
    rw [L_ref07_subs_0_eq, ifd (by omega), if_pos (by omega), Int.toNat_natCast, bind_at ha, if_pos (by omega), bind_at hb, w64 (by omega) (by omega), this, List.drop_eq_getElem_cons ha, List.drop_eq_getElem_cons hb]
    generalize a[i] = x
    generalize b[i] = y
    obtain ⟨x1, x2⟩ := x
    obtain ⟨y1, y2⟩ := y
    dsimp only
    by_cases h : x1 = y1 ∧ x2 = y2
    · obtain ⟨rfl, rfl⟩ := h
      rw [if_neg (by simp)]
      simp [eqB]
    · have hx : ¬ ((⟨x1, x2⟩ : Sub) = ⟨y1, y2⟩) := by simpa using h
      have hb : ((x1 == y1) && (x2 == y2)) = false := by rw [Bool.eq_false_iff]; simpa using h
      rw [hb, ifnf, eqB_false]
      intro e
      injection e with e _
      exact hx e
theorem subs2_is {a b : List Sub} (h1 : a.length ≤ 1000000000) : g_ref07_subs (a, b, ()) = some ((eqB a b, ()), ()) := by
  show h_ref07_subs fuel _ = _
  rw [h_ref07_subs_eq]
  refine ne_step (fun h => ?_) (fun h => ?_)
  · rw [eqB_false]; intro e; subst e; exact h rfl
  · exact subs2_loop (n := fuel) (by omega) h1 a.length fuel 0 (by omega) (fuel_ge (by omega))
theorem same_is {a b : Msg} (h1 : a.list.length ≤ 1000000000) (h2 : a.subs.length ≤ 1000000000) : g_ref07_Same (a, b, ()) = some ((eqB a b, ()), ()) := by
  have hf : a ≠ b → (some ((false, ()), ()) : Option ((Bool × Unit) × Unit)) = some ((eqB a b, ()), ()) := fun h => by rw [eqB_false h]
  rw [g_ref07_Same_eq, dests_is h1, Option.bind_some, subs2_is h2, Option.bind_some]
  repeat (first | refine ne_step (fun h => hf (fun e => h (by rw [e]))) (fun h => ?_) | refine nq_step (fun h => hf (fun e => h (by rw [e]))) (fun h => ?_))
  dsimp only
  by_cases hl : a.list = b.list
  · rw [hl, eqB_refl, ift]
    by_cases hs : a.subs = b.subs
    · have : a = b := by
        cases a; cases b
        simp only at *
        simp [*]
      rw [hs, eqB_refl, this, eqB_refl]
    · rw [eqB_false hs, eqB_false]; intro e; exact hs (by rw [e])
  · rw [eqB_false hl, iff_]; exact hf (fun e => hl (by rw [e]))
structure Few (m : Msg) : Prop where
  list : m.list.length ≤ 300
  subs : m.subs.length ≤ 60
  ap : m.auth.length + m.prefix_.length ≤ 200
  ni : m.next.length + m.id.length ≤ 200
  ao : m.addr.length + m.orig.length ≤ 200
  data : m.data.length ≤ 300
  ds : ∀ d ∈ m.list, d.addr.length ≤ 50
  ss : ∀ s ∈ m.subs, s.data.length ≤ 300
structure Lite (m : Msg) : Prop where
  list : m.list.length ≤ 1000
  subs : m.subs.length ≤ 1000
  auth : m.auth.length ≤ 400
  pre : m.prefix_.length ≤ 400
  next : m.next.length ≤ 400
  id : m.id.length ≤ 400
  addr : m.addr.length ≤ 400
  orig : m.orig.length ≤ 400
  data : m.data.length ≤ 400
  ds : ∀ d ∈ m.list, d.addr.length ≤ 50
  ss : ∀ s ∈ m.subs, s.data.length ≤ 300
theorem Few.lite {m : Msg} (h : Few m) : Lite m := by
  have := h.list; have := h.subs; have := h.ap; have := h.ni; have := h.ao; have := h.data
  exact ⟨by omega, by omega, by omega, by omega, by omega, by omega, by omega, by omega, by omega, h.ds, h.ss⟩
theorem Lite.fewS {m : Msg} (h : Lite m) : FewS m.subs := ⟨by have := h.subs; omega, h.ss⟩
def GoodMsg (m : Msg) : Prop := m.auth.length ≤ 140737488351232 ∧ m.prefix_.length ≤ 140737488351232 ∧ m.next.length ≤ 140737488351232 ∧ m.id.length ≤ 140737488351232 ∧ m.addr.length ≤ 140737488351232 ∧ m.orig.length ≤ 140737488351232
theorem few1_loop {m0 : Msg} {n : Nat} (h1 : m0.subs.length ≤ 60) : ∀ (d m i : Nat), i + d = m0.subs.length → d < m → L_ref07_Few_1 n m m0 i = some (((m0.subs.drop i).all fun s => decide (s.data.length ≤ 300), ()), ()) := by
  intro d
  induction d with
  | zero =>
    intro m i hd hm
    obtain ⟨m, rfl⟩ : ∃ k, m = k + 1 := ⟨m - 1, by omega⟩
    rw [L_ref07_Few_1_eq, ifn (by omega), List.drop_eq_nil_of_le (by omega)]; rfl
  | succ d ih =>
    intro m i hd hm
    obtain ⟨m, rfl⟩ : ∃ k, m = k + 1 := ⟨m - 1, by omega⟩
    have ha : i < m0.subs.length := by omega
    have := ih m (i + 1) (by omega) (by omega)
    rw [show ((i + 1 : Nat) : Int) = (i : Int) + 1 by omega] at this
    rw [L_ref07_Few_1_eq, ifd (by omega), if_pos (by omega), Int.toNat_natCast, bind_at ha, w64 (by omega) (by omega), this, List.drop_eq_getElem_cons ha, List.all_cons]
    by_cases h : 300 < (m0.subs[i].data.length : Int)
    · rw [ifd h, decide_eq_false (by omega)]; rfl
    · rw [ifn h, decide_eq_true (by omega), Bool.true_and]
theorem few0_loop {m0 : Msg} {n : Nat} (h0 : m0.list.length ≤ 300) (h1 : m0.subs.length ≤ 60) (hn : 1000 ≤ n) : ∀ (d m i : Nat), i + d = m0.list.length → d < m → L_ref07_Few_0 n m m0 i = some (((m0.list.drop i).all (fun s => decide (s.addr.length ≤ 50)) && m0.subs.all fun s => decide (s.data.length ≤ 300), ()), ()) := by
  intro d
  induction d with
  | zero =>
    intro m i hd hm
    obtain ⟨m, rfl⟩ : ∃ k, m = k + 1 := ⟨m - 1, by omega⟩
    have := few1_loop (n := n) h1 m0.subs.length n 0 (by omega) (by omega)
    rw [show ((0 : Nat) : Int) = 0 from rfl, List.drop_zero] at this
    rw [L_ref07_Few_0_eq, ifn (by omega), List.drop_eq_nil_of_le (by omega), this]; rfl
  | succ d ih =>
    intro m i hd hm
    obtain ⟨m, rfl⟩ : ∃ k, m = k + 1 := ⟨m - 1, by omega⟩
    have ha : i < m0.list.length := by omega
    have := ih m (i + 1) (by omega) (by omega)
    rw [show ((i + 1 : Nat) : Int) = (i : Int) + 1 by omega] at this
    rw [L_ref07_Few_0_eq, ifd (by omega), if_pos (by omega), Int.toNat_natCast, bind_at ha, w64 (by omega) (by omega), this, List.drop_eq_getElem_cons ha, List.all_cons]
    by_cases h : 50 < (m0.list[i].addr.length : Int)
    · rw [ifd h, decide_eq_false (by omega)]; rfl
    · rw [ifn h, decide_eq_true (by omega), Bool.true_and]
theorem few_is {m : Msg} (g : GoodMsg m) : ∃ b, g_ref07_Few (m, ()) = some ((b, ()), ()) ∧ (b = true → Few m) := by
  obtain ⟨g1, g2, g3, g4, g5, g6⟩ := g
  show ∃ b, h_ref07_Few fuel _ = _ ∧ _
  rw [h_ref07_Few_eq, w64 (by omega) (by omega), w64 (by omega) (by omega), w64 (by omega) (by omega)]
  by_cases c1 : (300 : Int) < m.list.length
  · rw [ifd c1]; exact ⟨_, rfl, by simp⟩
  by_cases c2 : (60 : Int) < m.subs.length
  · rw [ifn c1, ifd c2]; exact ⟨_, rfl, by simp⟩
  by_cases c3 : (200 : Int) < m.auth.length + m.prefix_.length
  · rw [ifn c1, ifn c2, ifd c3]; exact ⟨_, rfl, by simp⟩
  by_cases c4 : (200 : Int) < m.next.length + m.id.length
  · rw [ifn c1, ifn c2, ifn c3, ifd c4]; exact ⟨_, rfl, by simp⟩
  by_cases c5 : (200 : Int) < m.addr.length + m.orig.length
  · rw [ifn c1, ifn c2, ifn c3, ifn c4, ifd c5]; exact ⟨_, rfl, by simp⟩
  by_cases c6 : (300 : Int) < m.data.length
  · rw [ifn c1, ifn c2, ifn c3, ifn c4, ifn c5, ifd c6]; exact ⟨_, rfl, by simp⟩
  have := few0_loop (m0 := m) (n := fuel) (by omega) (by omega) (Nat.le_of_lt (fuel_ge (by omega))) m.list.length fuel 0 (by omega) (fuel_ge (by omega))
  rw [show ((0 : Nat) : Int) = 0 from rfl, List.drop_zero] at this
  rw [ifn c1, ifn c2, ifn c3, ifn c4, ifn c5, ifn c6, this]
  refine ⟨_, rfl, fun h => ?_⟩
  simp only [Bool.and_eq_true, List.all_eq_true, decide_eq_true_eq] at h
  exact ⟨by omega, by omega, by omega, by omega, by omega, by omega, h.1, h.2⟩
def bareOf (m : Msg) : Option Msg :=
  if m.kind = 1 then some ⟨m.kind, m.cmd, m.ver, m.auth, m.family, 0, m.prefix_, m.plen, m.tag, m.next, m.metric, [], 0, 0, 0, 0, 0, 0, 0, [], [], [], 0, [], []⟩
  else if m.kind = 2 then some ⟨m.kind, m.cmd, 0, [], 0, 0, m.prefix_, m.plen, m.tag, m.next, m.metric, [], 0, 0, 0, 0, 0, 0, 0, [], [], [], 0, [], []⟩
  else if m.kind = 3 then some ⟨m.kind, 0, 0, [], 0, 0, [], 0, 0, [], 0, [], m.seq, m.seq2, 0, m.flags, m.hops, m.nonce, 0, m.addr, m.orig, [], 0, [], m.subs⟩
  else if m.kind = 4 then some ⟨m.kind, 0, 0, [], 0, 0, [], m.plen, 0, [], 0, [], m.seq, 0, m.interval, m.flags, m.hops, 0, 0, m.addr, m.orig, [], 0, [], m.subs⟩
  else if m.kind = 5 then some ⟨m.kind, 0, 0, [], 0, 0, [], 0, 0, [], 0, [], 0, 0, 0, m.flags, 0, 0, 0, [], [], m.list, 0, [], m.subs⟩
  else if m.kind = 6 then some ⟨m.kind, 0, 0, [], 0, 0, [], 0, 0, [], 0, [], 0, 0, 0, 0, 0, 0, 0, [], [], [], 0, [], m.subs⟩
  else if m.kind = 7 then some ⟨m.kind, 0, 0, [], 0, 0, [], 0, 0, [], 0, [], 0, 0, m.interval, 0, 0, m.nonce, 0, [], [], [], 0, [], m.subs⟩
  else if m.kind = 8 then some ⟨m.kind, 0, 0, [], 0, 0, [], 0, 0, [], 0, [], 0, 0, 0, 0, 0, m.nonce, 0, [], [], [], 0, [], m.subs⟩
  else if m.kind = 9 then some ⟨m.kind, 0, 0, [], 0, 0, [], 0, 0, [], 0, [], m.seq, 0, m.interval, m.flags, 0, 0, 0, [], [], [], 0, [], m.subs⟩
  else if m.kind = 10 then some ⟨m.kind, 0, 0, [], 0, m.ae, [], 0, 0, [], 0, [], 0, 0, m.interval, 0, 0, 0, m.cost, m.addr, [], [], 0, [], m.subs⟩
  else if m.kind = 11 then some ⟨m.kind, 0, 0, [], 0, m.ae, m.prefix_, m.plen, 0, m.next, m.metric, m.id, m.seq, 0, m.interval, 0, 0, 0, 0, [], [], [], 0, [], m.subs⟩
  else if m.kind = 12 then some ⟨m.kind, 0, 0, [], 0, m.ae, m.prefix_, m.plen, 0, [], 0, [], 0, 0, 0, 0, 0, 0, 0, [], [], [], 0, [], m.subs⟩
  else if m.kind = 13 then some ⟨m.kind, 0, 0, [], 0, m.ae, m.prefix_, m.plen, 0, [], 0, m.id, m.seq, 0, 0, 0, m.hops, 0, 0, [], [], [], 0, [], m.subs⟩
  else if m.kind = 14 then some ⟨m.kind, 0, 0, [], 0, 0, [], 0, 0, [], 0, [], 0, 0, 0, 0, 0, 0, 0, [], [], [], m.type_, m.data, []⟩
  else none
noncomputable def bareB (m : Msg) : Bool := match bareOf m with | some x => eqB x m | none => false
theorem bq_step {R : Type} {x y : Int} {f t r : R} (heq : x = y → t = r) (hne : x ≠ y → f = r) : (if (x == y) = true then t else f) = r := by
  by_cases h : x = y
  · rw [if_pos (by simp [h])]; exact heq h
  · rw [if_neg (by simp [h])]; exact hne h
theorem band3 {A B C S : Bool} (h : S = (A && B && C)) : (if A = true then (if B = true then (some ((C, ()), ()) : Option ((Bool × Unit) × Unit)) else some ((false, ()), ())) else some ((false, ()), ())) = some ((S, ()), ()) := by
  subst h; cases A <;> cases B <;> rfl
theorem band2 {A B S : Bool} (h : S = (A && B)) : (if A = true then (if B = true then (some ((true, ()), ()) : Option ((Bool × Unit) × Unit)) else some ((false, ()), ())) else some ((false, ()), ())) = some ((S, ()), ()) := by
  subst h; cases A <;> cases B <;> rfl
theorem band1 {A S : Bool} (h : S = A) : (if A = true then (some ((true, ()), ()) : Option ((Bool × Unit) × Unit)) else some ((false, ()), ())) = some ((S, ()), ()) := by
  subst h; cases S <;> rfl
theorem eqB_true' {α : Type} {a b : α} : eqB a b = true ↔ b = a := by rw [eqB_true]; exact eq_comm
theorem len_nil {α : Type} (l : List α) : ((l.length : Int) = 0) ↔ l = [] := by cases l <;> simp; omega
theorem bare_is {m : Msg} : g_msg_Bare (m, ()) = some ((bareB m, ()), ()) := by
  obtain ⟨kind, cmd, ver, auth, family, ae, pre, plen, tag, next, metric, id, seq, seq2, interval, flags, hops, nonce, cost, addr, orig, list, typ, data, subs⟩ := m
  rw [g_msg_Bare_eq, g_msg_strip_eq, Option.bind_some]
  dsimp only
  repeat' first | (exfalso; omega) | refine bq_step (fun h => ?_) (fun h => ?_)
  all_goals first | refine band3 ?_ | refine band2 ?_ | refine band1 ?_ | skip
  all_goals (try (subst kind))
  all_goals rw [bareB, bareOf]
  all_goals (try simp only [*, if_true, if_false])
  all_goals first | rfl | skip
  all_goals rw [Bool.eq_iff_iff]
  all_goals simp only [eqB_true', S_api_Msg.mk.injEq, Bool.and_eq_true, beq_iff_eq, len_nil]
  all_goals (simp only [true_and, and_true, and_self]; first | done | (constructor <;> (intro h; simp only [h, and_self])))
end Go.VP
set_option linter.unusedVariables false
set_option linter.unusedSimpArgs false
set_option maxRecDepth 100000
namespace Go.VP
open Go Go.VI
def Small (m : Msg) : Prop := m.list.length ≤ 1000000000 ∧ m.subs.length ≤ 1000000000
theorem eqB_cons (x y : Msg) (p q : List Msg) : (if (!(eqB x y)) = true then (some ((false, ()), ()) : Option ((Bool × Unit) × Unit)) else some ((eqB p q, ()), ())) = some ((eqB (x :: p) (y :: q), ()), ()) := by
  by_cases he : x = y
  · subst he
    rw [eqB_refl, ifnt]
    have : eqB p q = eqB (x :: p) (x :: q) := by simp [eqB]
    rw [this]
  · rw [eqB_false he, ifnf, eqB_false]
    intro e; injection e with e _; exact he e
theorem sameE_loop {a b : List Msg} {n : Nat} (hab : a.length = b.length) (hl : a.length ≤ 1000000) (hs : ∀ m ∈ a, Small m) : ∀ (d m i : Nat), i + d = a.length → d < m → L_ref07_SameAll_0 n m a b i = some ((eqB (a.drop i) (b.drop i), ()), ()) := by
  intro d
  induction d with
  | zero =>
    intro m i hd hm
    obtain ⟨m, rfl⟩ : ∃ k, m = k + 1 := ⟨m - 1, by omega⟩
    rw [L_ref07_SameAll_0_eq, ifn (by omega), List.drop_eq_nil_of_le (by omega), List.drop_eq_nil_of_le (by omega), eqB_refl]
  | succ d ih =>
    intro m i hd hm
    obtain ⟨m, rfl⟩ : ∃ k, m = k + 1 := ⟨m - 1, by omega⟩
    have hi : i < a.length := by omega
    have hib : i < b.length := by omega
    have := ih m (i + 1) (by omega) (by omega)
    rw [show ((i + 1 : Nat) : Int) = (i : Int) + 1 by omega] at this
    have hm' := hs _ (List.getElem_mem hi)
    have hp : 0 ≤ (i : Int) := by omega
    rw [L_ref07_SameAll_0_eq, ifd (by omega)]
    simp only [if_pos hp, Int.toNat_natCast, List.getElem?_eq_getElem hi, List.getElem?_eq_getElem hib, Option.bind_some]
    rw [same_is hm'.1 hm'.2, Option.bind_some, w64 (by omega) (by omega), this, List.drop_eq_getElem_cons hi, List.drop_eq_getElem_cons hib]
    exact eqB_cons _ _ _ _
theorem sameE_is {a b : List Msg} (hl : a.length ≤ 1000000) (hs : ∀ m ∈ a, Small m) : g_ref07_SameAll (a, b, ()) = some ((eqB a b, ()), ()) := by
  show h_ref07_SameAll fuel (a, b, ()) = _
  rw [h_ref07_SameAll_eq]
  refine ne_step (fun h => ?_) (fun h => ?_)
  · rw [eqB_false]; intro e; subst e; exact h rfl
  · exact sameE_loop (n := fuel) (by omega) hl hs a.length fuel 0 (by omega) (fuel_ge (by omega))
theorem sameA_is {a : List Msg} (hl : a.length ≤ 1000000) (hs : ∀ m ∈ a, Small m) : g_ref07_SameAll (a, a, ()) = some ((true, ()), ()) := by
  rw [sameE_is hl hs, eqB_refl]
theorem goodMsgA {m : Msg} (g : Good_api_Msg m) : GoodMsg m := by
  obtain ⟨g1, g2, g3, g4, g5, g6, g7, g8, g9, g10, g11, g12, g13, g14, g15, g16, g17, g18, g19, g20, g21, _⟩ := g
  exact ⟨g4, g7, g10, g12, g20, g21⟩
theorem fewA_loop {a : List Msg} {n : Nat} (g : ∀ m ∈ a, GoodMsg m) (hl : a.length ≤ 1000) : ∀ (d m i : Nat), i + d = a.length → d < m → ∃ b, L_ref07_FewAll_0 n m a i = some ((b, ()), ()) ∧ (b = true → ∀ m ∈ a.drop i, Few m) := by
  intro d
  induction d with
  | zero =>
    intro m i hd hm
    obtain ⟨m, rfl⟩ : ∃ k, m = k + 1 := ⟨m - 1, by omega⟩
    rw [L_ref07_FewAll_0_eq, ifn (by omega)]
    exact ⟨true, rfl, fun _ m hm => by rw [List.drop_eq_nil_of_le (by omega)] at hm; cases hm⟩
  | succ d ih =>
    intro m i hd hm
    obtain ⟨m, rfl⟩ : ∃ k, m = k + 1 := ⟨m - 1, by omega⟩
    have hi : i < a.length := by omega
    obtain ⟨b, h1, h2⟩ := ih m (i + 1) (by omega) (by omega)
    rw [show ((i + 1 : Nat) : Int) = (i : Int) + 1 by omega] at h1
    obtain ⟨c, k1, k2⟩ := few_is (g _ (List.getElem_mem hi))
    rw [L_ref07_FewAll_0_eq, ifd (by omega), if_pos (by omega), Int.toNat_natCast, bind_at hi, k1, Option.bind_some, w64 (by omega) (by omega), h1]
    cases c with
    | false => exact ⟨false, rfl, fun h => by cases h⟩
    | true =>
      refine ⟨b, rfl, fun h m hm => ?_⟩
      rw [List.drop_eq_getElem_cons hi] at hm
      rcases List.mem_cons.1 hm with rfl | hm
      · exact k2 rfl
      · exact h2 h m hm
theorem fewA_is {a : List Msg} {k : Int} (hk : k ≤ 1000) (g : ∀ m ∈ a, GoodMsg m) : ∃ b, g_ref07_FewAll (a, k, ()) = some ((b, ()), ()) ∧ (b = true → a.length ≤ k ∧ ∀ m ∈ a, Few m) := by
  show ∃ b, h_ref07_FewAll fuel (a, k, ()) = _ ∧ _
  rw [h_ref07_FewAll_eq]
  by_cases h : k < (a.length : Int)
  · rw [ifd h]; exact ⟨false, rfl, fun h => by cases h⟩
  · rw [ifn h]
    obtain ⟨b, h1, h2⟩ := fewA_loop (n := fuel) g (by omega) a.length fuel 0 (by omega) (fuel_ge (by omega))
    exact ⟨b, h1, fun hb => ⟨by omega, fun m hm => h2 hb m (by simpa using hm)⟩⟩
end Go.VP
set_option linter.unusedVariables false
set_option linter.unusedSimpArgs false
set_option maxRecDepth 100000
namespace Go.VP
open Go Go.VI
def linkP : Bs := [254, 128, 0, 0, 0, 0, 0, 0]
def linkB (a : Bs) : Bool := decide (a.length = 16) && (a.take 8 == linkP)
theorem hasP_is (a p : Bs) : g_strings_HasPrefix (a, p, ()) = some ((decide (p.length ≤ a.length) && (a.take p.length == p), ()), ()) := by
  rw [g_strings_HasPrefix_eq, g_internal_stringslite_HasPrefix_eq]
  by_cases h : p.length ≤ a.length
  · rw [ifd (by omega), if_pos (by omega), Option.bind_some, Int.toNat_natCast, decide_eq_true h]; rfl
  · rw [ifn (by omega), Option.bind_some, decide_eq_false h]; rfl
theorem link_is (a : Bs) : g_addr_Link (a, ()) = some ((linkB a, ()), ()) := by
  rw [g_addr_Link_eq, hasP_is, Option.bind_some]
  unfold linkB
  by_cases h : a.length = 16
  · rw [if_pos (by simp; omega), decide_eq_true h]
    have : decide (([254, 128, 0, 0, 0, 0, 0, 0] : Bs).length ≤ a.length) = true := by simp; omega
    rw [this]; rfl
  · rw [if_neg (by simp; omega), decide_eq_false h]; rfl
theorem linkB_len {a : Bs} (h : linkB a = true) : a.length = 16 ∧ a.take 8 = linkP := by
  simpa [linkB] using h
def shortF (a : Bs) : Bs × Bool := if linkB a = true then (a.drop 8, true) else ([], false)
theorem short_is (a : Bs) : g_addr_Short (a, ()) = some (((shortF a).1, (shortF a).2, ()), ()) := by
  rw [g_addr_Short_eq, link_is, Option.bind_some]
  unfold shortF
  dsimp only
  by_cases h : linkB a = true
  · have := linkB_len h
    rw [h, ifnt, if_pos (by omega), ift]
  · rw [Bool.not_eq_true] at h
    rw [h, ifnf, iff_]
def longF (s : Bs) : Bs × Bool := if s.length = 8 then (linkP ++ s, true) else ([], false)
theorem long_is (s : Bs) : g_addr_Long (s, ()) = some (((longF s).1, (longF s).2, ()), ()) := by
  rw [g_addr_Long_eq]
  unfold longF
  by_cases h : s.length = 8
  · rw [if_neg (by simp; omega), if_pos (maxB_of (by omega)), if_pos h]; rfl
  · rw [if_pos (by simp; omega), if_neg h]
def famF (a : Bs) : Int := if a.length = 4 then 0 else if a.length = 16 then 1 else -1
theorem fam_is (a : Bs) : g_addr_Family (a, ()) = some ((famF a, ()), ()) := by
  rw [g_addr_Family_eq]
  unfold famF
  by_cases h : a.length = 4
  · rw [if_pos (by simp; omega), if_pos h]
  · rw [if_neg (by simp; omega), if_neg h]
    by_cases h2 : a.length = 16
    · rw [if_pos (by simp; omega), if_pos h2]
    · rw [if_neg (by simp; omega), if_neg h2]
theorem link_long {s : Bs} (h : s.length = 8) : linkB (linkP ++ s) = true := by
  unfold linkB
  have e : (linkP ++ s).take 8 = linkP := by rw [List.take_append_of_le_length (by decide)]; rfl
  rw [e]
  simp [linkP, h]
theorem link_parts {a : Bs} (h : linkB a = true) : linkP ++ a.drop 8 = a := by
  rw [← (linkB_len h).2, List.take_append_drop]
end Go.VP
set_option linter.unusedVariables false
set_option linter.unusedSimpArgs false
set_option maxRecDepth 100000
namespace Go.VP
open Go Go.VI
def maskN (b k : Nat) : Nat := b / 2 ^ (8 - k) * 2 ^ (8 - k)
def maskB (b : UInt8) (k : Int) : UInt8 := UInt8.ofNat (maskN b.toNat (min k.toNat 8))
theorem maskN_le (b k : Nat) : maskN b k ≤ b := Nat.div_mul_le_self ..
theorem maskB_toNat (b : UInt8) (k : Int) : (maskB b k).toNat = maskN b.toNat (min k.toNat 8) := by
  have := maskN_le b.toNat (min k.toNat 8); have := b.toNat_lt
  unfold maskB; rw [UInt8.toNat_ofNat']; omega
theorem maskB_all {b : UInt8} {k : Int} (h : 8 ≤ k) : maskB b k = b := by
  apply UInt8.toNat.inj
  rw [maskB_toNat, show min k.toNat 8 = 8 by omega]; simp [maskN]
theorem maskB_none {b : UInt8} {k : Int} (h : k ≤ 0) : maskB b k = 0 := by
  apply UInt8.toNat.inj
  have := b.toNat_lt
  rw [maskB_toNat, show min k.toNat 8 = 0 by omega]; simp [maskN]; omega
def keepF : Bs → Int → Bs
  | [], _ => []
  | b :: r, n => maskB b n :: keepF r (n - 8)
theorem keepF_length : ∀ (s : Bs) (n : Int), (keepF s n).length = s.length
  | [], _ => rfl
  | b :: r, n => by simp [keepF, keepF_length r]
theorem keepF_all : ∀ {s : Bs} {n : Int}, 8 * (s.length : Int) ≤ n → keepF s n = s
  | [], _, _ => rfl
  | b :: r, n, h => by simp only [List.length_cons] at h; rw [keepF, maskB_all (by omega), keepF_all (by omega)]
theorem keepF_none : ∀ {s : Bs} {n : Int}, n ≤ 0 → keepF s n = List.replicate s.length 0
  | [], _, _ => rfl
  | b :: r, n, h => by rw [keepF, maskB_none h, keepF_none (by omega), List.length_cons, List.replicate_succ]
theorem keepF_append : ∀ (a b : Bs) (n : Int), keepF (a ++ b) n = keepF a n ++ keepF b (n - 8 * a.length)
  | [], b, n => by simp [keepF]
  | x :: a, b, n => by simp only [List.cons_append, keepF, keepF_append a b, List.length_cons]; congr 3; omega
theorem keepF_mid {s : Bs} {n : Int} (h0 : 0 ≤ n) (h : n < 8 * s.length) : keepF s n = s.take (n / 8).toNat ++ maskB (s[(n / 8).toNat]'(by omega)) (n % 8) :: List.replicate (s.length - (n / 8).toNat - 1) 0 := by
  have hk : (n / 8).toNat < s.length := by omega
  have e : s = s.take (n / 8).toNat ++ (s[(n / 8).toNat] :: s.drop ((n / 8).toNat + 1)) := by rw [← List.drop_eq_getElem_cons hk, List.take_append_drop]
  have hl : (s.take (n / 8).toNat).length = (n / 8).toNat := by rw [List.length_take]; omega
  have := congrArg (fun x => keepF x n) e
  rw [this, keepF_append, hl, keepF_all (by omega), keepF, keepF_none (by omega), List.length_drop]
  congr 3
  all_goals omega
theorem andnot_all : ∀ y : Fin 256, ∀ j : Fin 8, (u8of (ibits .andNot .u8 (y.val : Int) (ishr .u8 255 (j.val : Int)))).toNat = maskN y.val j.val := by decide +kernel
theorem ib64_and7 {n : Int} (h0 : 0 ≤ n) (h : n ≤ 9223372036854775807) : ibits .and .i64 n 7 = n % 8 := by
  obtain ⟨a, rfl⟩ : ∃ a : Nat, n = a := ⟨n.toNat, by omega⟩
  unfold ibits
  show IntKind.wrap .i64 (((BitVec.ofInt 64 (a : Int) &&& BitVec.ofInt 64 ((7 : Nat) : Int)).toNat : Nat) : Int) = _
  have e : a &&& 7 = a % 8 := Nat.and_two_pow_sub_one_eq_mod a 3
  rw [BitVec.toNat_and, BitVec.ofInt_natCast, BitVec.ofInt_natCast, BitVec.toNat_ofNat, BitVec.toNat_ofNat, Nat.mod_eq_of_lt (by omega), Nat.mod_eq_of_lt (by omega), e, w64 (by omega) (by omega)]
  omega
theorem ishr3 {n : Int} (h0 : 0 ≤ n) : ishr .i64 n 3 = n / 8 := by
  unfold ishr
  rw [show ((2 : Int) ^ min (3 : Int).toNat IntKind.i64.bits) = 8 by decide]
  exact Int.fdiv_eq_ediv_of_nonneg _ (by decide)
theorem keep_is {s : Bs} {n : Int} (hs : s.length ≤ 1000000000) (hn : IntKind.has .i64 n) : g_bits_Keep (s, n, ()) = some ((keepF s n, ()), ()) := by
  rw [has64] at hn
  rw [g_bits_Keep_eq, w64 (x := 8 * (s.length : Int)) (by omega) (by omega)]
  by_cases h1 : 8 * (s.length : Int) ≤ n
  · rw [ifd h1, keepF_all h1]
  · rw [ifn h1, if_pos (show 0 ≤ (s.length : Int) ∧ (s.length : Int) ≤ roomI by unfold roomI; omega)]
    by_cases h2 : n ≤ 0
    · rw [ifd h2, keepF_none h2, Int.toNat_natCast]
    · rw [ifn h2, ishr3 (by omega), ib64_and7 (by omega) (by omega), wu64 (by omega) (by omega), if_pos (show 0 ≤ n / 8 ∧ n / 8 ≤ (s.length : Int) by omega), if_pos (show 0 ≤ n / 8 by omega)]
      have hk : (n / 8).toNat < s.length := by omega
      have hl : ((s.take (n / 8).toNat).take ((List.replicate (s.length : Int).toNat (0 : UInt8)).length) ++ (List.replicate (s.length : Int).toNat (0 : UInt8)).drop (s.take (n / 8).toNat).length).length = s.length := by
        simp; omega
      rw [bind_at hk, if_pos (show 0 ≤ n % 8 by omega), hl, if_pos (show 0 ≤ n / 8 ∧ n / 8 < (s.length : Int) by omega), if_pos hk, keepF_mid (by omega) (by omega)]
      have e1 : u8of (ibits .andNot .u8 ((s[(n / 8).toNat].toNat : Nat) : Int) (ishr .u8 255 (n % 8))) = maskB s[(n / 8).toNat] (n % 8) := by
        apply UInt8.toNat.inj
        have := andnot_all ⟨s[(n / 8).toNat].toNat, s[(n / 8).toNat].toNat_lt⟩ ⟨(n % 8).toNat, by omega⟩
        dsimp only at this
        rw [show (((n % 8).toNat : Nat) : Int) = n % 8 by omega] at this
        rw [this, maskB_toNat, show min (n % 8).toNat 8 = (n % 8).toNat by omega]
      have e2 : (s.take (n / 8).toNat).length = (n / 8).toNat := by rw [List.length_take]; omega
      have e3 : (s.take (n / 8).toNat).take ((List.replicate (s.length : Int).toNat (0 : UInt8)).length) = s.take (n / 8).toNat := List.take_of_length_le (by simp; omega)
      have e4 : (List.replicate (s.length : Int).toNat (0 : UInt8)).drop (n / 8).toNat = 0 :: List.replicate (s.length - (n / 8).toNat - 1) 0 := by
        rw [List.drop_replicate, Int.toNat_natCast, show s.length - (n / 8).toNat = (s.length - (n / 8).toNat - 1) + 1 by omega, List.replicate_succ]
        simp
      rw [e1, e3, e2, e4, List.set_append_right _ _ (by omega), e2, Nat.sub_self, List.set_cons_zero]
def cleanB (s : Bs) (n : Int) : Bool := keepF s n == s
theorem clean_is {s : Bs} {n : Int} (hs : s.length ≤ 1000000000) (hn : IntKind.has .i64 n) : g_bits_Clean (s, n, ()) = some ((cleanB s n, ()), ()) := by
  rw [g_bits_Clean_eq, keep_is hs hn]; rfl
def leastF (n : Int) : Int := if n < 0 then 0 else (n + 7) / 8
theorem least_is {n : Int} (h : n ≤ 9000000000000000000) : g_prefix_Least (n, ()) = some ((leastF n, ()), ()) := by
  rw [g_prefix_Least_eq]
  unfold leastF
  by_cases h0 : n < 0
  · rw [if_pos (show 0 > n from h0), if_pos h0]; rfl
  · rw [if_neg (show ¬ 0 > n from h0), if_neg h0, w64 (by omega) (by omega), ishr3 (by omega)]
def fillF (s : Bs) (n : Int) : Bs := s ++ List.replicate (n.toNat - s.length) 0
theorem fill_is {s : Bs} {n : Int} (h : n ≤ 1000000000) : g_prefix_Fill (s, n, ()) = some ((fillF s n, ()), ()) := by
  rw [g_prefix_Fill_eq]
  unfold fillF
  by_cases h0 : n ≤ (s.length : Int)
  · rw [ifd h0, show n.toNat - s.length = 0 by omega]; simp
  · rw [ifn h0, if_pos (by unfold roomI; omega), List.length_replicate, List.take_of_length_le (by omega), List.drop_replicate]
def cutF (a : Bs) (n : Int) : Bs := keepF (a.take (leastF n).toNat) n
theorem leastF_nn (n : Int) : 0 ≤ leastF n := by unfold leastF; split <;> omega
theorem min_toNat (a : Bs) (n : Int) (h : 0 ≤ n) : 0 ≤ (if (a.length : Int) < n then (a.length : Int) else n) ∧ (if (a.length : Int) < n then (a.length : Int) else n) ≤ (a.length : Int) ∧ a.take (if (a.length : Int) < n then (a.length : Int) else n).toNat = a.take n.toNat := by
  split
  · refine ⟨by omega, by omega, ?_⟩
    rw [Int.toNat_natCast, List.take_length, List.take_of_length_le (by omega)]
  · exact ⟨by omega, by omega, rfl⟩
theorem pcut_is {a : Bs} {n : Int} (ha : a.length ≤ 1000000000) (hn : IntKind.has .i64 n) (h : n ≤ 9000000000000000000) : g_prefix_Cut (a, n, ()) = some ((cutF a n, ()), ()) := by
  obtain ⟨m1, m2, m3⟩ := min_toNat a (leastF n) (leastF_nn n)
  rw [g_prefix_Cut_eq, least_is h, Option.bind_some]
  dsimp only
  rw [if_pos ⟨m1, m2⟩, m3, keep_is (by rw [List.length_take]; omega) hn]; rfl
theorem keepF_take (a : Bs) (n : Int) : ∀ k : Nat, (keepF a n).take k = keepF (a.take k) n := by
  intro k
  induction a generalizing n k with
  | nil => simp [keepF]
  | cons b r ih =>
    cases k with
    | zero => simp [keepF]
    | succ k => simp [keepF, ih]
end Go.VP
set_option linter.unusedVariables false
set_option linter.unusedSimpArgs false
set_option maxRecDepth 100000
namespace Go.VP
open Go Go.VI
def addrB (ae : Int) (a : Bs) : Bool := if ae = 0 then a == [] else if ae = 1 then decide (a.length = 4) else if ae = 2 then decide (a.length = 16) else if ae = 3 then linkB a else false
theorem addr_is (ae : Int) (a : Bs) : g_field_address (ae, a, ()) = some ((addrB ae a, ()), ()) := by
  rw [g_field_address_eq, fam_is, link_is]
  unfold addrB
  refine bq_step (fun h => ?_) (fun h => ?_)
  · rw [if_pos h]
  rw [if_neg h]
  refine bq_step (fun h => ?_) (fun h => ?_)
  · rw [if_pos h, Option.bind_some]
    unfold famF; split
    · simp [*]
    · split <;> simp [*]
  rw [if_neg h]
  refine bq_step (fun h => ?_) (fun h => ?_)
  · rw [if_pos h, Option.bind_some]
    unfold famF; split
    · simp [*]
    · split <;> simp [*]
  rw [if_neg h]
  refine bq_step (fun h => ?_) (fun h => ?_)
  · rw [if_pos h, Option.bind_some]
  rw [if_neg h]
def kindF (m : Msg) : Bool := if m.kind = 7 then true else if m.kind = 8 then true else if m.kind = 9 then (m.flags == 0 || m.flags == 1) else if m.kind = 10 then addrB m.ae m.addr else false
noncomputable def fieldB (m : Msg) : Bool := fitsB m.nonce 2 && (fitsB m.interval 2 && (fitsB m.seq 2 && (fitsB m.cost 2 && (bareB m && (rightB m.subs && kindF m)))))
structure GoodM (m : Msg) : Prop where
  few : Lite m
  nonce : IntKind.has .i64 m.nonce
  interval : IntKind.has .i64 m.interval
  seq : IntKind.has .i64 m.seq
  cost : IntKind.has .i64 m.cost
  kind : IntKind.has .i64 m.kind
  flags : IntKind.has .i64 m.flags
  ae : IntKind.has .i64 m.ae
  plen : IntKind.has .i64 m.plen
  hops : IntKind.has .i64 m.hops
theorem kindF_is {m : Msg} {c : Option ((Bool × Unit) × Unit)} (hc : c = some ((addrB m.ae m.addr, ()), ())) :
  (if (m.kind == 7) = true then (if (m.kind == 7) = true then some ((true, ()), ()) else (if (m.kind == 9) = true then (if (m.flags == 0) = true then some ((true, ()), ()) else some (((m.flags == 1), ()), ())) else (if (m.kind == 10) = true then (c.bind fun r5 => some ((r5.1.1, ()), ())) else some ((false, ()), ())))) else (if (m.kind == 8) = true then some ((true, ()), ()) else (if (m.kind == 9) = true then (if (m.flags == 0) = true then some ((true, ()), ()) else some (((m.flags == 1), ()), ())) else (if (m.kind == 10) = true then (c.bind fun r6 => some ((r6.1.1, ()), ())) else some ((false, ()), ()))))) = some ((kindF m, ()), ()) := by
  subst hc
  unfold kindF
  refine bq_step (fun h => ?_) (fun h => ?_)
  · rw [if_pos h, if_pos (by simp [h])]
  rw [if_neg h]
  refine bq_step (fun h => ?_) (fun h => ?_)
  · rw [if_pos h]
  rw [if_neg h]
  refine bq_step (fun h => ?_) (fun h => ?_)
  · rw [if_pos h]
    refine bq_step (fun h2 => ?_) (fun h2 => ?_)
    · simp [h2]
    · have : (m.flags == 0) = false := by simpa using h2
      rw [this, Bool.false_or]
  rw [if_neg h]
  refine bq_step (fun h => ?_) (fun h => ?_)
  · rw [if_pos h, Option.bind_some]
  rw [if_neg h]
theorem right_is {m : Msg} (g : GoodM m) : g_field_Right (m, ()) = some ((fieldB m, ()), ()) := by
  have f2 : ∀ {n : Int}, IntKind.has .i64 n → g_octet_Fits (n, 2, ()) = some ((fitsB n 2, ()), ()) := fun h => fits_is (k := 2) h (by omega) (by omega)
  obtain ⟨c, hc⟩ := fuel_pos
  show h_field_Right fuel _ = _
  rw [h_field_Right_eq, show ([m.nonce, m.interval, m.seq, m.cost] : List Int).length = 4 from rfl]
  have e0 : fuel = (c + 999999999995) + 5 := by omega
  have st : ∀ (k : Nat) (i : Nat) (x : Int), [m.nonce, m.interval, m.seq, m.cost][i]? = some x → i < 4 → IntKind.has .i64 x → L_field_Right_0 fuel (k + 1) m [m.nonce, m.interval, m.seq, m.cost] ((4 : Nat) : Int) i = (if (!fitsB x 2) = true then some ((false, ()), ()) else L_field_Right_0 fuel k m [m.nonce, m.interval, m.seq, m.cost] ((4 : Nat) : Int) ((i + 1 : Nat) : Int)) := by
    intro k i x hx hi hh
    rw [L_field_Right_0_eq, ifd (by omega), if_pos (by omega), Int.toNat_natCast, hx, Option.bind_some, f2 hh, Option.bind_some, w64 (by omega) (by omega)]
    rfl
  have last : ∀ k, L_field_Right_0 fuel (k + 1) m [m.nonce, m.interval, m.seq, m.cost] ((4 : Nat) : Int) ((4 : Nat) : Int) = some ((bareB m && (rightB m.subs && kindF m), ()), ()) := by
    intro k
    rw [L_field_Right_0_eq, ifn (by omega), bare_is, Option.bind_some, sright_is g.few.fewS, Option.bind_some]
    dsimp only
    rw [kindF_is (addr_is _ _)]
    cases bareB m
    · rfl
    · cases rightB m.subs <;> rfl
  have := st (c + 999999999999) 0 m.nonce rfl (by omega) g.nonce
  rw [show c + 999999999999 + 1 = fuel by omega] at this
  rw [show (0 : Int) = ((0 : Nat) : Int) from rfl, this]
  have := st (c + 999999999998) 1 m.interval rfl (by omega) g.interval
  rw [this]
  have := st (c + 999999999997) 2 m.seq rfl (by omega) g.seq
  rw [this]
  have := st (c + 999999999996) 3 m.cost rfl (by omega) g.cost
  rw [this]
  have := last (c + 999999999995)
  rw [this]
  unfold fieldB
  cases fitsB m.nonce 2
  · rfl
  · cases fitsB m.interval 2
    · rfl
    · cases fitsB m.seq 2
      · rfl
      · cases fitsB m.cost 2 <;> rfl
def fieldsF (m : Msg) : Bs :=
  if m.kind = 7 then be 2 0 ++ (be 2 m.nonce ++ be 2 m.interval)
  else if m.kind = 8 then be 2 m.nonce
  else if m.kind = 9 then be 2 (32768 * m.flags) ++ (be 2 m.seq ++ be 2 m.interval)
  else be 2 (256 * m.ae) ++ (be 2 m.cost ++ (be 2 m.interval ++ (if m.ae = 3 then m.addr.drop 8 else m.addr)))
noncomputable def fieldPut (m : Msg) : Bs × Bool := if fieldB m = true then tput (m.kind - 5) (fieldsF m ++ encS m.subs) else ([], false)
theorem be2 {n : Int} (h : 0 ≤ n ∧ n < 65536) : [u8of (IntKind.wrap .u8 (ishr .i64 n 8)), u8of (IntKind.wrap .u8 n)] = be 2 n := by
  have e : ishr .i64 n 8 = n / 256 := by
    unfold ishr
    rw [show ((2 : Int) ^ min (8 : Int).toNat IntKind.i64.bits) = 256 by decide]
    exact Int.fdiv_eq_ediv_of_nonneg _ (by decide)
  rw [e, wu8, wu8]; rfl
theorem two_loop {l : List Int} {n : Nat} (hl : l.length ≤ 10) (hr : ∀ x ∈ l, 0 ≤ x ∧ x < 65536) : ∀ (d m i : Nat) (b : Bs), i + d = l.length → d < m → b.length ≤ 1000 + 2 * i →
    L_field_writer_two_0 n m l i b = some ((), (⟨b ++ (l.drop i).flatMap (be 2)⟩, ())) := by
  intro d
  induction d with
  | zero =>
    intro m i b hd hm hb
    obtain ⟨m, rfl⟩ : ∃ k, m = k + 1 := ⟨m - 1, by omega⟩
    rw [L_field_writer_two_0_eq, ifn (by omega), List.drop_eq_nil_of_le (by omega)]
    simp
  | succ d ih =>
    intro m i b hd hm hb
    obtain ⟨m, rfl⟩ : ∃ k, m = k + 1 := ⟨m - 1, by omega⟩
    have hi : i < l.length := by omega
    have := ih m (i + 1) (b ++ be 2 l[i]) (by omega) (by omega) (by simp [be_length]; omega)
    rw [show ((i + 1 : Nat) : Int) = (i : Int) + 1 by omega] at this
    rw [L_field_writer_two_0_eq, ifd (by omega), if_pos (by omega), Int.toNat_natCast, bind_at hi, if_pos (roomB_of (by simp; omega)), be2 (hr _ (List.getElem_mem hi)), w64 (by omega) (by omega), this, List.drop_eq_getElem_cons hi]
    simp only [List.flatMap_cons, List.append_assoc]
theorem two_is {l : List Int} {b : Bs} (hl : l.length ≤ 10) (hr : ∀ x ∈ l, 0 ≤ x ∧ x < 65536) (hb : b.length ≤ 1000) : g_field_writer_two (⟨b⟩, l, ()) = some ((), (⟨b ++ l.flatMap (be 2)⟩, ())) := by
  show h_field_writer_two fuel _ = _
  rw [h_field_writer_two_eq]
  exact two_loop (n := fuel) hl hr l.length fuel 0 b (by omega) (fuel_ge (by omega)) (by omega)
structure FieldR (m : Msg) : Prop where
  nonce : 0 ≤ m.nonce ∧ m.nonce < 65536
  interval : 0 ≤ m.interval ∧ m.interval < 65536
  seq : 0 ≤ m.seq ∧ m.seq < 65536
  cost : 0 ≤ m.cost ∧ m.cost < 65536
  bare : bareB m = true
  subs : rightB m.subs = true
  kind : kindF m = true
theorem fitsB2 {n : Int} : fitsB n 2 = true ↔ 0 ≤ n ∧ n < 65536 := by simp [fitsB]
theorem fieldR_iff {m : Msg} : fieldB m = true ↔ FieldR m := by
  unfold fieldB
  simp only [Bool.and_eq_true, fitsB2]
  exact ⟨fun ⟨a, b, c, d, e, f, g⟩ => ⟨a, b, c, d, e, f, g⟩, fun h => ⟨h.1, h.2, h.3, h.4, h.5, h.6, h.7⟩⟩
theorem FieldR.kinds {m : Msg} (h : FieldR m) : m.kind = 7 ∨ m.kind = 8 ∨ (m.kind = 9 ∧ (m.flags = 0 ∨ m.flags = 1)) ∨ (m.kind = 10 ∧ addrB m.ae m.addr = true) := by
  have := h.kind
  unfold kindF at this
  split at this
  · omega
  · split at this
    · omega
    · split at this
      · simp at this; exact .inr (.inr (.inl ⟨by assumption, this⟩))
      · split at this
        · exact .inr (.inr (.inr ⟨by assumption, this⟩))
        · cases this
theorem addrB_cases {ae : Int} {a : Bs} (h : addrB ae a = true) : (ae = 0 ∧ a = []) ∨ (ae = 1 ∧ a.length = 4) ∨ (ae = 2 ∧ a.length = 16) ∨ (ae = 3 ∧ linkB a = true) := by
  unfold addrB at h
  split at h
  · simp at h; exact .inl ⟨by assumption, h⟩
  · split at h
    · simp at h; exact .inr (.inl ⟨by assumption, h⟩)
    · split at h
      · simp at h; exact .inr (.inr (.inl ⟨by assumption, h⟩))
      · split at h
        · exact .inr (.inr (.inr ⟨by assumption, h⟩))
        · cases h
theorem ishl_ok {x : Int} {k : Nat} (hx : 0 ≤ x ∧ x < 65536) (hk : k ≤ 15) : ishl .i64 x k = 2 ^ k * x := by
  unfold ishl
  rw [Int.mul_comm]
  have e : min (k : Int).toNat IntKind.i64.bits = k := by simp only [IntKind.bits]; omega
  rw [e]
  have hp : (2 : Int) ^ k ≤ 32768 ∧ 1 ≤ (2 : Int) ^ k := by
    match k, hk with
    | 0, _ | 1, _ | 2, _ | 3, _ | 4, _ | 5, _ | 6, _ | 7, _ | 8, _ | 9, _ | 10, _ | 11, _ | 12, _ | 13, _ | 14, _ | 15, _ => decide
  have h1 : x * 2 ^ k ≤ 65536 * 32768 := Int.mul_le_mul (by omega) hp.1 (by omega) (by omega)
  have h0 : 0 ≤ x * 2 ^ k := Int.mul_nonneg hx.1 (by omega)
  rw [w64 (by omega) (by omega), Int.mul_comm]
theorem putS_r {l : List Sub} (h : rightB l = true) : putS l = (encS l, true) := by unfold putS; rw [if_pos h]
theorem encS_small {l : List Sub} (h : rightB l = true) : (encS l).length ≤ 200 := by
  have := (rightB_split h).2; have := encS_length l; omega
theorem put_is {m : Msg} (g : GoodM m) : g_field_Put (m, ()) = some (((fieldPut m).1, (fieldPut m).2, ()), ()) := by
  rw [g_field_Put_eq, right_is g, Option.bind_some]
  unfold fieldPut
  dsimp only
  by_cases h : fieldB m = true
  · have r := fieldR_iff.1 h
    have hs := sput_is g.few.fewS (by have := g.few.subs; omega)
    rw [putS_r r.subs] at hs
    have hz := encS_small r.subs
    rw [if_neg (by simp [h]), if_pos h, hs]
    simp only [Option.bind_some]
    rcases r.kinds with hk | hk | ⟨hk, hf⟩ | ⟨hk, ha⟩
    · rw [if_pos (by simp [hk]), two_is (by simp) (by have := r.nonce; have := r.interval; simp; omega) (by simp), Option.bind_some]
      dsimp only
      rw [if_pos (maxB_of (by simp [be_length]; omega)), tput_is, w64 (x := m.kind - 7) (by omega) (by omega), w64 (by omega) (by omega)]
      simp [fieldsF, hk]
    · rw [if_neg (by simp [hk]), if_pos (by simp [hk]), two_is (by simp) (by have := r.nonce; simp; omega) (by simp), Option.bind_some]
      dsimp only
      rw [if_pos (maxB_of (by simp [be_length]; omega)), tput_is, w64 (x := m.kind - 7) (by omega) (by omega), w64 (by omega) (by omega)]
      simp [fieldsF, hk]
    · rw [if_neg (by simp [hk]), if_neg (by simp [hk]), if_pos (by simp [hk]), show (15 : Int) = ((15 : Nat) : Int) from rfl, ishl_ok (by omega) (by omega), two_is (by simp) (by have := r.seq; have := r.interval; simp; omega) (by simp), Option.bind_some]
      dsimp only
      rw [if_pos (maxB_of (by simp [be_length]; omega)), tput_is, w64 (x := m.kind - 7) (by omega) (by omega), w64 (by omega) (by omega)]
      simp [fieldsF, hk]
    · have hc := addrB_cases ha
      have hl : m.addr.length ≤ 16 := by rcases hc with ⟨_, h⟩ | ⟨_, h⟩ | ⟨_, h⟩ | ⟨_, h⟩ <;> first | (rw [h]; simp; done) | omega | (have := linkB_len h; omega)
      rw [if_neg (by simp [hk]), if_neg (by simp [hk]), if_neg (by simp [hk]), if_pos (by simp [hk]), show (8 : Int) = ((8 : Nat) : Int) from rfl, ishl_ok (by omega) (by omega), two_is (by simp) (by have := r.cost; have := r.interval; simp; omega) (by simp), Option.bind_some, short_is, Option.bind_some]
      dsimp only
      have fin : ∀ a : Bs, a.length ≤ 16 → fieldsF m = be 2 (256 * m.ae) ++ (be 2 m.cost ++ (be 2 m.interval ++ a)) → (if roomB (([] ++ [2 ^ 8 * m.ae, m.cost, m.interval].flatMap (be 2)).length + a.length) = true then (if maxB ((([] ++ [2 ^ 8 * m.ae, m.cost, m.interval].flatMap (be 2)) ++ a).length + (encS m.subs).length) = true then ((g_frame_Put ((IntKind.wrap .i64 ((IntKind.wrap .i64 (m.kind - 7)) + 2)), ((([] ++ [2 ^ 8 * m.ae, m.cost, m.interval].flatMap (be 2)) ++ a) ++ encS m.subs), ())).bind fun r14 => some ((r14.1.1, r14.1.2.1, ()), ())) else none) else none) = some (((tput (m.kind - 5) (fieldsF m ++ encS m.subs)).1, (tput (m.kind - 5) (fieldsF m ++ encS m.subs)).2, ()), ()) := by
        intro a ha he
        rw [if_pos (roomB_of (by simp [be_length]; omega)), if_pos (maxB_of (by simp [be_length]; omega)), tput_is, w64 (x := m.kind - 7) (by omega) (by omega), w64 (by omega) (by omega), he]
        simp [hk]
      unfold shortF
      by_cases hb : linkB m.addr = true
      · rw [hb, ift, ift]
        dsimp only
        refine bq_step (fun h3 => ?_) (fun h3 => ?_)
        · exact fin _ (by simp; omega) (by simp [fieldsF, hk, h3])
        · exact fin _ hl (by simp [fieldsF, hk, h3])
      · have h3 : m.ae ≠ 3 := fun h3 => by rcases hc with ⟨h, _⟩ | ⟨h, _⟩ | ⟨h, _⟩ | ⟨_, h⟩ <;> first | omega | exact hb h
        rw [Bool.not_eq_true] at hb
        rw [hb, iff_, iff_]
        exact fin _ hl (by simp [fieldsF, hk, h3])
  · rw [Bool.not_eq_true] at h
    rw [h, ifnf, iff_]
end Go.VP
set_option linter.unusedVariables false
set_option linter.unusedSimpArgs false
set_option maxRecDepth 100000
namespace Go.VP
open Go Go.VI
abbrev msg0 : Msg := ⟨0, 0, 0, [], 0, 0, [], 0, 0, [], 0, [], 0, 0, 0, 0, 0, 0, 0, [], [], [], 0, [], []⟩
def finG (F : List Sub → Msg) (x : List Sub × Bool × Int) : Msg × Bool × Int := if (x.2.2 != 0) = true then (msg0, false, x.2.2) else if (!x.2.1) = true then (msg0, false, x.2.2) else (F x.1, true, 0)
theorem finG_some (F : List Sub → Msg) (x : List Sub × Bool × Int) : (if (x.2.2 != 0) = true then (some ((msg0, false, x.2.2, ()), ()) : Option ((Msg × Bool × Int × Unit) × Unit)) else (if (!x.2.1) = true then some ((msg0, false, x.2.2, ()), ()) else some ((F x.1, true, 0, ()), ()))) = some (trip (finG F x), ()) := by
  unfold finG trip
  by_cases h : (x.2.2 != 0) = true
  · rw [if_pos h, if_pos h]
  · rw [if_neg h, if_neg h]
    by_cases h2 : (!x.2.1) = true
    · rw [if_pos h2, if_pos h2]
    · rw [if_neg h2, if_neg h2]
abbrev frd (d : Bs) (p : Int) (b : Bool) : S_field_reader := ⟨d, p, d.length, b⟩
theorem two_ok {d : Bs} {p q : Int} (h : d.length ≤ 1000000) (h0 : 0 ≤ p) (hq : q = p + 2) (h2 : q ≤ d.length) : g_field_reader_two (frd d p false, ()) = some ((num (cut_ d p 2), ()), (frd d q false, ())) := by
  subst hq
  have w : WfC d p d.length := ⟨h0, by omega, by omega, by omega⟩
  rw [g_field_reader_two_eq, num_ok w (by omega) (by omega) h2]; rfl
theorem two_bad {d : Bs} {p : Int} {b : Bool} (h : d.length ≤ 1000000) (h0 : 0 ≤ p) (h1 : p ≤ d.length) (h2 : b = true ∨ (d.length : Int) < p + 2) : g_field_reader_two (frd d p b, ()) = some ((0, ()), (frd d p true, ())) := by
  have w : WfC d p d.length := ⟨h0, by omega, by omega, by omega⟩
  rw [g_field_reader_two_eq, num_bad w (by omega) (by omega) h2]; rfl
def lenA (ae : Int) : Int := if ae = 0 then 0 else if ae = 1 then 4 else if ae = 2 then 16 else 8
theorem lenA_rng (ae : Int) : 0 ≤ lenA ae ∧ lenA ae ≤ 16 := by unfold lenA; split <;> (try split) <;> (try split) <;> omega
theorem lenA_8 {ae : Int} (ha : 0 ≤ ae ∧ ae ≤ 3) : lenA ae = 8 ↔ ae = 3 := by
  have : ae = 0 ∨ ae = 1 ∨ ae = 2 ∨ ae = 3 := by omega
  rcases this with rfl | rfl | rfl | rfl <;> decide
theorem raddr_ok {d : Bs} {p ae : Int} (h : d.length ≤ 1000000) (h0 : 0 ≤ p) (ha : 0 ≤ ae ∧ ae ≤ 3) (h2 : p + lenA ae ≤ d.length) : g_field_reader_addr (frd d p false, ae, ()) = some ((if ae = 3 then linkP ++ cut_ d p 8 else cut_ d p (lenA ae), ()), (frd d (p + lenA ae) false, ())) := by
  have hn := lenA_rng ae
  rw [g_field_reader_addr_eq, if_pos (by omega)]
  change ((g_cursor_Text (S_api_Cur.mk d p d.length false, lenA ae, ())).bind _) = _
  rw [text_ok (show WfC d p d.length from ⟨h0, by omega, by omega, by omega⟩) hn.1 h2, Option.bind_some, long_is, Option.bind_some]
  have hl := cut_length (s := d) (p := p) (n := lenA ae) h0 hn.1 h2
  dsimp only
  by_cases h3 : ae = 3
  · have h8 := (lenA_8 ha).2 h3
    have : longF (cut_ d p (lenA ae)) = (linkP ++ cut_ d p (lenA ae), true) := by unfold longF; rw [if_pos (by omega)]
    rw [this, ift, if_pos (by simp [h3]), if_pos h3, h8]
  · have h8 : lenA ae ≠ 8 := fun h => h3 ((lenA_8 ha).1 h)
    have : (longF (cut_ d p (lenA ae))).2 = false := by unfold longF; rw [if_neg (by omega)]
    rw [this, iff_, if_neg h3]
theorem raddr_bad {d : Bs} {p ae : Int} {b : Bool} (h : d.length ≤ 1000000) (h0 : 0 ≤ p) (h1 : p ≤ d.length) (ha : 0 ≤ ae ∧ ae ≤ 3) (h2 : b = true ∨ d.length < p + lenA ae) : ∃ s, g_field_reader_addr (frd d p b, ae, ()) = some ((s, ()), (frd d p true, ())) := by
  rw [g_field_reader_addr_eq, if_pos (by omega)]
  change ∃ s, ((g_cursor_Text (S_api_Cur.mk d p d.length b, lenA ae, ())).bind _) = _
  rw [text_bad (show WfC d p d.length from ⟨h0, by omega, by omega, by omega⟩) (h2.imp id .inr), Option.bind_some, long_is, Option.bind_some]
  exact ⟨_, rfl⟩
def fieldG (ty : Int) (d : Bs) : Msg × Bool × Int :=
  if ty = 2 then (if d.length < 6 then (msg0, false, 2) else finG (fun l => ⟨7, 0, 0, [], 0, 0, [], 0, 0, [], 0, [], 0, 0, num (cut_ d 4 2), 0, 0, num (cut_ d 2 2), 0, [], [], [], 0, [], l⟩) (getS (d.drop 6)))
  else if ty = 3 then (if d.length < 2 then (msg0, false, 2) else finG (fun l => ⟨8, 0, 0, [], 0, 0, [], 0, 0, [], 0, [], 0, 0, 0, 0, 0, num (cut_ d 0 2), 0, [], [], [], 0, [], l⟩) (getS (d.drop 2)))
  else if ty = 4 then (if d.length < 6 then (msg0, false, 2) else finG (fun l => ⟨9, 0, 0, [], 0, 0, [], 0, 0, [], 0, [], num (cut_ d 2 2), 0, num (cut_ d 4 2), bt d 0 / 128, 0, 0, 0, [], [], [], 0, [], l⟩) (getS (d.drop 6)))
  else if d.length < 6 then (msg0, false, 2)
  else if 3 < bt d 0 then (msg0, false, 0)
  else if (d.length : Int) < 6 + lenA (bt d 0) then (msg0, false, 2)
  else finG (fun l => ⟨10, 0, 0, [], 0, bt d 0, [], 0, 0, [], 0, [], 0, 0, num (cut_ d 4 2), 0, 0, 0, num (cut_ d 2 2), if bt d 0 = 3 then linkP ++ cut_ d 6 8 else cut_ d 6 (lenA (bt d 0)), [], [], 0, [], l⟩) (getS (d.drop (6 + lenA (bt d 0)).toNat))
theorem ishr8 {n : Int} (k : Nat) (hk : k ≤ 63) : ishr .i64 n k = n / 2 ^ k := by
  unfold ishr
  rw [show min (k : Int).toNat IntKind.i64.bits = k by simp only [IntKind.bits]; omega]
  exact Int.fdiv_eq_ediv_of_nonneg _ (Int.pow_nonneg (by decide))
theorem hi_lo (d : Bs) (h : 2 ≤ d.length) : num (cut_ d 0 2) = bt d 0 * 256 + bt d 1 := num2 (p := 0) (by omega)
theorem bt_lt2 (d : Bs) (h : 2 ≤ d.length) : num (cut_ d 0 2) / 256 = bt d 0 := by
  have := bt_rng d 0; have := bt_rng d 1; rw [hi_lo d h]; omega
theorem bt_128 (d : Bs) (h : 2 ≤ d.length) : num (cut_ d 0 2) / 32768 = bt d 0 / 128 := by
  have := bt_rng d 0; have := bt_rng d 1; rw [hi_lo d h]; omega
theorem getF_is {ty at_ : Int} {d : Bs} (hd : d.length ≤ 1000) (ht : 2 ≤ ty ∧ ty ≤ 5) : g_field_Get (⟨ty, at_, d⟩, ()) = some (trip (fieldG ty d), ()) := by
  have nw := new_is d
  have ok := fun p q (a : 0 ≤ p) (b : q = p + 2) c => two_ok (d := d) (p := p) (q := q) (by omega) a b c
  have bad := fun p b (a : 0 ≤ p) (c : p ≤ (d.length : Int)) e => two_bad (d := d) (p := p) (b := b) (by omega) a c e
  rw [g_field_Get_eq]
  dsimp only
  rw [nw, Option.bind_some]
  dsimp only
  unfold fieldG
  have hcase : ty = 2 ∨ ty = 3 ∨ ty = 4 ∨ ty = 5 := by omega
  rcases hcase with rfl | rfl | rfl | rfl
  · rw [if_pos (by decide), if_pos rfl]
    by_cases h : d.length < 6
    · rw [if_pos h]
      have fin : ∃ n x, g_field_reader_two (frd d 0 false, ()) = some ((n, ()), (x, ())) ∧ ∃ n' y, g_field_reader_two (x, ()) = some ((n', ()), (y, ())) ∧ ∃ n'' z, g_field_reader_two (y, ()) = some ((n'', ()), (z, ())) ∧ z.c_Bad = true := by
        by_cases h2 : d.length < 2
        · exact ⟨_, _, bad 0 false (by omega) (by omega) (.inr (by omega)), _, _, bad 0 true (by omega) (by omega) (.inl rfl), _, _, bad 0 true (by omega) (by omega) (.inl rfl), rfl⟩
        · by_cases h4 : d.length < 4
          · exact ⟨_, _, ok 0 2 (by omega) rfl (by omega), _, _, bad 2 false (by omega) (by omega) (.inr (by omega)), _, _, bad 2 true (by omega) (by omega) (.inl rfl), rfl⟩
          · exact ⟨_, _, ok 0 2 (by omega) rfl (by omega), _, _, ok 2 4 (by omega) rfl (by omega), _, _, bad 4 false (by omega) (by omega) (.inr (by omega)), rfl⟩
      obtain ⟨n, x, e1, n', y, e2, n'', z, e3, e4⟩ := fin
      rw [e1, Option.bind_some]; dsimp only
      rw [e2, Option.bind_some]; dsimp only
      rw [e3, Option.bind_some]; dsimp only
      rw [if_pos e4]
    · rw [if_neg h, ok 0 2 (by omega) rfl (by omega), Option.bind_some]; dsimp only
      rw [ok 2 4 (by omega) rfl (by omega), Option.bind_some]; dsimp only
      rw [ok 4 6 (by omega) rfl (by omega), Option.bind_some]; dsimp only
      rw [if_neg (by decide), if_pos (by omega), show ((6 : Int)).toNat = 6 from rfl, sget_is (by simp; omega), Option.bind_some]
      exact finG_some _ _
  · rw [if_neg (by decide), if_pos (by decide), if_neg (by decide), if_pos rfl]
    by_cases h : d.length < 2
    · rw [if_pos h, bad 0 false (by omega) (by omega) (.inr (by omega)), Option.bind_some]; rfl
    · rw [if_neg h, ok 0 2 (by omega) rfl (by omega), Option.bind_some]; dsimp only
      rw [if_neg (by decide), if_pos (by omega), show ((2 : Int)).toNat = 2 from rfl, sget_is (by simp; omega), Option.bind_some]
      exact finG_some _ _
  · rw [if_neg (by decide), if_neg (by decide), if_pos (by decide), if_neg (by decide), if_neg (by decide), if_pos rfl]
    by_cases h : d.length < 6
    · rw [if_pos h]
      have fin : ∃ n x, g_field_reader_two (frd d 0 false, ()) = some ((n, ()), (x, ())) ∧ ∃ n' y, g_field_reader_two (x, ()) = some ((n', ()), (y, ())) ∧ ∃ n'' z, g_field_reader_two (y, ()) = some ((n'', ()), (z, ())) ∧ z.c_Bad = true := by
        by_cases h2 : d.length < 2
        · exact ⟨_, _, bad 0 false (by omega) (by omega) (.inr (by omega)), _, _, bad 0 true (by omega) (by omega) (.inl rfl), _, _, bad 0 true (by omega) (by omega) (.inl rfl), rfl⟩
        · by_cases h4 : d.length < 4
          · exact ⟨_, _, ok 0 2 (by omega) rfl (by omega), _, _, bad 2 false (by omega) (by omega) (.inr (by omega)), _, _, bad 2 true (by omega) (by omega) (.inl rfl), rfl⟩
          · exact ⟨_, _, ok 0 2 (by omega) rfl (by omega), _, _, ok 2 4 (by omega) rfl (by omega), _, _, bad 4 false (by omega) (by omega) (.inr (by omega)), rfl⟩
      obtain ⟨n, x, e1, n', y, e2, n'', z, e3, e4⟩ := fin
      rw [e1, Option.bind_some]; dsimp only
      rw [e2, Option.bind_some]; dsimp only
      rw [e3, Option.bind_some]; dsimp only
      rw [if_pos e4]
    · rw [if_neg h, ok 0 2 (by omega) rfl (by omega), Option.bind_some]; dsimp only
      rw [ok 2 4 (by omega) rfl (by omega), Option.bind_some]; dsimp only
      rw [ok 4 6 (by omega) rfl (by omega), Option.bind_some]; dsimp only
      rw [if_neg (by decide), if_pos (by omega), show ((6 : Int)).toNat = 6 from rfl, sget_is (by simp; omega), Option.bind_some, show (15 : Int) = ((15 : Nat) : Int) from rfl, ishr8 15 (by omega), show (2 : Int) ^ 15 = 32768 from by decide, bt_128 d (by omega)]
      exact finG_some _ _
  · rw [if_neg (by decide), if_neg (by decide), if_neg (by decide), if_pos (by decide), if_neg (by decide), if_neg (by decide), if_neg (by decide)]
    have sh : ∀ n : Int, ishr .i64 n 8 = n / 256 := fun n => by
      rw [show (8 : Int) = ((8 : Nat) : Int) from rfl, ishr8 8 (by omega)]; rfl
    have hb := bt_rng d 0
    by_cases h : d.length < 6
    · rw [if_pos h]
      have fin : ∃ n x, g_field_reader_two (frd d 0 false, ()) = some ((n, ()), (x, ())) ∧ 0 ≤ n ∧ ∃ n' y, g_field_reader_two (x, ()) = some ((n', ()), (y, ())) ∧ ∃ n'' p, g_field_reader_two (y, ()) = some ((n'', ()), (frd d p true, ())) ∧ 0 ≤ p ∧ p ≤ d.length := by
        by_cases h2 : d.length < 2
        · exact ⟨_, _, bad 0 false (by omega) (by omega) (.inr (by omega)), by omega, _, _, bad 0 true (by omega) (by omega) (.inl rfl), _, _, bad 0 true (by omega) (by omega) (.inl rfl), by omega, by omega⟩
        · by_cases h4 : d.length < 4
          · exact ⟨_, _, ok 0 2 (by omega) rfl (by omega), (num_rng _).1, _, _, bad 2 false (by omega) (by omega) (.inr (by omega)), _, _, bad 2 true (by omega) (by omega) (.inl rfl), by omega, by omega⟩
          · exact ⟨_, _, ok 0 2 (by omega) rfl (by omega), (num_rng _).1, _, _, ok 2 4 (by omega) rfl (by omega), _, _, bad 4 false (by omega) (by omega) (.inr (by omega)), by omega, by omega⟩
      obtain ⟨n, x, e1, e0, n', y, e2, n'', p, e3, e4, e5⟩ := fin
      rw [e1, Option.bind_some]; dsimp only
      rw [e2, Option.bind_some]; dsimp only
      rw [e3, Option.bind_some]; dsimp only
      rw [sh]
      by_cases ha : n / 256 ≤ 3
      · obtain ⟨s, e6⟩ := raddr_bad (d := d) (p := p) (ae := n / 256) (b := true) (by omega) e4 e5 ⟨by omega, ha⟩ (.inl rfl)
        rw [ifd ha, e6, Option.bind_some]; rfl
      · rw [ifn ha, if_pos rfl]
    · rw [if_neg h, ok 0 2 (by omega) rfl (by omega), Option.bind_some]; dsimp only
      rw [ok 2 4 (by omega) rfl (by omega), Option.bind_some]; dsimp only
      rw [ok 4 6 (by omega) rfl (by omega), Option.bind_some]; dsimp only
      rw [sh, bt_lt2 d (by omega)]
      by_cases ha : 3 < bt d 0
      · rw [if_pos ha, ifn (by omega), if_neg (by decide), ifd ha]
      · rw [if_neg ha, ifd (by omega)]
        by_cases hl : (d.length : Int) < 6 + lenA (bt d 0)
        · obtain ⟨s, e6⟩ := raddr_bad (d := d) (p := 6) (ae := bt d 0) (b := false) (by omega) (by omega) (by omega) ⟨by omega, by omega⟩ (.inr hl)
          rw [if_pos hl, e6, Option.bind_some]; rfl
        · have hn : 0 ≤ lenA (bt d 0) := by unfold lenA; split <;> (try split) <;> (try split) <;> omega
          rw [if_neg hl, raddr_ok (by omega) (by omega) ⟨by omega, by omega⟩ (by omega), Option.bind_some]; dsimp only
          rw [if_neg (by decide), ifn ha, if_pos (by omega), sget_is (by simp; omega), Option.bind_some]
          exact finG_some _ _
end Go.VP
set_option linter.unusedVariables false
set_option linter.unusedSimpArgs false
set_option maxRecDepth 100000
namespace Go.VP
open Go Go.VI
theorem AllR.few {l : List Sub} (h : AllR l) : ∀ y ∈ l, y.data.length ≤ 300 := fun y hy => by have := h y hy; omega
theorem sub_len : ∀ {l : List Sub}, (l.length : Int) * 2 ≤ sumN l
  | [] => by simp [sumN]
  | y :: l => by have := sub_len (l := l); simp only [sumN, List.length_cons]; omega
theorem getS_enc : ∀ {l : List Sub} (p : Int), AllR l → ∃ tl, spl p (encS l) = .ok tl ∧ keep tl = l ∧ free tl = true
  | [], p, _ => ⟨[], spl_nil p, rfl, rfl⟩
  | y :: l, p, h => by
    have hy := h y (List.mem_cons_self ..)
    have h1 : (u8of y.type_).toNat = y.type_.toNat := by have := u8of_int y.type_; rw [if_pos (by omega)] at this; omega
    have h2 : (u8of (y.data.length : Int)).toNat = y.data.length := by have := u8of_int (y.data.length : Int); rw [if_pos (by omega)] at this; omega
    have h0 : u8of y.type_ ≠ 0 := fun e => by rw [e] at h1; simp at h1; omega
    obtain ⟨tl, e1, e2, e3⟩ := getS_enc (l := l) (p + 2 + y.data.length) (fun z hz => h z (List.mem_cons_of_mem _ hz))
    refine ⟨⟨y.type_, p, y.data⟩ :: tl, ?_, ?_, ?_⟩
    · rw [encS, spl_all h0 (by rw [h2]; simp), h2, h1]
      simp only [List.drop_left, List.take_left]
      rw [e1, show ((y.type_.toNat : Nat) : Int) = y.type_ by omega]; rfl
    · rw [keep, if_pos ⟨hy.1, hy.2.1⟩, e2]
    · rw [free_cons, e3, decide_eq_true hy.2.1]; rfl
theorem getS_encS {l : List Sub} (h : AllR l) (h2 : sumN l ≤ 200) : getS (encS l) = (l, true, 0) := by
  obtain ⟨tl, e1, e2, e3⟩ := getS_enc 0 h
  unfold getS
  rw [e1]
  dsimp only
  rw [e2, e3, endS, if_neg (by omega)]
theorem cutL {x y : Bs} {n : Int} (h : (x.length : Int) = n) : cut_ (x ++ y) 0 n = x := by
  unfold cut_
  rw [show ((0 : Int) + n).toNat = x.length by omega]
  simp
theorem cutR {x y : Bs} {k : Nat} {p n : Int} (h : x.length = k) (hp : (k : Int) ≤ p) (hn : 0 ≤ n) : cut_ (x ++ y) p n = cut_ y (p - k) n := by
  unfold cut_
  obtain ⟨a, rfl⟩ : ∃ a : Nat, p = k + a := ⟨(p - k).toNat, by omega⟩
  obtain ⟨b, rfl⟩ : ∃ b : Nat, n = b := ⟨n.toNat, by omega⟩
  rw [show ((k : Int) + (a : Int) + (b : Int)).toNat = k + (a + b) by omega, show ((k : Int) + (a : Int)).toNat = k + a by omega, show ((k : Int) + (a : Int) - (k : Int) + (b : Int)).toNat = a + b by omega, show ((k : Int) + (a : Int) - (k : Int)).toNat = a by omega, ← h, List.take_length_add_append, List.drop_length_add_append]
theorem num_be2 {n : Int} (h : 0 ≤ n ∧ n < 65536) : num (be 2 n) = n := num_be 2 n h.1 h.2
theorem fieldG_back {m : Msg} (r : FieldR m) : fieldG (m.kind - 5) (fieldsF m ++ encS m.subs) = (m, true, 0) := by
  obtain ⟨hr, hs⟩ := rightB_split r.subs
  have hg := getS_encS hr hs
  have hbare := r.bare
  have l2 : ∀ n, (be 2 n).length = 2 := be_length 2
  have cat : ∀ (a b : Int) (x : Bs), (be 2 a ++ (be 2 b ++ x)).drop 4 = x := fun a b x => by
    rw [← List.append_assoc, List.drop_left' (by simp [l2])]
  have fin : ∀ F : List Sub → Msg, F m.subs = m → finG F (getS (encS m.subs)) = (m, true, 0) := fun F h => by rw [hg]; show (F m.subs, true, 0) = _; rw [h]
  have eqm : ∀ x, bareOf m = some x → x = m := fun x h => by rw [bareB, h] at hbare; exact eqB_true.1 hbare
  rcases r.kinds with hk | hk | ⟨hk, hf⟩ | ⟨hk, ha⟩
  · have hx := eqm _ (by unfold bareOf; rw [if_neg (by omega), if_neg (by omega), if_neg (by omega), if_neg (by omega), if_neg (by omega), if_neg (by omega), if_pos hk])
    have ef : fieldsF m = be 2 0 ++ (be 2 m.nonce ++ be 2 m.interval) := by unfold fieldsF; rw [if_pos hk]
    rw [ef, hk]
    have el : (be 2 0 ++ (be 2 m.nonce ++ be 2 m.interval) ++ encS m.subs).length = 6 + (encS m.subs).length := by simp [l2]; omega
    have e1 : cut_ (be 2 0 ++ (be 2 m.nonce ++ be 2 m.interval) ++ encS m.subs) 2 2 = be 2 m.nonce := by
      rw [List.append_assoc, cutR (l2 _) (by omega) (by omega), List.append_assoc]; exact cutL (by simp [l2])
    have e2 : cut_ (be 2 0 ++ (be 2 m.nonce ++ be 2 m.interval) ++ encS m.subs) 4 2 = be 2 m.interval := by
      rw [List.append_assoc, cutR (l2 _) (by omega) (by omega), List.append_assoc, cutR (l2 _) (by omega) (by omega)]; exact cutL (by simp [l2])
    have e3 : (be 2 0 ++ (be 2 m.nonce ++ be 2 m.interval) ++ encS m.subs).drop 6 = encS m.subs := List.drop_left' (by simp [l2])
    unfold fieldG
    rw [if_pos (by omega), if_neg (by omega), e1, e2, e3, num_be2 r.nonce, num_be2 r.interval]
    refine fin _ ?_
    rw [hk] at hx
    exact hx
  · have hx := eqm _ (by unfold bareOf; rw [if_neg (by omega), if_neg (by omega), if_neg (by omega), if_neg (by omega), if_neg (by omega), if_neg (by omega), if_neg (by omega), if_pos hk])
    have ef : fieldsF m = be 2 m.nonce := by unfold fieldsF; rw [if_neg (by omega), if_pos hk]
    rw [ef, hk]
    have el : (be 2 m.nonce ++ encS m.subs).length = 2 + (encS m.subs).length := by simp [l2]
    have e1 : cut_ (be 2 m.nonce ++ encS m.subs) 0 2 = be 2 m.nonce := cutL (by simp [l2])
    have e3 : (be 2 m.nonce ++ encS m.subs).drop 2 = encS m.subs := List.drop_left' (by simp [l2])
    unfold fieldG
    rw [if_neg (by omega), if_pos (by omega), if_neg (by omega), e1, e3, num_be2 r.nonce]
    refine fin _ ?_
    rw [hk] at hx
    exact hx
  · have hx := eqm _ (by unfold bareOf; rw [if_neg (by omega), if_neg (by omega), if_neg (by omega), if_neg (by omega), if_neg (by omega), if_neg (by omega), if_neg (by omega), if_neg (by omega), if_pos hk])
    have ef : fieldsF m = be 2 (32768 * m.flags) ++ (be 2 m.seq ++ be 2 m.interval) := by unfold fieldsF; rw [if_neg (by omega), if_neg (by omega), if_pos hk]
    rw [ef, hk]
    have el : (be 2 (32768 * m.flags) ++ (be 2 m.seq ++ be 2 m.interval) ++ encS m.subs).length = 6 + (encS m.subs).length := by simp [l2]; omega
    have e0 : bt (be 2 (32768 * m.flags) ++ (be 2 m.seq ++ be 2 m.interval) ++ encS m.subs) 0 / 128 = m.flags := by
      rw [← bt_128 _ (by omega), List.append_assoc, cutL (by simp [l2]), num_be2 (by omega)]; omega
    have e1 : cut_ (be 2 (32768 * m.flags) ++ (be 2 m.seq ++ be 2 m.interval) ++ encS m.subs) 2 2 = be 2 m.seq := by
      rw [List.append_assoc, cutR (l2 _) (by omega) (by omega), List.append_assoc]; exact cutL (by simp [l2])
    have e2 : cut_ (be 2 (32768 * m.flags) ++ (be 2 m.seq ++ be 2 m.interval) ++ encS m.subs) 4 2 = be 2 m.interval := by
      rw [List.append_assoc, cutR (l2 _) (by omega) (by omega), List.append_assoc, cutR (l2 _) (by omega) (by omega)]; exact cutL (by simp [l2])
    have e3 : (be 2 (32768 * m.flags) ++ (be 2 m.seq ++ be 2 m.interval) ++ encS m.subs).drop 6 = encS m.subs := List.drop_left' (by simp [l2])
    unfold fieldG
    rw [if_neg (by omega), if_neg (by omega), if_pos (by omega), if_neg (by omega), e0, e1, e2, e3, num_be2 r.seq, num_be2 r.interval]
    refine fin _ ?_
    rw [hk] at hx
    exact hx
  · have hx := eqm _ (by unfold bareOf; rw [if_neg (by omega), if_neg (by omega), if_neg (by omega), if_neg (by omega), if_neg (by omega), if_neg (by omega), if_neg (by omega), if_neg (by omega), if_neg (by omega), if_pos hk])
    obtain ⟨A, hA⟩ : ∃ A, A = (if m.ae = 3 then m.addr.drop 8 else m.addr) := ⟨_, rfl⟩
    have hc := addrB_cases ha
    have hae : 0 ≤ m.ae ∧ m.ae ≤ 3 := by rcases hc with ⟨h, _⟩ | ⟨h, _⟩ | ⟨h, _⟩ | ⟨h, _⟩ <;> omega
    have ef : fieldsF m = be 2 (256 * m.ae) ++ (be 2 m.cost ++ (be 2 m.interval ++ A)) := by unfold fieldsF; rw [if_neg (by omega), if_neg (by omega), if_neg (by omega), hA]
    have hAl : (A.length : Int) = lenA m.ae ∧ (if m.ae = 3 then linkP ++ A else A) = m.addr := by
      rcases hc with ⟨h, h2⟩ | ⟨h, h2⟩ | ⟨h, h2⟩ | ⟨h, h2⟩
      · rw [h] at hA ⊢; rw [if_neg (by omega)] at hA ⊢; rw [hA, h2]; exact ⟨rfl, rfl⟩
      · rw [h] at hA ⊢; rw [if_neg (by omega)] at hA ⊢; rw [hA]; exact ⟨by rw [h2]; rfl, rfl⟩
      · rw [h] at hA ⊢; rw [if_neg (by omega)] at hA ⊢; rw [hA]; exact ⟨by rw [h2]; rfl, rfl⟩
      · rw [h] at hA ⊢; rw [if_pos rfl] at hA ⊢; rw [hA]; exact ⟨by rw [List.length_drop, (linkB_len h2).1]; rfl, link_parts h2⟩
    rw [ef, hk]
    have el : (be 2 (256 * m.ae) ++ (be 2 m.cost ++ (be 2 m.interval ++ A)) ++ encS m.subs).length = 6 + A.length + (encS m.subs).length := by simp [l2]; omega
    have e0 : bt (be 2 (256 * m.ae) ++ (be 2 m.cost ++ (be 2 m.interval ++ A)) ++ encS m.subs) 0 = m.ae := by
      rw [← bt_lt2 _ (by omega), List.append_assoc, cutL (by simp [l2]), num_be2 (by omega)]; omega
    have e1 : cut_ (be 2 (256 * m.ae) ++ (be 2 m.cost ++ (be 2 m.interval ++ A)) ++ encS m.subs) 2 2 = be 2 m.cost := by
      rw [List.append_assoc, cutR (l2 _) (by omega) (by omega), List.append_assoc]; exact cutL (by simp [l2])
    have e2 : cut_ (be 2 (256 * m.ae) ++ (be 2 m.cost ++ (be 2 m.interval ++ A)) ++ encS m.subs) 4 2 = be 2 m.interval := by
      rw [List.append_assoc, cutR (l2 _) (by omega) (by omega), List.append_assoc, cutR (l2 _) (by omega) (by omega), List.append_assoc]; exact cutL (by simp [l2])
    have e4 : cut_ (be 2 (256 * m.ae) ++ (be 2 m.cost ++ (be 2 m.interval ++ A)) ++ encS m.subs) 6 (lenA m.ae) = A := by
      rw [List.append_assoc, cutR (l2 _) (by omega) (by omega), List.append_assoc, cutR (l2 _) (by omega) (by omega), List.append_assoc, cutR (l2 _) (by omega) (by omega)]; exact cutL hAl.1
    have e3 : (be 2 (256 * m.ae) ++ (be 2 m.cost ++ (be 2 m.interval ++ A)) ++ encS m.subs).drop (6 + lenA m.ae).toNat = encS m.subs := List.drop_left' (by simp [l2]; omega)
    unfold fieldG
    rw [if_neg (by omega), if_neg (by omega), if_neg (by omega), if_neg (by omega), e0, if_neg (by omega), if_neg (by omega), e1, e2, e3, num_be2 r.cost, num_be2 r.interval]
    refine fin _ ?_
    have e5 : (if m.ae = 3 then linkP ++ cut_ (be 2 (256 * m.ae) ++ (be 2 m.cost ++ (be 2 m.interval ++ A)) ++ encS m.subs) 6 8 else cut_ (be 2 (256 * m.ae) ++ (be 2 m.cost ++ (be 2 m.interval ++ A)) ++ encS m.subs) 6 (lenA m.ae)) = m.addr := by
      rw [e4]
      by_cases h3 : m.ae = 3
      · have h8 : lenA m.ae = 8 := by rw [h3]; rfl
        rw [h8] at e4
        rw [if_pos h3, e4]
        have := hAl.2; rw [if_pos h3] at this; exact this
      · have := hAl.2; rw [if_neg h3] at this ⊢; exact this
    rw [e5]
    rw [hk] at hx
    exact hx
theorem FieldR.small {m : Msg} (r : FieldR m) : (fieldsF m).length ≤ 22 := by
  unfold fieldsF; split
  · simp [be_length]
  · split
    · simp [be_length]
    · split
      · simp [be_length]
      · rcases r.kinds with hk | hk | ⟨hk, _⟩ | ⟨hk, ha⟩ <;> first | omega | skip
        rcases addrB_cases ha with ⟨h, h2⟩ | ⟨h, h2⟩ | ⟨h, h2⟩ | ⟨h, h2⟩
        · simp [be_length, h, h2]
        · simp [be_length, h, h2]
        · simp [be_length, h, h2]
        · have := (linkB_len h2).1
          simp [be_length, h, this]
theorem fieldPut_ok {m : Msg} (r : FieldR m) : fieldPut m = (u8of (m.kind - 5) :: u8of (fieldsF m ++ encS m.subs).length :: (fieldsF m ++ encS m.subs), true) ∧ (fieldsF m ++ encS m.subs).length ≤ 255 ∧ 2 ≤ m.kind - 5 ∧ m.kind - 5 ≤ 5 := by
  have h1 := r.small
  have h2 := encS_small r.subs
  have hk : 2 ≤ m.kind - 5 ∧ m.kind - 5 ≤ 5 := by rcases r.kinds with h | h | ⟨h, _⟩ | ⟨h, _⟩ <;> omega
  have hl : (fieldsF m ++ encS m.subs).length ≤ 255 := by simp; omega
  refine ⟨?_, hl, hk⟩
  unfold fieldPut
  rw [if_pos (fieldR_iff.2 r), tput, if_pos ⟨by omega, by omega, hl⟩]
theorem spl_tput {t p : Int} {d : Bs} (ht : 1 ≤ t ∧ t ≤ 255) (hd : d.length ≤ 255) : spl p (u8of t :: u8of d.length :: d) = .ok [⟨t, p, d⟩] := by
  have h1 : (u8of t).toNat = t.toNat := by have := u8of_int t; rw [if_pos (by omega)] at this; omega
  have h2 : (u8of (d.length : Int)).toNat = d.length := by have := u8of_int (d.length : Int); rw [if_pos (by omega)] at this; omega
  have h0 : u8of t ≠ 0 := fun e => by rw [e] at h1; simp at h1; omega
  rw [spl_all h0 (by omega), h2, List.drop_length, spl_nil, List.take_length, h1]
  simp only [Except.map]
  rw [show ((t.toNat : Nat) : Int) = t by omega]
theorem getS_nil : getS [] = ([], true, 0) := by unfold getS; rw [spl_nil]; rfl
end Go.VP
set_option linter.unusedVariables false
set_option linter.unusedSimpArgs false
set_option maxRecDepth 100000
namespace Go.VP
open Go Go.VI
def szA (ae : Int) : Int := if ae = 0 then 0 else (if ae = 1 then 4 else (if ae = 2 then 16 else 16))
def baseA (ae : Int) : Int := if ae = 0 then 0 else (if ae = 1 then 0 else (if ae = 2 then 0 else 8))
def lowA (ae : Int) : Int := if ae = 0 then 0 else (if ae = 1 then 0 else (if ae = 2 then 0 else 64))
def highA (ae : Int) : Int := if ae = 0 then 0 else (if ae = 1 then 32 else (if ae = 2 then 128 else 128))
theorem ae_cases {ae : Int} (h : 0 ≤ ae ∧ ae < 4) : ae = 0 ∨ ae = 1 ∨ ae = 2 ∨ ae = 3 := by omega
def inB (ae : Int) (a : Bs) (plen : Int) : Bool := decide (0 ≤ ae ∧ ae < 4) && (decide ((a.length : Int) = szA ae) && (decide (lowA ae ≤ plen ∧ plen ≤ highA ae) && (cleanB a plen && (decide (ae ≠ 3) || linkB a))))
theorem in_is {ae plen : Int} {a : Bs} (ha : a.length ≤ 1000000000) (hp : IntKind.has .i64 plen) : g_route_In (ae, a, plen, ()) = some ((inB ae a plen, ()), ()) := by
  rw [g_route_In_eq, g_route_shapes_eq, Option.bind_some]
  dsimp only
  unfold inB
  by_cases h0 : ae < 0
  · rw [ifd h0, decide_eq_false (by omega)]; rfl
  by_cases h3 : 3 < ae
  · rw [ifn h0, ifd h3, decide_eq_false (by omega)]; rfl
  have hae : 0 ≤ ae ∧ ae < 4 := by omega
  rw [ifn h0, ifn h3, if_pos hae, decide_eq_true hae, Bool.true_and]
  change (if ((a.length : Int) == szA ae) = true then (if decide (lowA ae ≤ plen) = true then (if decide (plen ≤ highA ae) = true then _ else _) else _) else _) = _
  by_cases h1 : (a.length : Int) = szA ae
  · rw [if_pos (by simp [h1]), decide_eq_true h1, Bool.true_and]
    by_cases h2 : lowA ae ≤ plen
    · rw [ifd h2]
      by_cases h4 : plen ≤ highA ae
      · rw [ifd h4, decide_eq_true ⟨h2, h4⟩, Bool.true_and, clean_is ha hp, Option.bind_some, link_is]
        dsimp only
        cases cleanB a plen
        · rfl
        · rw [ift, Bool.true_and]
          by_cases h5 : ae = 3
          · rw [if_neg (by simp [h5])]; simp [h5]
          · rw [if_pos (by simp [h5])]; simp [h5]
      · rw [ifn h4, decide_eq_false (by omega)]; rfl
    · rw [ifn h2, decide_eq_false (by omega)]; rfl
  · rw [if_neg (by simp [h1]), decide_eq_false h1]; rfl
def kindR (m : Msg) : Bool := if m.kind = 12 then true else if m.kind = 13 then (decide (0 < m.ae) && (fitsB m.seq 2 && (decide (1 ≤ m.hops ∧ m.hops ≤ 255) && decide (m.id.length = 8)))) else false
noncomputable def routeB (m : Msg) : Bool := bareB m && (rightB m.subs && (inB m.ae m.prefix_ m.plen && kindR m))
theorem len8 (l : Bs) : ((l.length : Int) == 8) = decide (l.length = 8) := by rw [Bool.eq_iff_iff]; simp; omega
theorem rtright_is {m : Msg} (g : GoodM m) : g_route_Right (m, ()) = some ((routeB m, ()), ()) := by
  have h2 : g_octet_Fits (m.seq, 2, ()) = some ((fitsB m.seq 2, ()), ()) := fits_is (k := 2) g.seq (by omega) (by omega)
  have h1 : g_octet_Fits (m.hops, 1, ()) = some ((fitsB m.hops 1, ()), ()) := fits_is (k := 1) g.hops (by omega) (by omega)
  rw [g_route_Right_eq, bare_is, Option.bind_some, sright_is g.few.fewS, Option.bind_some, in_is (by have := g.few.pre; omega) g.plen, Option.bind_some, h1, h2]
  dsimp only
  unfold routeB
  cases bareB m
  · rfl
  rw [ifnt, Bool.true_and]
  cases rightB m.subs
  · rfl
  rw [ifnt, Bool.true_and]
  cases inB m.ae m.prefix_ m.plen
  · rfl
  rw [ifnt, Bool.true_and]
  unfold kindR
  refine bq_step (fun h => ?_) (fun h => ?_)
  · rw [if_pos h]
  rw [if_neg h]
  refine bq_step (fun h => ?_) (fun h => ?_)
  · rw [if_pos h, Option.bind_some, Option.bind_some, len8]
    by_cases ha : 0 < m.ae
    · rw [ifd ha, decide_eq_true ha, Bool.true_and]
      cases fitsB m.seq 2
      · rfl
      rw [ift, Bool.true_and]
      by_cases hh : 0 < m.hops
      · rw [ifd hh]
        have : fitsB m.hops 1 = decide (1 ≤ m.hops ∧ m.hops ≤ 255) := by unfold fitsB; rw [Bool.eq_iff_iff]; simp; omega
        rw [this]
        cases decide (1 ≤ m.hops ∧ m.hops ≤ 255) <;> rfl
      · rw [ifn hh, decide_eq_false (by omega)]; rfl
    · rw [ifn ha, decide_eq_false ha]; rfl
  rw [if_neg h]
structure RouteR (m : Msg) : Prop where
  bare : bareB m = true
  subs : rightB m.subs = true
  ae : 0 ≤ m.ae ∧ m.ae < 4
  len : (m.prefix_.length : Int) = szA m.ae
  plen : lowA m.ae ≤ m.plen ∧ m.plen ≤ highA m.ae
  clean : keepF m.prefix_ m.plen = m.prefix_
  link : m.ae = 3 → linkB m.prefix_ = true
  kind : kindR m = true
theorem inB_iff {ae plen : Int} {a : Bs} : inB ae a plen = true ↔ (0 ≤ ae ∧ ae < 4) ∧ (a.length : Int) = szA ae ∧ (lowA ae ≤ plen ∧ plen ≤ highA ae) ∧ keepF a plen = a ∧ (ae = 3 → linkB a = true) := by
  unfold inB cleanB
  simp only [Bool.and_eq_true, decide_eq_true_eq, beq_iff_eq, Bool.or_eq_true]
  constructor
  · rintro ⟨a, b, c, d, e⟩; exact ⟨a, b, c, d, fun h => e.resolve_left (fun h2 => h2 h)⟩
  · rintro ⟨a, b, c, d, e⟩; exact ⟨a, b, c, d, by by_cases h : ae = 3 <;> simp [h, e]⟩
theorem routeR_iff {m : Msg} : routeB m = true ↔ RouteR m := by
  unfold routeB
  simp only [Bool.and_eq_true, inB_iff]
  exact ⟨fun ⟨a, b, ⟨c, d, e, f, g⟩, h⟩ => ⟨a, b, c, d, e, f, g, h⟩, fun h => ⟨h.1, h.2, ⟨h.3, h.4, h.5, h.6, h.7⟩, h.8⟩⟩
theorem RouteR.kinds {m : Msg} (h : RouteR m) : m.kind = 12 ∨ (m.kind = 13 ∧ 0 < m.ae ∧ (0 ≤ m.seq ∧ m.seq < 65536) ∧ (1 ≤ m.hops ∧ m.hops ≤ 255) ∧ m.id.length = 8) := by
  have := h.kind
  unfold kindR at this
  split at this
  · exact .inl (by assumption)
  · split at this
    · simp only [Bool.and_eq_true, decide_eq_true_eq, fitsB2] at this
      exact .inr ⟨by assumption, this⟩
    · cases this
def bytesP (m : Msg) : Bs := (cutF m.prefix_ m.plen).drop (baseA m.ae).toNat
theorem cutF_length (a : Bs) (n : Int) : (cutF a n).length = min (leastF n).toNat a.length := by unfold cutF; rw [keepF_length, List.length_take]
theorem least_base {ae plen : Int} (hae : 0 ≤ ae ∧ ae < 4) (hp : lowA ae ≤ plen ∧ plen ≤ highA ae) : 0 ≤ baseA ae ∧ baseA ae ≤ leastF plen ∧ leastF plen ≤ szA ae ∧ 0 ≤ plen ∧ plen ≤ 128 ∧ szA ae ≤ 16 := by
  have h8 : leastF plen = if plen < 0 then 0 else (plen + 7) / 8 := rfl
  rcases ae_cases hae with rfl | rfl | rfl | rfl
  · have : 0 ≤ plen ∧ plen ≤ 0 := hp
    rw [h8]; show 0 ≤ (0 : Int) ∧ (0 : Int) ≤ _ ∧ _ ≤ (0 : Int) ∧ _ ∧ _ ∧ (0 : Int) ≤ 16; rw [if_neg (by omega)]; omega
  · have : 0 ≤ plen ∧ plen ≤ 32 := hp
    rw [h8]; show 0 ≤ (0 : Int) ∧ (0 : Int) ≤ _ ∧ _ ≤ (4 : Int) ∧ _ ∧ _ ∧ (4 : Int) ≤ 16; rw [if_neg (by omega)]; omega
  · have : 0 ≤ plen ∧ plen ≤ 128 := hp
    rw [h8]; show 0 ≤ (0 : Int) ∧ (0 : Int) ≤ _ ∧ _ ≤ (16 : Int) ∧ _ ∧ _ ∧ (16 : Int) ≤ 16; rw [if_neg (by omega)]; omega
  · have : 64 ≤ plen ∧ plen ≤ 128 := hp
    rw [h8]; show 0 ≤ (8 : Int) ∧ (8 : Int) ≤ _ ∧ _ ≤ (16 : Int) ∧ _ ∧ _ ∧ (16 : Int) ≤ 16; rw [if_neg (by omega)]; omega
theorem RouteR.cut {m : Msg} (h : RouteR m) : ((cutF m.prefix_ m.plen).length : Int) = leastF m.plen ∧ ((bytesP m).length : Int) = leastF m.plen - baseA m.ae := by
  obtain ⟨h1, h2, h3, h4, h5, h6⟩ := least_base h.ae h.plen
  have := h.len
  have hc : ((cutF m.prefix_ m.plen).length : Int) = leastF m.plen := by rw [cutF_length]; omega
  exact ⟨hc, by unfold bytesP; rw [List.length_drop]; omega⟩
def headF (m : Msg) : Bs := if m.kind = 13 then u8of m.ae :: u8of m.plen :: (be 2 m.seq ++ (u8of m.hops :: 0 :: (m.id ++ bytesP m))) else u8of m.ae :: u8of m.plen :: bytesP m
noncomputable def routePut (m : Msg) : Bs × Bool := if routeB m = true then tput (if m.kind = 13 then 10 else 9) (headF m ++ encS m.subs) else ([], false)
theorem u8w {n : Int} (h : 0 ≤ n) : u8of (IntKind.wrap .u8 n) = u8of n := by rw [wu8, u8of_emod' h]
theorem be2' {n : Int} (h : 0 ≤ n ∧ n < 65536) : be 2 n = [u8of (IntKind.wrap .u8 (ishr .i64 n 8)), u8of (IntKind.wrap .u8 n)] := (be2 h).symm
theorem rtput_is' {m : Msg} (g : GoodM m) : g_route_Put (m, ()) = some (((routePut m).1, (routePut m).2, ()), ()) := by
  rw [g_route_Put_eq, rtright_is g, Option.bind_some]
  unfold routePut
  dsimp only
  by_cases h : routeB m = true
  · have r := routeR_iff.1 h
    have hs := sput_is g.few.fewS (by have := g.few.subs; omega)
    rw [putS_r r.subs] at hs
    have hz := encS_small r.subs
    obtain ⟨c1, c2⟩ := r.cut
    obtain ⟨l1, l2, l3, l4, l5, l6⟩ := least_base r.ae r.plen
    have hcut := pcut_is (a := m.prefix_) (n := m.plen) (by have := g.few.pre; omega) g.plen (by omega)
    rw [if_neg (by simp [h]), if_pos h, hs, Option.bind_some, hcut, g_route_shapes_eq, u8w r.ae.1, u8w l4]
    simp only [Option.bind_some]
    have hd : ((cutF m.prefix_ m.plen).drop (baseA m.ae).toNat) = bytesP m := rfl
    have hae : 0 ≤ m.ae ∧ m.ae < 4 := r.ae
    rcases r.kinds with hk | ⟨hk, _, hq, hh, hi⟩
    · rw [if_neg (show ¬ (m.kind == 13) = true by simp [hk]), if_pos hae]
      change (if 0 ≤ baseA m.ae ∧ baseA m.ae ≤ ((cutF m.prefix_ m.plen).length : Int) then (if roomB ([u8of m.ae, u8of m.plen].length + (bytesP m).length) = true then (if maxB (([u8of m.ae, u8of m.plen] ++ bytesP m).length + (encS m.subs).length) = true then ((g_frame_Put (9, (([u8of m.ae, u8of m.plen] ++ bytesP m) ++ encS m.subs), ())).bind _) else none) else none) else none) = _
      rw [if_pos (by omega), if_pos (roomB_of (by simp; omega)), if_pos (maxB_of (by simp; omega)), tput_is, Option.bind_some, if_neg (show ¬ m.kind = 13 by omega)]
      unfold headF
      rw [if_neg (show ¬ m.kind = 13 by omega)]; rfl
    · rw [if_pos (show (m.kind == 13) = true by simp [hk]), if_pos (roomB_of (by simp)), if_pos (roomB_of (by simp; omega)), if_pos hae, u8w (n := m.hops) (by omega)]
      change (if 0 ≤ baseA m.ae ∧ baseA m.ae ≤ ((cutF m.prefix_ m.plen).length : Int) then (if roomB ((([u8of m.ae, u8of m.plen] ++ [u8of (IntKind.wrap .u8 (ishr .i64 m.seq 8)), u8of (IntKind.wrap .u8 m.seq), u8of m.hops, 0]) ++ m.id).length + (bytesP m).length) = true then (if maxB (((([u8of m.ae, u8of m.plen] ++ [u8of (IntKind.wrap .u8 (ishr .i64 m.seq 8)), u8of (IntKind.wrap .u8 m.seq), u8of m.hops, 0]) ++ m.id) ++ bytesP m).length + (encS m.subs).length) = true then ((g_frame_Put (10, (((([u8of m.ae, u8of m.plen] ++ [u8of (IntKind.wrap .u8 (ishr .i64 m.seq 8)), u8of (IntKind.wrap .u8 m.seq), u8of m.hops, 0]) ++ m.id) ++ bytesP m) ++ encS m.subs), ())).bind _) else none) else none) else none) = _
      rw [if_pos (by omega), if_pos (roomB_of (by simp; omega)), if_pos (maxB_of (by simp; omega)), tput_is, Option.bind_some, if_pos hk]
      unfold headF
      rw [if_pos hk, be2' hq]
      simp
  · rw [Bool.not_eq_true] at h
    rw [h, ifnf, iff_]
end Go.VP
set_option linter.unusedVariables false
set_option linter.unusedSimpArgs false
set_option maxRecDepth 100000
namespace Go.VP
open Go Go.VI
abbrev Raw := S_api_Raw
abbrev raw0 : Raw := ⟨0, 0, 0, 0, 0, 0, 0, 0, [], []⟩
abbrev rrd (d : Bs) (p : Int) (b : Bool) : S_route_reader := ⟨d, p, d.length, b⟩
theorem wfd {d : Bs} {p : Int} (h : d.length ≤ 1000000) (h0 : 0 ≤ p) (h1 : p ≤ d.length) : WfC d p d.length := ⟨h0, h1, by omega, by omega⟩
theorem rn_ok {d : Bs} {p n : Int} (h : d.length ≤ 1000000) (h0 : 0 ≤ p) (hn : 1 ≤ n ∧ n ≤ 7) (h2 : p + n ≤ d.length) : g_route_reader_num (rrd d p false, n, ()) = some ((num (cut_ d p n), ()), (rrd d (p + n) false, ())) := by
  rw [g_route_reader_num_eq, num_ok (wfd h h0 (by omega)) hn.1 hn.2 h2]; rfl
theorem rn_bad {d : Bs} {p n : Int} {b : Bool} (h : d.length ≤ 1000000) (h0 : 0 ≤ p) (h1 : p ≤ d.length) (hn : 1 ≤ n ∧ n ≤ 7) (h2 : b = true ∨ (d.length : Int) < p + n) : g_route_reader_num (rrd d p b, n, ()) = some ((0, ()), (rrd d p true, ())) := by
  rw [g_route_reader_num_eq, num_bad (wfd h h0 h1) hn.1 hn.2 h2]; rfl
theorem rt_ok {d : Bs} {p n : Int} (h : d.length ≤ 1000000) (h0 : 0 ≤ p) (hn : 0 ≤ n) (h2 : p + n ≤ d.length) : g_route_reader_text (rrd d p false, n, ()) = some ((cut_ d p n, ()), (rrd d (p + n) false, ())) := by
  rw [g_route_reader_text_eq, text_ok (wfd h h0 (by omega)) hn h2]; rfl
theorem rt_bad {d : Bs} {p n : Int} {b : Bool} (h : d.length ≤ 1000000) (h0 : 0 ≤ p) (h1 : p ≤ d.length) (h2 : b = true ∨ n < 0 ∨ (d.length : Int) < p + n) : g_route_reader_text (rrd d p b, n, ()) = some (([], ()), (rrd d p true, ())) := by
  rw [g_route_reader_text_eq, text_bad (wfd h h0 h1) h2]; rfl
theorem rn_any {d : Bs} {p n : Int} {b : Bool} (h : d.length ≤ 1000000) (h0 : 0 ≤ p) (h1 : p ≤ d.length) (hn : 1 ≤ n ∧ n ≤ 7) : ∃ v q c, g_route_reader_num (rrd d p b, n, ()) = some ((v, ()), (rrd d q c, ())) ∧ 0 ≤ q ∧ q ≤ d.length ∧ (c = false → b = false ∧ q = p + n) ∧ (0 ≤ v) := by
  by_cases hb : b = true
  · exact ⟨_, _, _, rn_bad h h0 h1 hn (.inl hb), h0, h1, (fun h => by cases h), by omega⟩
  · rw [Bool.not_eq_true] at hb
    subst hb
    by_cases hl : p + n ≤ d.length
    · exact ⟨_, _, _, rn_ok h h0 hn hl, by omega, hl, fun _ => ⟨rfl, rfl⟩, (num_rng _).1⟩
    · exact ⟨_, _, _, rn_bad h h0 h1 hn (.inr (by omega)), h0, h1, (fun h => by cases h), by omega⟩
theorem rt_any {d : Bs} {p n : Int} {b : Bool} (h : d.length ≤ 1000000) (h0 : 0 ≤ p) (h1 : p ≤ d.length) (hn : 0 ≤ n) : ∃ v q c, g_route_reader_text (rrd d p b, n, ()) = some ((v, ()), (rrd d q c, ())) ∧ 0 ≤ q ∧ q ≤ d.length ∧ (c = false → b = false ∧ q = p + n) := by
  by_cases hb : b = true
  · exact ⟨_, _, _, rt_bad h h0 h1 (.inl hb), h0, h1, fun h => by cases h⟩
  · rw [Bool.not_eq_true] at hb
    subst hb
    by_cases hl : p + n ≤ d.length
    · exact ⟨_, _, _, rt_ok h h0 hn hl, by omega, hl, fun _ => ⟨rfl, rfl⟩⟩
    · exact ⟨_, _, _, rt_bad h h0 h1 (.inr (.inr (by omega))), h0, h1, fun h => by cases h⟩
def greatB (ae plen : Int) : Bool := !decide (lowA ae ≤ plen ∧ plen ≤ highA ae)
def restN (ae plen om : Int) : Int := leastF plen - baseA ae - om
def preF (d : Bs) (p ae plen om : Int) : Bs × Int := if greatB ae plen = true ∨ restN ae plen om < 0 then ([], 6) else if (d.length : Int) < p + restN ae plen om then ([], 2) else (cut_ d p (restN ae plen om), 0)
theorem leastF_rng {n : Int} (h : 0 ≤ n ∧ n ≤ 255) : 0 ≤ leastF n ∧ leastF n ≤ 32 := by unfold leastF; split <;> omega
theorem baseA_rng (ae : Int) : 0 ≤ baseA ae ∧ baseA ae ≤ 8 := by unfold baseA; split <;> (try split) <;> (try split) <;> omega
theorem pre_is {d : Bs} {p ae plen om : Int} (h : d.length ≤ 1000000) (h0 : 0 ≤ p) (h1 : p ≤ d.length) (hae : 0 ≤ ae ∧ ae < 4) (hp : 0 ≤ plen ∧ plen ≤ 255) (ho : 0 ≤ om ∧ om ≤ 255) :
    ∃ r, g_route_reader_prefix (rrd d p false, ae, plen, om, ()) = some (((preF d p ae plen om).1, (preF d p ae plen om).2, ()), (r, ())) ∧ ((preF d p ae plen om).2 = 0 → r = rrd d (p + restN ae plen om) false ∧ 0 ≤ restN ae plen om ∧ p + restN ae plen om ≤ d.length) := by
  have hl := leastF_rng hp
  have hb := baseA_rng ae
  rw [g_route_reader_prefix_eq, g_route_shapes_eq, Option.bind_some, if_pos hae, least_is (by omega), Option.bind_some]
  change ∃ r, (if decide (plen < lowA ae) = true then _ else (if decide (highA ae < plen) = true then _ else (if decide (IntKind.wrap .i64 (IntKind.wrap .i64 (leastF plen - baseA ae) - om) < 0) = true then _ else ((g_route_reader_text (rrd d p false, IntKind.wrap .i64 (IntKind.wrap .i64 (leastF plen - baseA ae) - om), ())).bind fun r3 => (if r3.2.1.c_Bad = true then some ((([] : List UInt8), 2, ()), (r3.2.1, ())) else some ((r3.1.1, 0, ()), (r3.2.1, ()))))))) = _ ∧ _
  rw [w64 (x := leastF plen - baseA ae) (by omega) (by omega), w64 (by omega) (by omega)]
  unfold preF greatB
  by_cases c1 : plen < lowA ae
  · have e : (!decide (lowA ae ≤ plen ∧ plen ≤ highA ae)) = true := by simp; omega
    rw [ifd c1, if_pos (.inl e)]; exact ⟨_, rfl, fun h => by cases h⟩
  by_cases c2 : highA ae < plen
  · have e : (!decide (lowA ae ≤ plen ∧ plen ≤ highA ae)) = true := by simp; omega
    rw [ifn c1, ifd c2, if_pos (.inl e)]; exact ⟨_, rfl, fun h => by cases h⟩
  have e : ¬ (!decide (lowA ae ≤ plen ∧ plen ≤ highA ae)) = true := by simp; omega
  rw [ifn c1, ifn c2]
  have er : leastF plen - baseA ae - om = restN ae plen om := rfl
  rw [er]
  by_cases c3 : restN ae plen om < 0
  · rw [ifd c3, if_pos (.inr c3)]; exact ⟨_, rfl, fun h => by cases h⟩
  · rw [ifn c3, if_neg (fun h => h.elim e c3)]
    by_cases c4 : (d.length : Int) < p + restN ae plen om
    · rw [if_pos c4, rt_bad h h0 h1 (.inr (.inr c4)), Option.bind_some]; exact ⟨_, rfl, fun h => by cases h⟩
    · rw [if_neg c4, rt_ok h h0 (by omega) (by omega), Option.bind_some]; exact ⟨_, rfl, fun _ => ⟨rfl, by omega, by omega⟩⟩
theorem rest_is {d : Bs} {p : Int} (h : d.length ≤ 1000000) (h0 : 0 ≤ p) (h1 : p ≤ d.length) : ∃ r, g_route_reader_rest (rrd d p false, ()) = some (trip (getS (d.drop p.toNat)), (r, ())) := by
  have e : cut_ d p ((d.length : Int) - p) = d.drop p.toNat := by
    unfold cut_
    rw [show (p + ((d.length : Int) - p)).toNat = d.length by omega, List.take_length]
  rw [g_route_reader_rest_eq, left_is (wfd h h0 h1), Option.bind_some]
  dsimp only
  rw [rt_ok h h0 (by omega) (by omega), Option.bind_some]
  dsimp only
  rw [e, sget_is (by simp; omega)]
  exact ⟨_, rfl⟩
def wholeF (ae : Int) (b : Bs) (plen : Int) : Bs := keepF (if ae = 3 then linkP ++ fillF b 8 else fillF b (szA ae)) plen
theorem fillF_length (s : Bs) (n : Int) : (fillF s n).length = max s.length n.toNat := by unfold fillF; simp; omega
theorem whole_is {ae plen : Int} {b : Bs} (hae : 0 ≤ ae ∧ ae < 4) (hp : IntKind.has .i64 plen) (hb : b.length ≤ 1000) (h3 : ae = 3 → b.length ≤ 8) : g_route_whole (ae, b, plen, ()) = some ((wholeF ae b plen, ()), ()) := by
  rw [g_route_whole_eq, g_route_shapes_eq, Option.bind_some, if_pos hae]
  change ((g_prefix_Fill (b, IntKind.wrap .i64 (szA ae - baseA ae), ())).bind _) = _
  have hsz : 0 ≤ szA ae ∧ szA ae ≤ 16 := by unfold szA; split <;> (try split) <;> (try split) <;> omega
  have hbs := baseA_rng ae
  rw [w64 (by omega) (by omega), fill_is (by omega), Option.bind_some]
  unfold wholeF
  refine bq_step (fun h => ?_) (fun h => ?_)
  · subst h
    have e : szA 3 - baseA 3 = 8 := rfl
    rw [e, long_is, Option.bind_some, if_pos rfl]
    have hl : longF (fillF b 8) = (linkP ++ fillF b 8, true) := by unfold longF; rw [if_pos (by rw [fillF_length]; have := h3 rfl; omega)]
    rw [hl, keep_is (by simp [fillF_length, linkP]; omega) hp, Option.bind_some]
  · have e : szA ae - baseA ae = szA ae := by
      rcases ae_cases hae with rfl | rfl | rfl | rfl
      · rfl
      · rfl
      · rfl
      · exact absurd rfl h
    rw [e, if_neg h, keep_is (by rw [fillF_length]; omega) hp]; rfl
def routeG (ty : Int) (d : Bs) : Msg × Bool × Int :=
  if (d.length : Int) < (if ty = 10 then 14 else 2) then (msg0, false, 2)
  else if 3 < bt d 0 then (msg0, false, 0)
  else
    let p : Int := if ty = 10 then 14 else 2
    let b := preF d p (bt d 0) (bt d 1) 0
    if b.2 ≠ 0 then (msg0, false, b.2)
    else
      let x := getS (d.drop (p + restN (bt d 0) (bt d 1) 0).toNat)
      if x.2.2 ≠ 0 ∨ x.2.1 = false then (msg0, false, x.2.2)
      else if ty = 10 then (if bt d 0 = 0 ∨ bt d 4 = 0 then (msg0, false, 0) else (⟨13, 0, 0, [], 0, bt d 0, wholeF (bt d 0) b.1 (bt d 1), bt d 1, 0, [], 0, cut_ d 6 8, num (cut_ d 2 2), 0, 0, 0, bt d 4, 0, 0, [], [], [], 0, [], x.1⟩, true, 0))
      else (⟨12, 0, 0, [], 0, bt d 0, wholeF (bt d 0) b.1 (bt d 1), bt d 1, 0, [], 0, [], 0, 0, 0, 0, 0, 0, 0, [], [], [], 0, [], x.1⟩, true, 0)
theorem restN_len {ae plen : Int} (hae : 0 ≤ ae ∧ ae < 4) (hg : greatB ae plen = false) : 0 ≤ restN ae plen 0 ∧ restN ae plen 0 ≤ 16 ∧ (ae = 0 → restN ae plen 0 = 0) ∧ (ae = 3 → restN ae plen 0 ≤ 8) ∧ (0 ≤ plen ∧ plen ≤ 128) := by
  unfold greatB at hg
  have hp : lowA ae ≤ plen ∧ plen ≤ highA ae := by simpa using hg
  obtain ⟨h1, h2, h3, h4, h5, h6⟩ := least_base hae hp
  unfold restN
  refine ⟨by omega, by omega, fun h => ?_, fun h => ?_, h4, h5⟩
  · subst h; have : szA 0 = 0 := rfl; omega
  · subst h; have : szA 3 = 16 := rfl; have : baseA 3 = 8 := rfl; omega
theorem preF_ok {d : Bs} {p ae plen : Int} (hae : 0 ≤ ae ∧ ae < 4) (h0 : 0 ≤ p) (h : (preF d p ae plen 0).2 = 0) : (preF d p ae plen 0).1 = cut_ d p (restN ae plen 0) ∧ greatB ae plen = false ∧ p + restN ae plen 0 ≤ d.length ∧ ((preF d p ae plen 0).1.length : Int) = restN ae plen 0 := by
  unfold preF at h ⊢
  split at h
  · cases h
  · rename_i hg
    have hg' : greatB ae plen = false := by
      cases hx : greatB ae plen with
      | false => rfl
      | true => exact absurd (.inl hx) hg
    have := restN_len hae hg'
    split at h
    · cases h
    · rename_i hl
      rw [if_neg hg, if_neg hl]
      exact ⟨rfl, hg', by omega, cut_length h0 (by omega) (by omega)⟩
theorem preF_fine {d : Bs} {p ae plen om : Int} (h : greatB ae plen = false) (h0 : 0 ≤ restN ae plen om) (h2 : ¬ (d.length : Int) < p + restN ae plen om) : preF d p ae plen om = (cut_ d p (restN ae plen om), 0) := by
  unfold preF; rw [h, if_neg (by simp; omega), if_neg h2]
theorem num1_bt {d : Bs} {p : Nat} {q : Int} (hq : q = p) (h : p + 1 ≤ d.length) : num (cut_ d q 1) = bt d p := by subst hq; exact num1 h
theorem getR_is {ty at_ : Int} {d : Bs} (hd : d.length ≤ 1000) (ht : ty = 9 ∨ ty = 10) : g_route_Get (⟨ty, at_, d⟩, ()) = some (trip (routeG ty d), ()) := by
  have b0 := bt_rng d 0
  have b1 := bt_rng d 1
  have b4 := bt_rng d 4
  have nw := new_is d
  rw [g_route_Get_eq]
  dsimp only
  rw [nw, Option.bind_some]
  dsimp only
  rcases ht with rfl | rfl
  · by_cases hl : (d.length : Int) < 2
    · obtain ⟨v1, q1, c1, e1, k1, k2, k3, k4⟩ := rn_any (d := d) (p := 0) (n := 1) (b := false) (by omega) (by omega) (by omega) (by omega)
      obtain ⟨v2, q2, c2, e2, l1, l2, l3, l4⟩ := rn_any (d := d) (p := q1) (n := 1) (b := c1) (by omega) k1 k2 (by omega)
      have hc : c2 = true := by
        cases c2 with
        | true => rfl
        | false =>
          obtain ⟨rfl, g2⟩ := l3 rfl
          obtain ⟨_, g3⟩ := k3 rfl
          omega
      rw [e1, Option.bind_some]; dsimp only
      rw [e2, Option.bind_some]; dsimp only
      rw [if_neg (show ¬ ((9 : Int) == 10) = true by decide), if_pos hc]
      unfold routeG
      rw [if_neg (show ¬ (9 : Int) = 10 by decide), if_pos hl]
    · rw [rn_ok (by omega) (by omega) (by omega) (by omega), Option.bind_some]; dsimp only
      rw [rn_ok (by omega) (by omega) (by omega) (by omega), Option.bind_some]; dsimp only
      rw [if_neg (show ¬ ((9 : Int) == 10) = true by decide), iff_, num1_bt (p := 0) (q := 0) rfl (by omega), num1_bt (p := 1) (q := 0 + 1) rfl (by omega)]
      unfold routeG
      rw [if_neg (show ¬ (9 : Int) = 10 by decide), if_neg hl]
      by_cases ha : 3 < bt d 0
      · rw [ifd ha, if_pos ha]
      · have hae : 0 ≤ bt d 0 ∧ bt d 0 < 4 := by omega
        rw [ifn ha, if_neg ha]
        obtain ⟨r, e3, e4⟩ := pre_is (d := d) (p := 0 + 1 + 1) (ae := bt d 0) (plen := bt d 1) (om := 0) (by omega) (by omega) (by omega) hae (by omega) (by omega)
        rw [e3, Option.bind_some]
        dsimp only
        rw [show (0 : Int) + 1 + 1 = 2 from rfl] at e4 ⊢
        by_cases hp : (preF d 2 (bt d 0) (bt d 1) 0).2 = 0
        · obtain ⟨f1, f2, f3, f4⟩ := preF_ok hae (by omega) hp
          have f5 := restN_len hae f2
          obtain ⟨rfl, g1, g2⟩ := e4 hp
          obtain ⟨r', e5⟩ := rest_is (d := d) (p := 2 + restN (bt d 0) (bt d 1) 0) (by omega) (by omega) g2
          rw [hp, if_neg (show ¬ ((0 : Int) != 0) = true by decide), if_neg (show ¬ (0 : Int) ≠ 0 by decide), e5, Option.bind_some]
          dsimp only [trip]
          rw [whole_is hae (has64.2 (by omega)) (by omega) (by omega), Option.bind_some]
          generalize getS (d.drop (2 + restN (bt d 0) (bt d 1) 0).toNat) = x
          obtain ⟨x1, x2, x3⟩ := x
          dsimp only
          by_cases hx : x3 = 0
          · subst hx
            cases x2
            · rfl
            · rfl
          · rw [if_pos (show (x3 != 0) = true by simp [hx]), if_pos (.inl hx)]
        · rw [if_pos (show ((preF d 2 (bt d 0) (bt d 1) 0).2 != 0) = true by simp [hp]), if_pos hp]
  · by_cases hl : (d.length : Int) < 14
    · obtain ⟨v1, q1, c1, e1, k1, k2, k3, k4⟩ := rn_any (d := d) (p := 0) (n := 1) (b := false) (by omega) (by omega) (by omega) (by omega)
      obtain ⟨v2, q2, c2, e2, l1, l2, l3, l4⟩ := rn_any (d := d) (p := q1) (n := 1) (b := c1) (by omega) k1 k2 (by omega)
      obtain ⟨v3, q3, c3, e3, m1, m2, m3, m4⟩ := rn_any (d := d) (p := q2) (n := 2) (b := c2) (by omega) l1 l2 (by omega)
      obtain ⟨v4, q4, c4, e4, n1, n2, n3, n4⟩ := rn_any (d := d) (p := q3) (n := 1) (b := c3) (by omega) m1 m2 (by omega)
      obtain ⟨v5, q5, c5, e5, o1, o2, o3, o4⟩ := rn_any (d := d) (p := q4) (n := 1) (b := c4) (by omega) n1 n2 (by omega)
      obtain ⟨v6, q6, c6, e6, p1, p2, p3⟩ := rt_any (d := d) (p := q5) (n := 8) (b := c5) (by omega) o1 o2 (by omega)
      have hc : c6 = true := by
        cases c6 with
        | true => rfl
        | false =>
          obtain ⟨rfl, g2⟩ := p3 rfl
          obtain ⟨rfl, g3⟩ := o3 rfl
          obtain ⟨rfl, g4⟩ := n3 rfl
          obtain ⟨rfl, g5⟩ := m3 rfl
          obtain ⟨rfl, g6⟩ := l3 rfl
          obtain ⟨_, g7⟩ := k3 rfl
          omega
      rw [e1, Option.bind_some]; dsimp only
      rw [e2, Option.bind_some]; dsimp only
      rw [if_pos (show ((10 : Int) == 10) = true from rfl), e3, Option.bind_some]; dsimp only
      rw [e4, Option.bind_some]; dsimp only
      rw [e5, Option.bind_some]; dsimp only
      rw [e6, Option.bind_some]; dsimp only
      rw [if_pos hc]
      unfold routeG
      rw [if_pos (show (10 : Int) = 10 from rfl), if_pos hl]
    · rw [rn_ok (by omega) (by omega) (by omega) (by omega), Option.bind_some]; dsimp only
      rw [rn_ok (by omega) (by omega) (by omega) (by omega), Option.bind_some]; dsimp only
      rw [if_pos (show ((10 : Int) == 10) = true from rfl), rn_ok (by omega) (by omega) (by omega) (by omega), Option.bind_some]; dsimp only
      rw [rn_ok (by omega) (by omega) (by omega) (by omega), Option.bind_some]; dsimp only
      rw [rn_ok (by omega) (by omega) (by omega) (by omega), Option.bind_some]; dsimp only
      rw [rt_ok (by omega) (by omega) (by omega) (by omega), Option.bind_some]; dsimp only
      rw [iff_, num1_bt (p := 0) (q := 0) rfl (by omega), num1_bt (p := 1) (q := 0 + 1) rfl (by omega), num1_bt (p := 4) (q := 0 + 1 + 1 + 2) rfl (by omega)]
      unfold routeG
      rw [if_pos (show (10 : Int) = 10 from rfl), if_neg hl]
      by_cases ha : 3 < bt d 0
      · rw [ifd ha, if_pos ha]
      · have hae : 0 ≤ bt d 0 ∧ bt d 0 < 4 := by omega
        rw [ifn ha, if_neg ha]
        obtain ⟨r, e3, e4⟩ := pre_is (d := d) (p := 0 + 1 + 1 + 2 + 1 + 1 + 8) (ae := bt d 0) (plen := bt d 1) (om := 0) (by omega) (by omega) (by omega) hae (by omega) (by omega)
        rw [e3, Option.bind_some]
        dsimp only
        rw [show (0 : Int) + 1 + 1 + 2 + 1 + 1 + 8 = 14 from rfl] at e4 ⊢
        by_cases hp : (preF d 14 (bt d 0) (bt d 1) 0).2 = 0
        · obtain ⟨f1, f2, f3, f4⟩ := preF_ok hae (by omega) hp
          have f5 := restN_len hae f2
          obtain ⟨rfl, g1, g2⟩ := e4 hp
          obtain ⟨r', e5⟩ := rest_is (d := d) (p := 14 + restN (bt d 0) (bt d 1) 0) (by omega) (by omega) g2
          rw [hp, if_neg (show ¬ ((0 : Int) != 0) = true by decide), if_neg (show ¬ (0 : Int) ≠ 0 by decide), e5, Option.bind_some]
          dsimp only [trip]
          rw [whole_is hae (has64.2 (by omega)) (by omega) (by omega), Option.bind_some]
          generalize getS (d.drop (14 + restN (bt d 0) (bt d 1) 0).toNat) = x
          obtain ⟨x1, x2, x3⟩ := x
          dsimp only
          by_cases hx : x3 = 0
          · subst hx
            cases x2
            · rfl
            · rw [if_neg (show ¬ ((0 : Int) != 0) = true by decide), ifnt, if_neg (show ¬ ((0 : Int) ≠ 0 ∨ true = false) by decide), if_pos (show ((10 : Int) == 10) = true from rfl), if_pos (show (10 : Int) = 10 from rfl)]
              by_cases h0 : bt d 0 = 0
              · rw [if_pos (show (bt d 0 == 0) = true by simp [h0]), if_pos (show bt d 0 = 0 ∨ bt d 4 = 0 from .inl h0)]
              · rw [if_neg (show ¬ (bt d 0 == 0) = true by simp [h0])]
                by_cases h4 : bt d 4 = 0
                · rw [if_pos (show (bt d 4 == 0) = true by simp [h4]), if_pos (show bt d 0 = 0 ∨ bt d 4 = 0 from .inr h4)]
                · rw [if_neg (show ¬ (bt d 4 == 0) = true by simp [h4]), if_neg (show ¬ (bt d 0 = 0 ∨ bt d 4 = 0) from fun h => h.elim h0 h4)]
                  rfl
          · rw [if_pos (show (x3 != 0) = true by simp [hx]), if_pos (.inl hx)]
        · rw [if_pos (show ((preF d 14 (bt d 0) (bt d 1) 0).2 != 0) = true by simp [hp]), if_pos hp]
end Go.VP
set_option linter.unusedVariables false
set_option linter.unusedSimpArgs false
set_option maxRecDepth 100000
namespace Go.VP
open Go Go.VI
def takeG (d : Bs) : Raw × Bool × Int :=
  if (d.length : Int) < 10 then (raw0, false, 2)
  else if 3 < bt d 0 then (raw0, false, 0)
  else
    let b := preF d 10 (bt d 0) (bt d 2) (bt d 3)
    if b.2 ≠ 0 then (raw0, false, b.2)
    else
      let x := getS (d.drop (10 + restN (bt d 0) (bt d 2) (bt d 3)).toNat)
      if x.2.2 ≠ 0 then (raw0, false, x.2.2)
      else (⟨bt d 0, bt d 1, bt d 2, bt d 3, num (cut_ d 4 2), num (cut_ d 6 2), num (cut_ d 8 2), if x.2.1 = true then 1 else 0, b.1, x.1⟩, true, 0)
theorem take_is {ty at_ : Int} {d : Bs} (hd : d.length ≤ 1000) : g_route_Take (⟨ty, at_, d⟩, ()) = some (trip (takeG d), ()) := by
  have b0 := bt_rng d 0
  have b2 := bt_rng d 2
  have b3 := bt_rng d 3
  obtain ⟨c, hc⟩ := fuel_pos
  have f4 : fuel = (c + 999999999995) + 5 := by omega
  have f3 : fuel = (c + 999999999996) + 4 := by omega
  have nw := new_is d
  have st0 : ∀ (k : Nat) (a b e f : Int) (s : Bs) (p q : Int) (x : Bool) (i : Int), i < 4 → True := fun _ _ _ _ _ _ _ _ _ _ _ => trivial
  obtain ⟨v1, q1, c1, e1, j1, k1, l1, _⟩ := rn_any (d := d) (p := 0) (n := 1) (b := false) (by omega) (by omega) (by omega) (by omega)
  obtain ⟨v2, q2, c2, e2, j2, k2, l2, _⟩ := rn_any (d := d) (p := q1) (n := 1) (b := c1) (by omega) j1 k1 (by omega)
  obtain ⟨v3, q3, c3, e3, j3, k3, l3, _⟩ := rn_any (d := d) (p := q2) (n := 1) (b := c2) (by omega) j2 k2 (by omega)
  obtain ⟨v4, q4, c4, e4, j4, k4, l4, _⟩ := rn_any (d := d) (p := q3) (n := 1) (b := c3) (by omega) j3 k3 (by omega)
  obtain ⟨v5, q5, c5, e5, j5, k5, l5, _⟩ := rn_any (d := d) (p := q4) (n := 2) (b := c4) (by omega) j4 k4 (by omega)
  obtain ⟨v6, q6, c6, e6, j6, k6, l6, _⟩ := rn_any (d := d) (p := q5) (n := 2) (b := c5) (by omega) j5 k5 (by omega)
  obtain ⟨v7, q7, c7, e7, j7, k7, l7, _⟩ := rn_any (d := d) (p := q6) (n := 2) (b := c6) (by omega) j6 k6 (by omega)
  have w1 : ∀ i : Int, 0 ≤ i → i < 100 → IntKind.wrap .i64 (i + 1) = i + 1 := fun i h0 h1 => w64 (by omega) (by omega)
  have run : g_route_Take (⟨ty, at_, d⟩, ()) = (if c7 = true then some ((raw0, false, 2, ()), ()) else (if (decide (3 < v1)) = true then some ((raw0, false, 0, ()), ()) else ((g_route_reader_prefix (rrd d q7 c7, v1, v3, v4, ())).bind fun r9 => (if (r9.1.2.1 != 0) = true then some ((raw0, false, r9.1.2.1, ()), ()) else ((g_route_reader_rest (r9.2.1, ())).bind fun r10 => (if (r10.1.2.2.1 != 0) = true then some ((raw0, false, r10.1.2.2.1, ()), ()) else (if r10.1.2.1 = true then some (((S_api_Raw.mk v1 v2 v3 v4 v5 v6 v7 1 r9.1.1 r10.1.1), true, 0, ()), ()) else some (((S_api_Raw.mk v1 v2 v3 v4 v5 v6 v7 0 r9.1.1 r10.1.1), true, 0, ()), ())))))))) := by
    show h_route_Take fuel _ = _
    rw [h_route_Take_eq]
    dsimp only
    rw [nw, Option.bind_some]
    dsimp only
    have z : ∀ n : Nat, L_route_Take_0 n fuel 0 0 0 0 d 0 d.length false 0 = L_route_Take_0 n ((c + 999999999995) + 5) 0 0 0 0 d 0 d.length false 0 := fun n => by rw [← f4]
    have z2 : ∀ n : Nat, L_route_Take_1 n fuel v1 v2 v3 v4 0 0 0 d q4 d.length c4 0 = L_route_Take_1 n ((c + 999999999996) + 4) v1 v2 v3 v4 0 0 0 d q4 d.length c4 0 := fun n => by rw [← f3]
    rw [z, L_route_Take_0_eq, if_pos (show decide ((0 : Int) < 4) = true from rfl), if_pos (show (0 : Int) = 0 from rfl), e1, Option.bind_some, w1 0 (by omega) (by omega)]
    dsimp only
    rw [L_route_Take_0_eq, if_pos (show decide ((0 : Int) + 1 < 4) = true from rfl), if_neg (show ¬ (0 : Int) + 1 = 0 by decide), if_pos (show (0 : Int) + 1 = 1 from rfl), e2, Option.bind_some, w1 (0 + 1) (by omega) (by omega)]
    dsimp only
    rw [L_route_Take_0_eq, if_pos (show decide ((0 : Int) + 1 + 1 < 4) = true from rfl), if_neg (show ¬ (0 : Int) + 1 + 1 = 0 by decide), if_neg (show ¬ (0 : Int) + 1 + 1 = 1 by decide), if_pos (show (0 : Int) + 1 + 1 = 2 from rfl), e3, Option.bind_some, w1 (0 + 1 + 1) (by omega) (by omega)]
    dsimp only
    rw [L_route_Take_0_eq, if_pos (show decide ((0 : Int) + 1 + 1 + 1 < 4) = true from rfl), if_neg (show ¬ (0 : Int) + 1 + 1 + 1 = 0 by decide), if_neg (show ¬ (0 : Int) + 1 + 1 + 1 = 1 by decide), if_neg (show ¬ (0 : Int) + 1 + 1 + 1 = 2 by decide), if_pos (show (0 : Int) + 1 + 1 + 1 = 3 from rfl), e4, Option.bind_some, w1 (0 + 1 + 1 + 1) (by omega) (by omega)]
    dsimp only
    rw [L_route_Take_0_eq, if_neg (show ¬ decide ((0 : Int) + 1 + 1 + 1 + 1 < 4) = true by decide), z2, L_route_Take_1_eq, if_pos (show decide ((0 : Int) < 3) = true from rfl), if_pos (show (0 : Int) = 0 from rfl), e5, Option.bind_some, w1 0 (by omega) (by omega)]
    dsimp only
    rw [L_route_Take_1_eq, if_pos (show decide ((0 : Int) + 1 < 3) = true from rfl), if_neg (show ¬ (0 : Int) + 1 = 0 by decide), if_pos (show (0 : Int) + 1 = 1 from rfl), e6, Option.bind_some, w1 (0 + 1) (by omega) (by omega)]
    dsimp only
    rw [L_route_Take_1_eq, if_pos (show decide ((0 : Int) + 1 + 1 < 3) = true from rfl), if_neg (show ¬ (0 : Int) + 1 + 1 = 0 by decide), if_neg (show ¬ (0 : Int) + 1 + 1 = 1 by decide), if_pos (show (0 : Int) + 1 + 1 = 2 from rfl), e7, Option.bind_some, w1 (0 + 1 + 1) (by omega) (by omega)]
    dsimp only
    rw [L_route_Take_1_eq, if_neg (show ¬ decide ((0 : Int) + 1 + 1 + 1 < 3) = true by decide)]
  rw [run]
  unfold takeG
  by_cases hl : (d.length : Int) < 10
  · have hc7 : c7 = true := by
      cases c7 with
      | true => rfl
      | false =>
        obtain ⟨rfl, g7⟩ := l7 rfl
        obtain ⟨rfl, g6⟩ := l6 rfl
        obtain ⟨rfl, g5⟩ := l5 rfl
        obtain ⟨rfl, g4⟩ := l4 rfl
        obtain ⟨rfl, g3⟩ := l3 rfl
        obtain ⟨rfl, g2⟩ := l2 rfl
        obtain ⟨_, g1⟩ := l1 rfl
        omega
    rw [if_pos hc7, if_pos hl]
  ·
    have one : ∀ {p n v q : Int} {c : Bool}, g_route_reader_num (rrd d p false, n, ()) = some ((v, ()), (rrd d q c, ())) → 0 ≤ p → (1 ≤ n ∧ n ≤ 7) → p + n ≤ d.length → v = num (cut_ d p n) ∧ q = p + n ∧ c = false := by
      intro p n v q c h h0 hn hl
      rw [rn_ok (by omega) h0 hn hl] at h
      simp only [Option.some.injEq, Prod.mk.injEq, and_true, S_route_reader.mk.injEq, true_and] at h
      exact ⟨h.1.symm, h.2.1.symm, h.2.2.symm⟩
    obtain ⟨rfl, rfl, rfl⟩ := one e1 (by omega) (by omega) (by omega)
    obtain ⟨rfl, rfl, rfl⟩ := one e2 (by omega) (by omega) (by omega)
    obtain ⟨rfl, rfl, rfl⟩ := one e3 (by omega) (by omega) (by omega)
    obtain ⟨rfl, rfl, rfl⟩ := one e4 (by omega) (by omega) (by omega)
    obtain ⟨rfl, rfl, rfl⟩ := one e5 (by omega) (by omega) (by omega)
    obtain ⟨rfl, rfl, rfl⟩ := one e6 (by omega) (by omega) (by omega)
    obtain ⟨rfl, rfl, rfl⟩ := one e7 (by omega) (by omega) (by omega)
    rw [iff_, if_neg hl, num1_bt (p := 0) (q := 0) rfl (by omega), num1_bt (p := 1) (q := 0 + 1) rfl (by omega), num1_bt (p := 2) (q := 0 + 1 + 1) rfl (by omega), num1_bt (p := 3) (q := 0 + 1 + 1 + 1) rfl (by omega)]
    by_cases ha : 3 < bt d 0
    · rw [ifd ha, if_pos ha]
    · have hae : 0 ≤ bt d 0 ∧ bt d 0 < 4 := by omega
      obtain ⟨r, e3, e4⟩ := pre_is (d := d) (p := 0 + 1 + 1 + 1 + 1 + 2 + 2 + 2) (ae := bt d 0) (plen := bt d 2) (om := bt d 3) (by omega) (by omega) (by omega) hae (by omega) (by omega)
      rw [ifn ha, if_neg ha, e3, Option.bind_some]
      dsimp only
      rw [show (0 : Int) + 1 + 1 + 1 + 1 + 2 + 2 + 2 = 10 from rfl] at e4 ⊢
      by_cases hp : (preF d 10 (bt d 0) (bt d 2) (bt d 3)).2 = 0
      · obtain ⟨rfl, g1, g2⟩ := e4 hp
        obtain ⟨r', e5⟩ := rest_is (d := d) (p := 10 + restN (bt d 0) (bt d 2) (bt d 3)) (by omega) (by omega) g2
        rw [hp, if_neg (show ¬ ((0 : Int) != 0) = true by decide), if_neg (show ¬ (0 : Int) ≠ 0 by decide), e5, Option.bind_some]
        dsimp only [trip]
        generalize getS (d.drop (10 + restN (bt d 0) (bt d 2) (bt d 3)).toNat) = x
        obtain ⟨x1, x2, x3⟩ := x
        dsimp only
        by_cases hx : x3 = 0
        · subst hx
          cases x2 <;> rfl
        · rw [if_pos (show (x3 != 0) = true by simp [hx]), if_pos hx]
      · rw [if_pos (show ((preF d 10 (bt d 0) (bt d 2) (bt d 3)).2 != 0) = true by simp [hp]), if_pos hp]
end Go.VP
