import Derived.Test.YtbjjekbhopgonaaGreatG9FH
import Derived.Test.YtbjjekbhopgonaaGreatG9FQ0
import Derived.Test.YtbjjekbhopgonaaGreatG9FQ2
import Derived.Test.YtbjjekbhopgonaaGreatG9FQ1
import Derived.Test.YtbjjekbhopgonaaGreatG9FQ7
import Derived.Test.YtbjjekbhopgonaaGreatG9FQ8
import Derived.Test.YtbjjekbhopgonaaGreatG9FQ3
import Derived.Test.YtbjjekbhopgonaaGreatG9FQ6
import Derived.Test.YtbjjekbhopgonaaGreatG9FQ5
import Derived.Test.YtbjjekbhopgonaaGreatG9FQ15
import Derived.Test.YtbjjekbhopgonaaGreatG9FGood
import Derived.Test.YtbjjekbhopgonaaGreatG9FQ4
import Derived.Test.YtbjjekbhopgonaaGreatG9FQ16
set_option linter.unusedVariables false
set_option linter.unusedSimpArgs false
set_option maxRecDepth 100000
namespace Go.VP
open Go Go.VI
abbrev Bs := List UInt8
theorem w64 {x : Int} (h : -9223372036854775808 ≤ x) (h' : x ≤ 9223372036854775807) : IntKind.wrap .i64 x = x := by
  simp only [IntKind.wrap, IntKind.bits, IntKind.signed]
  simp
  omega
theorem wu64 {x : Int} (h : 0 ≤ x) (h' : x ≤ 18446744073709551615) : IntKind.wrap .u64 x = x := by
  simp only [IntKind.wrap, IntKind.bits, IntKind.signed]
  simp
  omega
theorem wu8 {x : Int} : IntKind.wrap .u8 x = x % 256 := by
  simp only [IntKind.wrap, IntKind.bits, IntKind.signed]
  simp
theorem w64n (b : UInt8) : IntKind.wrap .i64 (b.toNat : Int) = b.toNat := by
  have := b.toNat_lt; exact w64 (by omega) (by omega)
theorem has64 {x : Int} : IntKind.has .i64 x ↔ -9223372036854775808 ≤ x ∧ x ≤ 9223372036854775807 := by
  simp only [IntKind.has, IntKind.min, IntKind.max, IntKind.bits, IntKind.signed]
  simp
theorem has8 {x : Int} : IntKind.has .u8 x ↔ 0 ≤ x ∧ x ≤ 255 := by
  simp only [IntKind.has, IntKind.min, IntKind.max, IntKind.bits, IntKind.signed]
  simp
theorem maxB_of {n : Nat} (h : n ≤ 9223372036854775807) : maxB n = true := Nat.ble_eq_true_of_le h
theorem roomB_of {n : Nat} (h : n ≤ 35184372088832) : roomB n = true := Nat.ble_eq_true_of_le h
theorem fuel_pos : ∃ n, fuel = n + 1000000000000 := ⟨1124899906842624, rfl⟩
theorem fuel_ge {n : Nat} (h : n ≤ 1125899906842623) : n < fuel := Nat.lt_succ_of_le h
theorem ib8_xor {a b : Nat} (ha : a < 256) (hb : b < 256) : ibits .xor .u8 (a : Int) (b : Int) = ((a ^^^ b : Nat) : Int) := by
  unfold ibits
  show IntKind.wrap .u8 (((BitVec.ofInt 8 (a : Int) ^^^ BitVec.ofInt 8 (b : Int)).toNat : Nat) : Int) = _
  have h : a ^^^ b < 256 := Nat.xor_lt_two_pow (n := 8) ha hb
  rw [BitVec.toNat_xor, BitVec.ofInt_natCast, BitVec.ofInt_natCast, BitVec.toNat_ofNat, BitVec.toNat_ofNat, Nat.mod_eq_of_lt ha, Nat.mod_eq_of_lt hb, wu8]
  omega
theorem u8of_int (n : Int) : ((u8of n).toNat : Int) = if 0 ≤ n then n % 256 else 0 := by
  unfold u8of
  have : (n.toNat.toUInt8).toNat = n.toNat % 256 := by simp
  rw [this]
  split <;> omega
theorem u8of_emod' {n : Int} (h : 0 ≤ n) : u8of (n % 256) = u8of n := by
  apply UInt8.toNat.inj
  have h1 := u8of_int (n % 256); have h2 := u8of_int n
  rw [if_pos (by omega)] at h1; rw [if_pos h] at h2; omega
theorem u8_eq {a b : UInt8} (h : (a.toNat : Int) = b.toNat) : a = b := UInt8.toNat.inj (by omega)
def be : Nat → Int → Bs
  | 0, _ => []
  | k + 1, n => be k (n / 256) ++ [u8of (n % 256)]
theorem be_length : ∀ (k : Nat) (n : Int), (be k n).length = k
  | 0, _ => rfl
  | k + 1, n => by simp [be, be_length k]
theorem get_bt {s : Bs} {i : Nat} (h : i < s.length) : s[i]? = some (s[i]?.getD 0) := by simp [h]
theorem bind_at {α β : Type} {l : List α} {i : Nat} (h : i < l.length) (f : α → Option β) : (l[i]?.bind f) = f (l[i]'h) := by simp [h]
end Go.VP
set_option linter.unusedVariables false
set_option linter.unusedSimpArgs false
set_option maxRecDepth 100000
namespace Go.VP
open Go Go.VI
structure WfC (s : Bs) (p q : Int) : Prop where
  lo : 0 ≤ p
  hi : p ≤ q
  top : q ≤ s.length
  sz : s.length ≤ 1000000000000000
end Go.VP
set_option linter.unusedVariables false
set_option linter.unusedSimpArgs false
set_option maxRecDepth 100000
namespace Go.VP
open Go Go.VI
theorem ifd {α : Sort _} {p : Prop} [d : Decidable p] {a b : α} (h : p) : (if decide p = true then a else b) = a := if_pos (decide_eq_true h)
theorem ifn {α : Sort _} {p : Prop} [d : Decidable p] {a b : α} (h : ¬ p) : (if decide p = true then a else b) = b := if_neg (by simpa using h)
theorem ift {α : Sort _} {a b : α} : (if true = true then a else b) = a := rfl
theorem iff_ {α : Sort _} {a b : α} : (if false = true then a else b) = b := rfl
theorem ifnt {α : Sort _} {a b : α} : (if (!true) = true then a else b) = b := rfl
theorem ifnf {α : Sort _} {a b : α} : (if (!false) = true then a else b) = a := rfl
def fitsB (n : Int) (k : Nat) : Bool := decide (0 ≤ n ∧ n < 256 ^ k)
theorem pow8 (k : Nat) : (2 : Int) ^ (8 * k) = 256 ^ k := by rw [Int.pow_mul]; rfl
theorem fits_is {n : Int} {k : Nat} (hn : IntKind.has .i64 n) (h1 : 1 ≤ k) (h7 : k ≤ 7) : g_octet_Fits (n, (k : Int), ()) = some ((fitsB n k, ()), ()) := by
  rw [has64] at hn
  rw [g_octet_Fits_eq, ifd (by omega), ifd (by omega)]
  by_cases h0 : 0 ≤ n
  · rw [ifd h0, w64 (x := 8 * (k : Int)) (by omega) (by omega), wu64 (by omega) (by omega), if_pos (by omega)]
    have e : ishr .i64 n (8 * (k : Int)) = n / 256 ^ k := by
      unfold ishr
      rw [show min (8 * (k : Int)).toNat IntKind.i64.bits = 8 * k by simp only [IntKind.bits]; omega, pow8]
      exact Int.fdiv_eq_ediv_of_nonneg _ (Int.pow_nonneg (by decide))
    have hp : (0 : Int) < 256 ^ k := Int.pow_pos (by decide)
    rw [e]
    unfold fitsB
    by_cases hlt : n < 256 ^ k
    · rw [Int.ediv_eq_zero_of_lt h0 hlt]; simp [h0, hlt]
    · have : 1 ≤ n / 256 ^ k := Int.le_ediv_of_mul_le hp (by omega)
      have h2 : (n / 256 ^ k == 0) = false := by simp; omega
      rw [h2]; simp [hlt]
  · rw [ifn h0]; simp [fitsB, h0]
theorem rfits_loop {n x i : Int} {k c : Nat} (hk : k ≤ 7) : ∀ (d : Nat) (m i : Nat), i + d = k → d < m → x = 256 ^ i → L_ref02_Fits_0 c m n k x i = some ((decide (n < 256 ^ k), ()), ()) := by
  intro d
  induction d generalizing x with
  | zero =>
    intro m i h hm hx
    obtain ⟨m, rfl⟩ : ∃ k, m = k + 1 := ⟨m - 1, by omega⟩
    rw [L_ref02_Fits_0_eq, ifn (by omega), hx, show i = k by omega]
  | succ d ih =>
    intro m i h hm hx
    obtain ⟨m, rfl⟩ : ∃ k, m = k + 1 := ⟨m - 1, by omega⟩
    have hp : (256 : Int) ^ i ≤ 281474976710656 ∧ 0 ≤ (256 : Int) ^ i := by
      have : i ≤ 6 := by omega
      match i, this with
      | 0, _ | 1, _ | 2, _ | 3, _ | 4, _ | 5, _ | 6, _ => decide
    rw [L_ref02_Fits_0_eq, ifd (by omega), w64 (x := x * 256) (by omega) (by omega), w64 (by omega) (by omega)]
    have := ih (x := x * 256) m (i + 1) (by omega) (by omega) (by rw [hx, Int.pow_succ])
    rw [show ((i + 1 : Nat) : Int) = (i : Int) + 1 by omega] at this
    exact this
theorem rfits_is {n : Int} {k : Nat} (h1 : 1 ≤ k) (h7 : k ≤ 7) : g_ref02_Fits (n, (k : Int), ()) = some ((fitsB n k, ()), ()) := by
  show h_ref02_Fits fuel _ = _
  rw [h_ref02_Fits_eq, ifn (by omega), ifn (by omega)]
  unfold fitsB
  by_cases h0 : n < 0
  · rw [ifd h0]; simp; omega
  · have := rfits_loop (n := n) (x := 1) (i := 0) (c := fuel) h7 k fuel 0 (by omega) (fuel_ge (by omega)) (by simp)
    rw [ifn h0]
    simp only [Int.natCast_zero] at this
    rw [this]
    simp; omega
def oput (n : Int) (k : Nat) : Bs × Bool := if fitsB n k = true then (be k n, true) else ([], false)
end Go.VP
set_option linter.unusedVariables false
set_option linter.unusedSimpArgs false
set_option maxRecDepth 100000
namespace Go.VP
open Go Go.VI
abbrev Tlv := S_api_Tlv
abbrev Sub := S_api_Sub
def tput (t : Int) (d : Bs) : Bs × Bool := if 1 ≤ t ∧ t ≤ 255 ∧ d.length ≤ 255 then (u8of t :: u8of d.length :: d, true) else ([], false)
theorem u8of_emod (n : Int) (h : 0 ≤ n) : u8of (n % 256) = u8of n := by
  apply u8_eq; rw [u8of_int, u8of_int, if_pos (by omega), if_pos h]; omega
theorem tput_is (t : Int) (d : Bs) : g_frame_Put (t, d, ()) = some (((tput t d).1, (tput t d).2, ()), ()) := by
  rw [g_frame_Put_eq]
  unfold tput
  by_cases h1 : t < 1
  · rw [if_pos (by simpa using h1), if_neg (by omega)]
  · rw [if_neg (by simpa using h1)]
    by_cases h2 : 255 < t
    · rw [if_pos (by simpa using h2), if_neg (by omega)]
    · rw [if_neg (by simpa using h2)]
      by_cases h3 : (255 : Int) < d.length
      · rw [if_pos (by simpa using h3), if_neg (by omega)]
      · have hh : 1 ≤ t ∧ t ≤ 255 ∧ d.length ≤ 255 := by omega
        rw [if_neg (by simpa using h3), if_pos hh, wu8, wu8, u8of_emod _ (by omega), u8of_emod _ (by omega), if_pos (maxB_of (by simp; omega))]
        rfl
abbrev trip {α β γ : Type} (x : α × β × γ) : α × β × γ × Unit := (x.1, x.2.1, x.2.2, ())
end Go.VP
set_option linter.unusedVariables false
set_option linter.unusedSimpArgs false
set_option maxRecDepth 100000
namespace Go.VP
open Go Go.VI
def sumN : List Sub → Int
  | [] => 0
  | y :: l => 2 + (y.data.length : Int) + sumN l
def FewS (l : List Sub) : Prop := l.length ≤ 1000000000 ∧ ∀ y ∈ l, y.data.length ≤ 300
theorem FewS.tail {y : Sub} {l : List Sub} (h : FewS (y :: l)) : FewS l := ⟨by have := h.1; simp at this; omega, fun z hz => h.2 z (List.mem_cons_of_mem _ hz)⟩
theorem FewS.drop {l : List Sub} (h : FewS l) (i : Nat) : FewS (l.drop i) := ⟨by have := h.1; simp; omega, fun y hy => h.2 y (List.mem_of_mem_drop hy)⟩
theorem sumN_rng : ∀ {l : List Sub}, FewS l → 0 ≤ sumN l ∧ sumN l ≤ 302 * l.length
  | [], _ => by simp [sumN]
  | y :: l, h => by
    have := sumN_rng h.tail
    have hy := h.2 y (List.mem_cons_self ..)
    simp only [sumN, List.length_cons]
    omega
theorem bytes_loop {l : List Sub} {n : Nat} (hl : FewS l) : ∀ (d m i : Nat) (acc : Int), i + d = l.length → d < m → 0 ≤ acc → acc ≤ 302 * i →
    L_msg_Bytes_0 n m l acc i = some ((acc + sumN (l.drop i), ()), ()) := by
  have h1 := hl.1
  intro d
  induction d with
  | zero =>
    intro m i acc hd hm h2 h3
    obtain ⟨m, rfl⟩ : ∃ k, m = k + 1 := ⟨m - 1, by omega⟩
    rw [L_msg_Bytes_0_eq, ifn (by omega), List.drop_eq_nil_of_le (by omega)]
    simp [sumN]
  | succ d ih =>
    intro m i acc hd hm h2 h3
    obtain ⟨m, rfl⟩ : ∃ k, m = k + 1 := ⟨m - 1, by omega⟩
    have hlt : i < l.length := by omega
    have hy := hl.2 l[i] (List.getElem_mem hlt)
    rw [L_msg_Bytes_0_eq, ifd (by omega), if_pos (by omega), Int.toNat_natCast, bind_at hlt, w64 (x := 2 + (l[i].data.length : Int)) (by omega) (by omega), w64 (x := acc + (2 + (l[i].data.length : Int))) (by omega) (by omega), w64 (x := (i : Int) + 1) (by omega) (by omega)]
    have := ih m (i + 1) (acc + (2 + (l[i].data.length : Int))) (by omega) (by omega) (by omega) (by omega)
    rw [show ((i + 1 : Nat) : Int) = (i : Int) + 1 by omega] at this
    rw [this, List.drop_eq_getElem_cons hlt, sumN, Int.add_assoc]
theorem bytes_is {l : List Sub} (hl : FewS l) : g_msg_Bytes (l, ()) = some ((sumN l, ()), ()) := by
  show h_msg_Bytes fuel _ = _
  have := hl.1
  rw [h_msg_Bytes_eq]
  have := bytes_loop (n := fuel) hl l.length fuel 0 0 (by omega) (fuel_ge (by omega)) (by omega) (by omega)
  simpa using this
theorem rbytes_loop {l : List Sub} {n : Nat} (hl : FewS l) : ∀ (d m i : Nat) (acc : Int), i + d = l.length → d < m → 0 ≤ acc → acc ≤ 302 * i →
    L_ref07_Bytes_0 n m l acc i = some ((acc + sumN (l.drop i), ()), ()) := by
  have h1 := hl.1
  intro d
  induction d with
  | zero =>
    intro m i acc hd hm h2 h3
    obtain ⟨m, rfl⟩ : ∃ k, m = k + 1 := ⟨m - 1, by omega⟩
    rw [L_ref07_Bytes_0_eq, ifn (by omega), List.drop_eq_nil_of_le (by omega)]
    simp [sumN]
  | succ d ih =>
    intro m i acc hd hm h2 h3
    obtain ⟨m, rfl⟩ : ∃ k, m = k + 1 := ⟨m - 1, by omega⟩
    have hlt : i < l.length := by omega
    have hy := hl.2 l[i] (List.getElem_mem hlt)
    rw [L_ref07_Bytes_0_eq, ifd (by omega), if_pos (by omega), Int.toNat_natCast, bind_at hlt, w64 (x := acc + 2) (by omega) (by omega), w64 (x := acc + 2 + (l[i].data.length : Int)) (by omega) (by omega), w64 (x := (i : Int) + 1) (by omega) (by omega)]
    have := ih m (i + 1) (acc + 2 + (l[i].data.length : Int)) (by omega) (by omega) (by omega) (by omega)
    rw [show ((i + 1 : Nat) : Int) = (i : Int) + 1 by omega] at this
    rw [this, List.drop_eq_getElem_cons hlt, sumN, Int.add_assoc, Int.add_assoc, Int.add_assoc]
theorem rbytes_is {l : List Sub} (hl : FewS l) : g_ref07_Bytes (l, ()) = some ((sumN l, ()), ()) := by
  show h_ref07_Bytes fuel _ = _
  have := hl.1
  rw [h_ref07_Bytes_eq]
  have := rbytes_loop (n := fuel) hl l.length fuel 0 0 (by omega) (fuel_ge (by omega)) (by omega) (by omega)
  simpa using this
def subB (lo hi : Int) (y : Sub) : Bool := decide (lo ≤ y.type_ ∧ y.type_ ≤ hi ∧ y.data.length ≤ 255)
theorem subs_loop {l : List Sub} {n : Nat} (h1 : l.length ≤ 1000000000) (lo hi : Int) : ∀ (d m i : Nat), i + d = l.length → d < m →
    L_msg_Subs_0 n m lo hi l i = some (((l.drop i).all (subB lo hi), ()), ()) := by
  intro d
  induction d with
  | zero =>
    intro m i hd hm
    obtain ⟨m, rfl⟩ : ∃ k, m = k + 1 := ⟨m - 1, by omega⟩
    rw [L_msg_Subs_0_eq, ifn (by omega), List.drop_eq_nil_of_le (by omega)]
    rfl
  | succ d ih =>
    intro m i hd hm
    obtain ⟨m, rfl⟩ : ∃ k, m = k + 1 := ⟨m - 1, by omega⟩
    have hlt : i < l.length := by omega
    have := ih m (i + 1) (by omega) (by omega)
    rw [show ((i + 1 : Nat) : Int) = (i : Int) + 1 by omega] at this
    rw [L_msg_Subs_0_eq, ifd (by omega), if_pos (by omega), Int.toNat_natCast, bind_at hlt, w64 (x := (i : Int) + 1) (by omega) (by omega), this, List.drop_eq_getElem_cons hlt, List.all_cons]
    by_cases a : l[i].type_ < lo
    · rw [ifd a, show subB lo hi l[i] = false by simp [subB]; omega]; rfl
    · rw [ifn a]
      by_cases b : hi < l[i].type_
      · rw [ifd b, show subB lo hi l[i] = false by simp [subB]; omega]; rfl
      · rw [ifn b]
        by_cases c : (255 : Int) < l[i].data.length
        · rw [ifd c, show subB lo hi l[i] = false by simp [subB]; omega]; rfl
        · rw [ifn c, show subB lo hi l[i] = true by simp [subB]; omega, Bool.true_and]
theorem subs_is {l : List Sub} (h1 : l.length ≤ 1000000000) (lo hi : Int) : g_msg_Subs (l, lo, hi, ()) = some ((l.all (subB lo hi), ()), ()) := by
  show h_msg_Subs fuel _ = _
  rw [h_msg_Subs_eq]
  exact subs_loop (n := fuel) h1 lo hi l.length fuel 0 (by omega) (fuel_ge (by omega))
theorem rsubs_loop {l : List Sub} {n : Nat} (h1 : l.length ≤ 1000000000) (lo hi : Int) : ∀ (d m i : Nat), i + d = l.length → d < m →
    L_ref07_Subs_0 n m l lo hi i = some (((l.drop i).all (subB lo hi), ()), ()) := by
  intro d
  induction d with
  | zero =>
    intro m i hd hm
    obtain ⟨m, rfl⟩ : ∃ k, m = k + 1 := ⟨m - 1, by omega⟩
    rw [L_ref07_Subs_0_eq, ifn (by omega), List.drop_eq_nil_of_le (by omega)]
    rfl
  | succ d ih =>
    intro m i hd hm
    obtain ⟨m, rfl⟩ : ∃ k, m = k + 1 := ⟨m - 1, by omega⟩
    have hlt : i < l.length := by omega
    have := ih m (i + 1) (by omega) (by omega)
    rw [show ((i + 1 : Nat) : Int) = (i : Int) + 1 by omega] at this
    have hi' : (0 : Int) ≤ i := by omega
    rw [L_ref07_Subs_0_eq, ifd (by omega)]
    simp only [hi', if_true, Int.toNat_natCast, bind_at hlt]
    rw [w64 (x := (i : Int) + 1) (by omega) (by omega), this, List.drop_eq_getElem_cons hlt, List.all_cons]
    by_cases a : l[i].type_ < lo
    · rw [ifd a, show subB lo hi l[i] = false by simp [subB]; omega]; rfl
    · rw [ifn a]
      by_cases b : hi < l[i].type_
      · rw [ifd b, show subB lo hi l[i] = false by simp [subB]; omega]; rfl
      · rw [ifn b]
        by_cases c : (255 : Int) < l[i].data.length
        · rw [ifd c, show subB lo hi l[i] = false by simp [subB]; omega]; rfl
        · rw [ifn c, show subB lo hi l[i] = true by simp [subB]; omega, Bool.true_and]
theorem rsubs_is {l : List Sub} (h1 : l.length ≤ 1000000000) (lo hi : Int) : g_ref07_Subs (l, lo, hi, ()) = some ((l.all (subB lo hi), ()), ()) := by
  show h_ref07_Subs fuel _ = _
  rw [h_ref07_Subs_eq]
  exact rsubs_loop (n := fuel) h1 lo hi l.length fuel 0 (by omega) (fuel_ge (by omega))
def rightB (l : List Sub) : Bool := l.all (subB 2 127) && decide (sumN l ≤ 200)
theorem sright_is {l : List Sub} (hl : FewS l) : g_sub_Right (l, ()) = some ((rightB l, ()), ()) := by
  rw [g_sub_Right_eq, subs_is hl.1, Option.bind_some, bytes_is hl]
  unfold rightB
  dsimp only
  cases l.all (subB 2 127) <;> rfl
theorem rsright_is {l : List Sub} (hl : FewS l) : g_ref19_Right (l, ()) = some ((rightB l, ()), ()) := by
  rw [g_ref19_Right_eq, rsubs_is hl.1, Option.bind_some, rbytes_is hl]
  unfold rightB
  dsimp only
  cases l.all (subB 2 127) <;> rfl
def encS : List Sub → Bs
  | [] => []
  | y :: l => u8of y.type_ :: u8of y.data.length :: (y.data ++ encS l)
def AllR (l : List Sub) : Prop := ∀ y ∈ l, 2 ≤ y.type_ ∧ y.type_ ≤ 127 ∧ y.data.length ≤ 255
theorem allR_iff {l : List Sub} : l.all (subB 2 127) = true ↔ AllR l := by simp [subB, AllR]
theorem tput_r {y : Sub} (h : 2 ≤ y.type_ ∧ y.type_ ≤ 127 ∧ y.data.length ≤ 255) : tput y.type_ y.data = (u8of y.type_ :: u8of y.data.length :: y.data, true) := by
  unfold tput; rw [if_pos (by omega)]
theorem encS_length : ∀ (l : List Sub), ((encS l).length : Int) = sumN l
  | [] => rfl
  | y :: l => by have := encS_length l; simp [encS, sumN]; omega
theorem sput_loop {l : List Sub} {n : Nat} (hr : AllR l) (h1 : l.length ≤ 1000000) : ∀ (d m i : Nat) (acc : Bs), i + d = l.length → d < m → acc.length ≤ 257 * i →
    L_sub_Put_0 n m l acc i = some ((acc ++ encS (l.drop i), true, ()), ()) := by
  intro d
  induction d with
  | zero =>
    intro m i acc hd hm ha
    obtain ⟨m, rfl⟩ : ∃ k, m = k + 1 := ⟨m - 1, by omega⟩
    rw [L_sub_Put_0_eq, ifn (by omega), List.drop_eq_nil_of_le (by omega), encS, List.append_nil]
  | succ d ih =>
    intro m i acc hd hm ha
    obtain ⟨m, rfl⟩ : ∃ k, m = k + 1 := ⟨m - 1, by omega⟩
    have hlt : i < l.length := by omega
    have hy := hr l[i] (List.getElem_mem hlt)
    have := ih m (i + 1) (acc ++ (u8of l[i].type_ :: u8of l[i].data.length :: l[i].data)) (by omega) (by omega) (by simp; omega)
    rw [show ((i + 1 : Nat) : Int) = (i : Int) + 1 by omega] at this
    rw [L_sub_Put_0_eq, ifd (by omega), if_pos (by omega), Int.toNat_natCast, bind_at hlt, tput_is, tput_r hy, Option.bind_some]
    dsimp only
    rw [if_pos (roomB_of (by simp; omega)), w64 (by omega) (by omega), this, List.drop_eq_getElem_cons hlt, encS]
    simp
def putS (l : List Sub) : Bs × Bool := if rightB l = true then (encS l, true) else ([], false)
theorem rightB_split {l : List Sub} (h : rightB l = true) : AllR l ∧ sumN l ≤ 200 := by
  simp only [rightB, Bool.and_eq_true, allR_iff, decide_eq_true_eq] at h; exact h
theorem sput_is {l : List Sub} (hl : FewS l) (h1 : l.length ≤ 1000000) : g_sub_Put (l, ()) = some (((putS l).1, (putS l).2, ()), ()) := by
  show h_sub_Put fuel _ = _
  rw [h_sub_Put_eq, sright_is hl, Option.bind_some]
  unfold putS
  dsimp only
  by_cases h : rightB l = true
  · have := sput_loop (n := fuel) (rightB_split h).1 h1 l.length fuel 0 [] (by omega) (fuel_ge (by omega)) (by simp)
    rw [show ((0 : Nat) : Int) = 0 from rfl] at this
    rw [h, ifnt, this, ift]
    simp
  · rw [Bool.not_eq_true] at h
    rw [h, ifnf, iff_]
def keep : List Tlv → List Sub
  | [] => []
  | t :: l => if 2 ≤ t.type_ ∧ t.type_ ≤ 127 then ⟨t.type_, t.data⟩ :: keep l else keep l
theorem FewS.app {a b : List Sub} (h : ∀ y ∈ a, y.data.length ≤ 300) (h2 : ∀ y ∈ b, y.data.length ≤ 300) (h3 : a.length + b.length ≤ 1000000000) : FewS (a ++ b) :=
  ⟨by simpa using h3, fun y hy => (List.mem_append.1 hy).elim (h y) (h2 y)⟩
end Go.VP
set_option linter.unusedVariables false
set_option linter.unusedSimpArgs false
set_option maxRecDepth 100000
namespace Go.VP
open Go Go.VI
abbrev Msg := S_api_Msg
abbrev Dest := S_api_Dest
theorem ne_step {α R : Type} [BEq α] [LawfulBEq α] {x y : α} {f t r : R} (hne : x ≠ y → f = r) (heq : x = y → t = r) : (if (x != y) = true then f else t) = r := by
  by_cases h : x = y
  · rw [if_neg (by simp [h])]; exact heq h
  · rw [if_pos (by simp [h])]; exact hne h
theorem nq_step {α R : Type} [BEq α] [LawfulBEq α] {x y : α} {f t r : R} (hne : x ≠ y → f = r) (heq : x = y → t = r) : (if (!(x == y)) = true then f else t) = r := ne_step hne heq
open Classical in
noncomputable def eqB {α : Type} (a b : α) : Bool := decide (a = b)
theorem eqB_true {α : Type} {a b : α} : eqB a b = true ↔ a = b := by simp [eqB]
theorem eqB_refl {α : Type} (a : α) : eqB a a = true := eqB_true.2 rfl
theorem eqB_false {α : Type} {a b : α} (h : a ≠ b) : eqB a b = false := by simp [eqB, h]
theorem dests_loop {a b : List Dest} {n : Nat} (hl : a.length = b.length) (h1 : a.length ≤ 1000000000) : ∀ (d m i : Nat), i + d = a.length → d < m → L_ref07_dests_0 n m a b i = some ((eqB (a.drop i) (b.drop i), ()), ()) := by
  intro d
  induction d with
  | zero =>
    intro m i hd hm
    obtain ⟨m, rfl⟩ : ∃ k, m = k + 1 := ⟨m - 1, by omega⟩
    rw [L_ref07_dests_0_eq, ifn (by omega), List.drop_eq_nil_of_le (by omega), List.drop_eq_nil_of_le (by omega), eqB_refl]
  | succ d ih =>
    intro m i hd hm
    obtain ⟨m, rfl⟩ : ∃ k, m = k + 1 := ⟨m - 1, by omega⟩
    have ha : i < a.length := by omega
    have hb : i < b.length := by omega
    have := ih m (i + 1) (by omega) (by omega)
    rw [show ((i + 1 : Nat) : Int) = (i : Int) + 1 by omega] at this
    rw [L_ref07_dests_0_eq, ifd (by omega), if_pos (by omega), Int.toNat_natCast, bind_at ha, if_pos (by omega), bind_at hb, w64 (by omega) (by omega), this, List.drop_eq_getElem_cons ha, List.drop_eq_getElem_cons hb]
    generalize a[i] = x
    generalize b[i] = y
    obtain ⟨x1, x2⟩ := x
    obtain ⟨y1, y2⟩ := y
    dsimp only
    by_cases h : x1 = y1 ∧ x2 = y2
    · obtain ⟨rfl, rfl⟩ := h
      rw [if_neg (by simp)]
      simp [eqB]
    · have hx : ¬ ((⟨x1, x2⟩ : Dest) = ⟨y1, y2⟩) := by simpa using h
      have hb : ((x1 == y1) && (x2 == y2)) = false := by rw [Bool.eq_false_iff]; simpa using h
      rw [hb, ifnf, eqB_false]
      intro e
      injection e with e _
      exact hx e
theorem dests_is {a b : List Dest} (h1 : a.length ≤ 1000000000) : g_ref07_dests (a, b, ()) = some ((eqB a b, ()), ()) := by
  show h_ref07_dests fuel _ = _
  rw [h_ref07_dests_eq]
  refine ne_step (fun h => ?_) (fun h => ?_)
  · rw [eqB_false]; intro e; subst e; exact h rfl
  · exact dests_loop (n := fuel) (by omega) h1 a.length fuel 0 (by omega) (fuel_ge (by omega))
theorem subs2_loop {a b : List Sub} {n : Nat} (hl : a.length = b.length) (h1 : a.length ≤ 1000000000) : ∀ (d m i : Nat), i + d = a.length → d < m → L_ref07_subs_0 n m a b i = some ((eqB (a.drop i) (b.drop i), ()), ()) := by
  intro d
  induction d with
  | zero =>
    intro m i hd hm
    obtain ⟨m, rfl⟩ : ∃ k, m = k + 1 := ⟨m - 1, by omega⟩
    rw [L_ref07_subs_0_eq, ifn (by omega), List.drop_eq_nil_of_le (by omega), List.drop_eq_nil_of_le (by omega), eqB_refl]
  | succ d ih =>
    intro m i hd hm
    obtain ⟨m, rfl⟩ : ∃ k, m = k + 1 := ⟨m - 1, by omega⟩
    have ha : i < a.length := by omega
    have hb : i < b.length := by omega
    have := ih m (i + 1) (by omega) (by omega)
    rw [show ((i + 1 : Nat) : Int) = (i : Int) + 1 by omega] at this
    rw [L_ref07_subs_0_eq, ifd (by omega), if_pos (by omega), Int.toNat_natCast, bind_at ha, if_pos (by omega), bind_at hb, w64 (by omega) (by omega), this, List.drop_eq_getElem_cons ha, List.drop_eq_getElem_cons hb]
    generalize a[i] = x
    generalize b[i] = y
    obtain ⟨x1, x2⟩ := x
    obtain ⟨y1, y2⟩ := y
    dsimp only
    by_cases h : x1 = y1 ∧ x2 = y2
    · obtain ⟨rfl, rfl⟩ := h
      rw [if_neg (by simp)]
      simp [eqB]
    · have hx : ¬ ((⟨x1, x2⟩ : Sub) = ⟨y1, y2⟩) := by simpa using h
      have hb : ((x1 == y1) && (x2 == y2)) = false := by rw [Bool.eq_false_iff]; simpa using h
      rw [hb, ifnf, eqB_false]
      intro e
      injection e with e _
      exact hx e
theorem subs2_is {a b : List Sub} (h1 : a.length ≤ 1000000000) : g_ref07_subs (a, b, ()) = some ((eqB a b, ()), ()) := by
  show h_ref07_subs fuel _ = _
  rw [h_ref07_subs_eq]
  refine ne_step (fun h => ?_) (fun h => ?_)
  · rw [eqB_false]; intro e; subst e; exact h rfl
  · exact subs2_loop (n := fuel) (by omega) h1 a.length fuel 0 (by omega) (fuel_ge (by omega))
theorem same_is {a b : Msg} (h1 : a.list.length ≤ 1000000000) (h2 : a.subs.length ≤ 1000000000) : g_ref07_Same (a, b, ()) = some ((eqB a b, ()), ()) := by
  have hf : a ≠ b → (some ((false, ()), ()) : Option ((Bool × Unit) × Unit)) = some ((eqB a b, ()), ()) := fun h => by rw [eqB_false h]
  rw [g_ref07_Same_eq, dests_is h1, Option.bind_some, subs2_is h2, Option.bind_some]
  repeat (first | refine ne_step (fun h => hf (fun e => h (by rw [e]))) (fun h => ?_) | refine nq_step (fun h => hf (fun e => h (by rw [e]))) (fun h => ?_))
  dsimp only
  by_cases hl : a.list = b.list
  · rw [hl, eqB_refl, ift]
    by_cases hs : a.subs = b.subs
    · have : a = b := by
        cases a; cases b
        simp only at *
        simp [*]
      rw [hs, eqB_refl, this, eqB_refl]
    · rw [eqB_false hs, eqB_false]; intro e; exact hs (by rw [e])
  · rw [eqB_false hl, iff_]; exact hf (fun e => hl (by rw [e]))
structure Few (m : Msg) : Prop where
  list : m.list.length ≤ 300
  subs : m.subs.length ≤ 60
  ap : m.auth.length + m.prefix_.length ≤ 200
  ni : m.next.length + m.id.length ≤ 200
  ao : m.addr.length + m.orig.length ≤ 200
  data : m.data.length ≤ 300
  ds : ∀ d ∈ m.list, d.addr.length ≤ 50
  ss : ∀ s ∈ m.subs, s.data.length ≤ 300
structure Lite (m : Msg) : Prop where
  list : m.list.length ≤ 1000
  subs : m.subs.length ≤ 1000
  auth : m.auth.length ≤ 400
  pre : m.prefix_.length ≤ 400
  next : m.next.length ≤ 400
  id : m.id.length ≤ 400
  addr : m.addr.length ≤ 400
  orig : m.orig.length ≤ 400
  data : m.data.length ≤ 400
  ds : ∀ d ∈ m.list, d.addr.length ≤ 50
  ss : ∀ s ∈ m.subs, s.data.length ≤ 300
theorem Few.lite {m : Msg} (h : Few m) : Lite m := by
  have := h.list; have := h.subs; have := h.ap; have := h.ni; have := h.ao; have := h.data
  exact ⟨by omega, by omega, by omega, by omega, by omega, by omega, by omega, by omega, by omega, h.ds, h.ss⟩
theorem Lite.fewS {m : Msg} (h : Lite m) : FewS m.subs := ⟨by have := h.subs; omega, h.ss⟩
def GoodMsg (m : Msg) : Prop := m.auth.length ≤ 140737488351232 ∧ m.prefix_.length ≤ 140737488351232 ∧ m.next.length ≤ 140737488351232 ∧ m.id.length ≤ 140737488351232 ∧ m.addr.length ≤ 140737488351232 ∧ m.orig.length ≤ 140737488351232
theorem few1_loop {m0 : Msg} {n : Nat} (h1 : m0.subs.length ≤ 60) : ∀ (d m i : Nat), i + d = m0.subs.length → d < m → L_ref07_Few_1 n m m0 i = some (((m0.subs.drop i).all fun s => decide (s.data.length ≤ 300), ()), ()) := by
  intro d
  induction d with
  | zero =>
    intro m i hd hm
    obtain ⟨m, rfl⟩ : ∃ k, m = k + 1 := ⟨m - 1, by omega⟩
    rw [L_ref07_Few_1_eq, ifn (by omega), List.drop_eq_nil_of_le (by omega)]; rfl
  | succ d ih =>
    intro m i hd hm
    obtain ⟨m, rfl⟩ : ∃ k, m = k + 1 := ⟨m - 1, by omega⟩
    have ha : i < m0.subs.length := by omega
    have := ih m (i + 1) (by omega) (by omega)
    rw [show ((i + 1 : Nat) : Int) = (i : Int) + 1 by omega] at this
    rw [L_ref07_Few_1_eq, ifd (by omega), if_pos (by omega), Int.toNat_natCast, bind_at ha, w64 (by omega) (by omega), this, List.drop_eq_getElem_cons ha, List.all_cons]
    by_cases h : 300 < (m0.subs[i].data.length : Int)
    · rw [ifd h, decide_eq_false (by omega)]; rfl
    · rw [ifn h, decide_eq_true (by omega), Bool.true_and]
theorem few0_loop {m0 : Msg} {n : Nat} (h0 : m0.list.length ≤ 300) (h1 : m0.subs.length ≤ 60) (hn : 1000 ≤ n) : ∀ (d m i : Nat), i + d = m0.list.length → d < m → L_ref07_Few_0 n m m0 i = some (((m0.list.drop i).all (fun s => decide (s.addr.length ≤ 50)) && m0.subs.all fun s => decide (s.data.length ≤ 300), ()), ()) := by
  intro d
  induction d with
  | zero =>
    intro m i hd hm
    obtain ⟨m, rfl⟩ : ∃ k, m = k + 1 := ⟨m - 1, by omega⟩
    have := few1_loop (n := n) h1 m0.subs.length n 0 (by omega) (by omega)
    rw [show ((0 : Nat) : Int) = 0 from rfl, List.drop_zero] at this
    rw [L_ref07_Few_0_eq, ifn (by omega), List.drop_eq_nil_of_le (by omega), this]; rfl
  | succ d ih =>
    intro m i hd hm
    obtain ⟨m, rfl⟩ : ∃ k, m = k + 1 := ⟨m - 1, by omega⟩
    have ha : i < m0.list.length := by omega
    have := ih m (i + 1) (by omega) (by omega)
    rw [show ((i + 1 : Nat) : Int) = (i : Int) + 1 by omega] at this
    rw [L_ref07_Few_0_eq, ifd (by omega), if_pos (by omega), Int.toNat_natCast, bind_at ha, w64 (by omega) (by omega), this, List.drop_eq_getElem_cons ha, List.all_cons]
    by_cases h : 50 < (m0.list[i].addr.length : Int)
    · rw [ifd h, decide_eq_false (by omega)]; rfl
    · rw [ifn h, decide_eq_true (by omega), Bool.true_and]
theorem few_is {m : Msg} (g : GoodMsg m) : ∃ b, g_ref07_Few (m, ()) = some ((b, ()), ()) ∧ (b = true → Few m) := by
  obtain ⟨g1, g2, g3, g4, g5, g6⟩ := g
  show ∃ b, h_ref07_Few fuel _ = _ ∧ _
  rw [h_ref07_Few_eq, w64 (by omega) (by omega), w64 (by omega) (by omega), w64 (by omega) (by omega)]
  by_cases c1 : (300 : Int) < m.list.length
  · rw [ifd c1]; exact ⟨_, rfl, by simp⟩
  by_cases c2 : (60 : Int) < m.subs.length
  · rw [ifn c1, ifd c2]; exact ⟨_, rfl, by simp⟩
  by_cases c3 : (200 : Int) < m.auth.length + m.prefix_.length
  · rw [ifn c1, ifn c2, ifd c3]; exact ⟨_, rfl, by simp⟩
  by_cases c4 : (200 : Int) < m.next.length + m.id.length
  · rw [ifn c1, ifn c2, ifn c3, ifd c4]; exact ⟨_, rfl, by simp⟩
  by_cases c5 : (200 : Int) < m.addr.length + m.orig.length
  · rw [ifn c1, ifn c2, ifn c3, ifn c4, ifd c5]; exact ⟨_, rfl, by simp⟩
  by_cases c6 : (300 : Int) < m.data.length
  · rw [ifn c1, ifn c2, ifn c3, ifn c4, ifn c5, ifd c6]; exact ⟨_, rfl, by simp⟩
  have := few0_loop (m0 := m) (n := fuel) (by omega) (by omega) (Nat.le_of_lt (fuel_ge (by omega))) m.list.length fuel 0 (by omega) (fuel_ge (by omega))
  rw [show ((0 : Nat) : Int) = 0 from rfl, List.drop_zero] at this
  rw [ifn c1, ifn c2, ifn c3, ifn c4, ifn c5, ifn c6, this]
  refine ⟨_, rfl, fun h => ?_⟩
  simp only [Bool.and_eq_true, List.all_eq_true, decide_eq_true_eq] at h
  exact ⟨by omega, by omega, by omega, by omega, by omega, by omega, h.1, h.2⟩
def bareOf (m : Msg) : Option Msg :=
  if m.kind = 1 then some ⟨m.kind, m.cmd, m.ver, m.auth, m.family, 0, m.prefix_, m.plen, m.tag, m.next, m.metric, [], 0, 0, 0, 0, 0, 0, 0, [], [], [], 0, [], []⟩
  else if m.kind = 2 then some ⟨m.kind, m.cmd, 0, [], 0, 0, m.prefix_, m.plen, m.tag, m.next, m.metric, [], 0, 0, 0, 0, 0, 0, 0, [], [], [], 0, [], []⟩
  else if m.kind = 3 then some ⟨m.kind, 0, 0, [], 0, 0, [], 0, 0, [], 0, [], m.seq, m.seq2, 0, m.flags, m.hops, m.nonce, 0, m.addr, m.orig, [], 0, [], m.subs⟩
  else if m.kind = 4 then some ⟨m.kind, 0, 0, [], 0, 0, [], m.plen, 0, [], 0, [], m.seq, 0, m.interval, m.flags, m.hops, 0, 0, m.addr, m.orig, [], 0, [], m.subs⟩
  else if m.kind = 5 then some ⟨m.kind, 0, 0, [], 0, 0, [], 0, 0, [], 0, [], 0, 0, 0, m.flags, 0, 0, 0, [], [], m.list, 0, [], m.subs⟩
  else if m.kind = 6 then some ⟨m.kind, 0, 0, [], 0, 0, [], 0, 0, [], 0, [], 0, 0, 0, 0, 0, 0, 0, [], [], [], 0, [], m.subs⟩
  else if m.kind = 7 then some ⟨m.kind, 0, 0, [], 0, 0, [], 0, 0, [], 0, [], 0, 0, m.interval, 0, 0, m.nonce, 0, [], [], [], 0, [], m.subs⟩
  else if m.kind = 8 then some ⟨m.kind, 0, 0, [], 0, 0, [], 0, 0, [], 0, [], 0, 0, 0, 0, 0, m.nonce, 0, [], [], [], 0, [], m.subs⟩
  else if m.kind = 9 then some ⟨m.kind, 0, 0, [], 0, 0, [], 0, 0, [], 0, [], m.seq, 0, m.interval, m.flags, 0, 0, 0, [], [], [], 0, [], m.subs⟩
  else if m.kind = 10 then some ⟨m.kind, 0, 0, [], 0, m.ae, [], 0, 0, [], 0, [], 0, 0, m.interval, 0, 0, 0, m.cost, m.addr, [], [], 0, [], m.subs⟩
  else if m.kind = 11 then some ⟨m.kind, 0, 0, [], 0, m.ae, m.prefix_, m.plen, 0, m.next, m.metric, m.id, m.seq, 0, m.interval, 0, 0, 0, 0, [], [], [], 0, [], m.subs⟩
  else if m.kind = 12 then some ⟨m.kind, 0, 0, [], 0, m.ae, m.prefix_, m.plen, 0, [], 0, [], 0, 0, 0, 0, 0, 0, 0, [], [], [], 0, [], m.subs⟩
  else if m.kind = 13 then some ⟨m.kind, 0, 0, [], 0, m.ae, m.prefix_, m.plen, 0, [], 0, m.id, m.seq, 0, 0, 0, m.hops, 0, 0, [], [], [], 0, [], m.subs⟩
  else if m.kind = 14 then some ⟨m.kind, 0, 0, [], 0, 0, [], 0, 0, [], 0, [], 0, 0, 0, 0, 0, 0, 0, [], [], [], m.type_, m.data, []⟩
  else none
noncomputable def bareB (m : Msg) : Bool := match bareOf m with | some x => eqB x m | none => false
theorem bq_step {R : Type} {x y : Int} {f t r : R} (heq : x = y → t = r) (hne : x ≠ y → f = r) : (if (x == y) = true then t else f) = r := by
  by_cases h : x = y
  · rw [if_pos (by simp [h])]; exact heq h
  · rw [if_neg (by simp [h])]; exact hne h
theorem rbare_is {m : Msg} (h1 : m.list.length ≤ 1000000000) (h2 : m.subs.length ≤ 1000000000) : g_ref07_Bare (m, ()) = some ((bareB m, ()), ()) := by
  have go : ∀ x : Msg, x.list.length ≤ 1000000000 → x.subs.length ≤ 1000000000 → bareOf m = some x → ((g_ref07_Same (x, m, ())).bind fun r1 => some ((r1.1.1, ()), ())) = some ((bareB m, ()), ()) := by
    intro x h1 h2 hx
    rw [same_is h1 h2, bareB, hx]; rfl
  rw [g_ref07_Bare_eq]
  repeat refine bq_step (fun h => go _ (by first | exact h1 | (show 0 ≤ _; omega)) (by first | exact h2 | (show 0 ≤ _; omega)) (by simp [bareOf, *])) (fun h => ?_)
  simp [bareB, bareOf, *]
theorem band3 {A B C S : Bool} (h : S = (A && B && C)) : (if A = true then (if B = true then (some ((C, ()), ()) : Option ((Bool × Unit) × Unit)) else some ((false, ()), ())) else some ((false, ()), ())) = some ((S, ()), ()) := by
  subst h; cases A <;> cases B <;> rfl
theorem band2 {A B S : Bool} (h : S = (A && B)) : (if A = true then (if B = true then (some ((true, ()), ()) : Option ((Bool × Unit) × Unit)) else some ((false, ()), ())) else some ((false, ()), ())) = some ((S, ()), ()) := by
  subst h; cases A <;> cases B <;> rfl
theorem band1 {A S : Bool} (h : S = A) : (if A = true then (some ((true, ()), ()) : Option ((Bool × Unit) × Unit)) else some ((false, ()), ())) = some ((S, ()), ()) := by
  subst h; cases S <;> rfl
theorem eqB_true' {α : Type} {a b : α} : eqB a b = true ↔ b = a := by rw [eqB_true]; exact eq_comm
theorem len_nil {α : Type} (l : List α) : ((l.length : Int) = 0) ↔ l = [] := by cases l <;> simp; omega
theorem bare_is {m : Msg} : g_msg_Bare (m, ()) = some ((bareB m, ()), ()) := by
  obtain ⟨kind, cmd, ver, auth, family, ae, pre, plen, tag, next, metric, id, seq, seq2, interval, flags, hops, nonce, cost, addr, orig, list, typ, data, subs⟩ := m
  rw [g_msg_Bare_eq, g_msg_strip_eq, Option.bind_some]
  dsimp only
  repeat' first | (exfalso; omega) | refine bq_step (fun h => ?_) (fun h => ?_)
  all_goals first | refine band3 ?_ | refine band2 ?_ | refine band1 ?_ | skip
  all_goals (try (subst kind))
  all_goals rw [bareB, bareOf]
  all_goals (try simp only [*, if_true, if_false])
  all_goals first | rfl | skip
  all_goals rw [Bool.eq_iff_iff]
  all_goals simp only [eqB_true', S_api_Msg.mk.injEq, Bool.and_eq_true, beq_iff_eq, len_nil]
  all_goals (simp only [true_and, and_true, and_self]; first | done | (constructor <;> (intro h; simp only [h, and_self])))
end Go.VP
set_option linter.unusedVariables false
set_option linter.unusedSimpArgs false
set_option maxRecDepth 100000
namespace Go.VP
open Go Go.VI
def Small (m : Msg) : Prop := m.list.length ≤ 1000000000 ∧ m.subs.length ≤ 1000000000
theorem goodMsgA {m : Msg} (g : Good_api_Msg m) : GoodMsg m := by
  obtain ⟨g1, g2, g3, g4, g5, g6, g7, g8, g9, g10, g11, g12, g13, g14, g15, g16, g17, g18, g19, g20, g21, _⟩ := g
  exact ⟨g4, g7, g10, g12, g20, g21⟩
theorem fewA_loop {a : List Msg} {n : Nat} (g : ∀ m ∈ a, GoodMsg m) (hl : a.length ≤ 1000) : ∀ (d m i : Nat), i + d = a.length → d < m → ∃ b, L_ref07_FewAll_0 n m a i = some ((b, ()), ()) ∧ (b = true → ∀ m ∈ a.drop i, Few m) := by
  intro d
  induction d with
  | zero =>
    intro m i hd hm
    obtain ⟨m, rfl⟩ : ∃ k, m = k + 1 := ⟨m - 1, by omega⟩
    rw [L_ref07_FewAll_0_eq, ifn (by omega)]
    exact ⟨true, rfl, fun _ m hm => by rw [List.drop_eq_nil_of_le (by omega)] at hm; cases hm⟩
  | succ d ih =>
    intro m i hd hm
    obtain ⟨m, rfl⟩ : ∃ k, m = k + 1 := ⟨m - 1, by omega⟩
    have hi : i < a.length := by omega
    obtain ⟨b, h1, h2⟩ := ih m (i + 1) (by omega) (by omega)
    rw [show ((i + 1 : Nat) : Int) = (i : Int) + 1 by omega] at h1
    obtain ⟨c, k1, k2⟩ := few_is (g _ (List.getElem_mem hi))
    rw [L_ref07_FewAll_0_eq, ifd (by omega), if_pos (by omega), Int.toNat_natCast, bind_at hi, k1, Option.bind_some, w64 (by omega) (by omega), h1]
    cases c with
    | false => exact ⟨false, rfl, fun h => by cases h⟩
    | true =>
      refine ⟨b, rfl, fun h m hm => ?_⟩
      rw [List.drop_eq_getElem_cons hi] at hm
      rcases List.mem_cons.1 hm with rfl | hm
      · exact k2 rfl
      · exact h2 h m hm
theorem fewA_is {a : List Msg} {k : Int} (hk : k ≤ 1000) (g : ∀ m ∈ a, GoodMsg m) : ∃ b, g_ref07_FewAll (a, k, ()) = some ((b, ()), ()) ∧ (b = true → a.length ≤ k ∧ ∀ m ∈ a, Few m) := by
  show ∃ b, h_ref07_FewAll fuel (a, k, ()) = _ ∧ _
  rw [h_ref07_FewAll_eq]
  by_cases h : k < (a.length : Int)
  · rw [ifd h]; exact ⟨false, rfl, fun h => by cases h⟩
  · rw [ifn h]
    obtain ⟨b, h1, h2⟩ := fewA_loop (n := fuel) g (by omega) a.length fuel 0 (by omega) (fuel_ge (by omega))
    exact ⟨b, h1, fun hb => ⟨by omega, fun m hm => h2 hb m (by simpa using hm)⟩⟩
end Go.VP
set_option linter.unusedVariables false
set_option linter.unusedSimpArgs false
set_option maxRecDepth 100000
namespace Go.VP
open Go Go.VI
def linkP : Bs := [254, 128, 0, 0, 0, 0, 0, 0]
def linkB (a : Bs) : Bool := decide (a.length = 16) && (a.take 8 == linkP)
theorem hasP_is (a p : Bs) : g_strings_HasPrefix (a, p, ()) = some ((decide (p.length ≤ a.length) && (a.take p.length == p), ()), ()) := by
  rw [g_strings_HasPrefix_eq, g_internal_stringslite_HasPrefix_eq]
  by_cases h : p.length ≤ a.length
  · rw [ifd (by omega), if_pos (by omega), Option.bind_some, Int.toNat_natCast, decide_eq_true h]; rfl
  · rw [ifn (by omega), Option.bind_some, decide_eq_false h]; rfl
theorem link_is (a : Bs) : g_addr_Link (a, ()) = some ((linkB a, ()), ()) := by
  rw [g_addr_Link_eq, hasP_is, Option.bind_some]
  unfold linkB
  by_cases h : a.length = 16
  · rw [if_pos (by simp; omega), decide_eq_true h]
    have : decide (([254, 128, 0, 0, 0, 0, 0, 0] : Bs).length ≤ a.length) = true := by simp; omega
    rw [this]; rfl
  · rw [if_neg (by simp; omega), decide_eq_false h]; rfl
theorem rlink_is (a : Bs) : g_ref06_Link (a, ()) = some ((linkB a, ()), ()) := by
  rw [g_ref06_Link_eq, g_ref06_link_eq]
  unfold linkB
  by_cases h : a.length = 16
  · rw [if_pos (by simp; omega), if_pos (by omega), decide_eq_true h]; rfl
  · rw [if_neg (by simp; omega), decide_eq_false h]; rfl
theorem linkB_len {a : Bs} (h : linkB a = true) : a.length = 16 ∧ a.take 8 = linkP := by
  simpa [linkB] using h
def shortF (a : Bs) : Bs × Bool := if linkB a = true then (a.drop 8, true) else ([], false)
theorem short_is (a : Bs) : g_addr_Short (a, ()) = some (((shortF a).1, (shortF a).2, ()), ()) := by
  rw [g_addr_Short_eq, link_is, Option.bind_some]
  unfold shortF
  dsimp only
  by_cases h : linkB a = true
  · have := linkB_len h
    rw [h, ifnt, if_pos (by omega), ift]
  · rw [Bool.not_eq_true] at h
    rw [h, ifnf, iff_]
def famF (a : Bs) : Int := if a.length = 4 then 0 else if a.length = 16 then 1 else -1
theorem fam_is (a : Bs) : g_addr_Family (a, ()) = some ((famF a, ()), ()) := by
  rw [g_addr_Family_eq]
  unfold famF
  by_cases h : a.length = 4
  · rw [if_pos (by simp; omega), if_pos h]
  · rw [if_neg (by simp; omega), if_neg h]
    by_cases h2 : a.length = 16
    · rw [if_pos (by simp; omega), if_pos h2]
    · rw [if_neg (by simp; omega), if_neg h2]
end Go.VP
set_option linter.unusedVariables false
set_option linter.unusedSimpArgs false
set_option maxRecDepth 100000
namespace Go.VP
open Go Go.VI
def maskN (b k : Nat) : Nat := b / 2 ^ (8 - k) * 2 ^ (8 - k)
def maskB (b : UInt8) (k : Int) : UInt8 := UInt8.ofNat (maskN b.toNat (min k.toNat 8))
theorem maskN_le (b k : Nat) : maskN b k ≤ b := Nat.div_mul_le_self ..
theorem maskB_toNat (b : UInt8) (k : Int) : (maskB b k).toNat = maskN b.toNat (min k.toNat 8) := by
  have := maskN_le b.toNat (min k.toNat 8); have := b.toNat_lt
  unfold maskB; rw [UInt8.toNat_ofNat']; omega
theorem maskB_all {b : UInt8} {k : Int} (h : 8 ≤ k) : maskB b k = b := by
  apply UInt8.toNat.inj
  rw [maskB_toNat, show min k.toNat 8 = 8 by omega]; simp [maskN]
theorem maskB_none {b : UInt8} {k : Int} (h : k ≤ 0) : maskB b k = 0 := by
  apply UInt8.toNat.inj
  have := b.toNat_lt
  rw [maskB_toNat, show min k.toNat 8 = 0 by omega]; simp [maskN]; omega
def keepF : Bs → Int → Bs
  | [], _ => []
  | b :: r, n => maskB b n :: keepF r (n - 8)
theorem keepF_length : ∀ (s : Bs) (n : Int), (keepF s n).length = s.length
  | [], _ => rfl
  | b :: r, n => by simp [keepF, keepF_length r]
theorem keepF_all : ∀ {s : Bs} {n : Int}, 8 * (s.length : Int) ≤ n → keepF s n = s
  | [], _, _ => rfl
  | b :: r, n, h => by simp only [List.length_cons] at h; rw [keepF, maskB_all (by omega), keepF_all (by omega)]
theorem keepF_none : ∀ {s : Bs} {n : Int}, n ≤ 0 → keepF s n = List.replicate s.length 0
  | [], _, _ => rfl
  | b :: r, n, h => by rw [keepF, maskB_none h, keepF_none (by omega), List.length_cons, List.replicate_succ]
theorem keepF_append : ∀ (a b : Bs) (n : Int), keepF (a ++ b) n = keepF a n ++ keepF b (n - 8 * a.length)
  | [], b, n => by simp [keepF]
  | x :: a, b, n => by simp only [List.cons_append, keepF, keepF_append a b, List.length_cons]; congr 3; omega
theorem keepF_get : ∀ (s : Bs) (n : Int) (j : Nat) (h : j < s.length), (keepF s n)[j]'(by rw [keepF_length]; exact h) = maskB s[j] (n - 8 * j)
  | b :: r, n, 0, _ => by simp [keepF]
  | b :: r, n, j + 1, h => by
    have := keepF_get r (n - 8) j (by simpa using h)
    simp only [keepF, List.getElem_cons_succ, this]
    congr 1; omega
theorem keepF_mid {s : Bs} {n : Int} (h0 : 0 ≤ n) (h : n < 8 * s.length) : keepF s n = s.take (n / 8).toNat ++ maskB (s[(n / 8).toNat]'(by omega)) (n % 8) :: List.replicate (s.length - (n / 8).toNat - 1) 0 := by
  have hk : (n / 8).toNat < s.length := by omega
  have e : s = s.take (n / 8).toNat ++ (s[(n / 8).toNat] :: s.drop ((n / 8).toNat + 1)) := by rw [← List.drop_eq_getElem_cons hk, List.take_append_drop]
  have hl : (s.take (n / 8).toNat).length = (n / 8).toNat := by rw [List.length_take]; omega
  have := congrArg (fun x => keepF x n) e
  rw [this, keepF_append, hl, keepF_all (by omega), keepF, keepF_none (by omega), List.length_drop]
  congr 3
  all_goals omega
theorem andnot_all : ∀ y : Fin 256, ∀ j : Fin 8, (u8of (ibits .andNot .u8 (y.val : Int) (ishr .u8 255 (j.val : Int)))).toNat = maskN y.val j.val := by decide +kernel
theorem ib64_and7 {n : Int} (h0 : 0 ≤ n) (h : n ≤ 9223372036854775807) : ibits .and .i64 n 7 = n % 8 := by
  obtain ⟨a, rfl⟩ : ∃ a : Nat, n = a := ⟨n.toNat, by omega⟩
  unfold ibits
  show IntKind.wrap .i64 (((BitVec.ofInt 64 (a : Int) &&& BitVec.ofInt 64 ((7 : Nat) : Int)).toNat : Nat) : Int) = _
  have e : a &&& 7 = a % 8 := Nat.and_two_pow_sub_one_eq_mod a 3
  rw [BitVec.toNat_and, BitVec.ofInt_natCast, BitVec.ofInt_natCast, BitVec.toNat_ofNat, BitVec.toNat_ofNat, Nat.mod_eq_of_lt (by omega), Nat.mod_eq_of_lt (by omega), e, w64 (by omega) (by omega)]
  omega
theorem ishr3 {n : Int} (h0 : 0 ≤ n) : ishr .i64 n 3 = n / 8 := by
  unfold ishr
  rw [show ((2 : Int) ^ min (3 : Int).toNat IntKind.i64.bits) = 8 by decide]
  exact Int.fdiv_eq_ediv_of_nonneg _ (by decide)
theorem keep_is {s : Bs} {n : Int} (hs : s.length ≤ 1000000000) (hn : IntKind.has .i64 n) : g_bits_Keep (s, n, ()) = some ((keepF s n, ()), ()) := by
  rw [has64] at hn
  rw [g_bits_Keep_eq, w64 (x := 8 * (s.length : Int)) (by omega) (by omega)]
  by_cases h1 : 8 * (s.length : Int) ≤ n
  · rw [ifd h1, keepF_all h1]
  · rw [ifn h1, if_pos (show 0 ≤ (s.length : Int) ∧ (s.length : Int) ≤ roomI by unfold roomI; omega)]
    by_cases h2 : n ≤ 0
    · rw [ifd h2, keepF_none h2, Int.toNat_natCast]
    · rw [ifn h2, ishr3 (by omega), ib64_and7 (by omega) (by omega), wu64 (by omega) (by omega), if_pos (show 0 ≤ n / 8 ∧ n / 8 ≤ (s.length : Int) by omega), if_pos (show 0 ≤ n / 8 by omega)]
      have hk : (n / 8).toNat < s.length := by omega
      have hl : ((s.take (n / 8).toNat).take ((List.replicate (s.length : Int).toNat (0 : UInt8)).length) ++ (List.replicate (s.length : Int).toNat (0 : UInt8)).drop (s.take (n / 8).toNat).length).length = s.length := by
        simp; omega
      rw [bind_at hk, if_pos (show 0 ≤ n % 8 by omega), hl, if_pos (show 0 ≤ n / 8 ∧ n / 8 < (s.length : Int) by omega), if_pos hk, keepF_mid (by omega) (by omega)]
      have e1 : u8of (ibits .andNot .u8 ((s[(n / 8).toNat].toNat : Nat) : Int) (ishr .u8 255 (n % 8))) = maskB s[(n / 8).toNat] (n % 8) := by
        apply UInt8.toNat.inj
        have := andnot_all ⟨s[(n / 8).toNat].toNat, s[(n / 8).toNat].toNat_lt⟩ ⟨(n % 8).toNat, by omega⟩
        dsimp only at this
        rw [show (((n % 8).toNat : Nat) : Int) = n % 8 by omega] at this
        rw [this, maskB_toNat, show min (n % 8).toNat 8 = (n % 8).toNat by omega]
      have e2 : (s.take (n / 8).toNat).length = (n / 8).toNat := by rw [List.length_take]; omega
      have e3 : (s.take (n / 8).toNat).take ((List.replicate (s.length : Int).toNat (0 : UInt8)).length) = s.take (n / 8).toNat := List.take_of_length_le (by simp; omega)
      have e4 : (List.replicate (s.length : Int).toNat (0 : UInt8)).drop (n / 8).toNat = 0 :: List.replicate (s.length - (n / 8).toNat - 1) 0 := by
        rw [List.drop_replicate, Int.toNat_natCast, show s.length - (n / 8).toNat = (s.length - (n / 8).toNat - 1) + 1 by omega, List.replicate_succ]
        simp
      rw [e1, e3, e2, e4, List.set_append_right _ _ (by omega), e2, Nat.sub_self, List.set_cons_zero]
theorem mask_step : ∀ b : Fin 256, ∀ r : Fin 8, maskN b.val (r.val + 1) = maskN b.val r.val + b.val / 2 ^ (7 - r.val) % 2 * 2 ^ (7 - r.val) := by decide +kernel
theorem ishl_u8 : ∀ r : Fin 8, ishl .u8 1 (r.val : Int) = 2 ^ r.val := by decide +kernel
theorem bit_is {s : Bs} {i : Nat} (hs : s.length ≤ 1000000000) (h : i < 8 * s.length) : g_ref03_Bit (s, (i : Int), ()) = some ((decide ((s[i / 8]'(by omega)).toNat / 2 ^ (7 - i % 8) % 2 = 1), ()), ()) := by
  have hk : i / 8 < s.length := by omega
  have e1 : Int.tdiv (i : Int) 8 = ((i / 8 : Nat) : Int) := by rw [Int.tdiv_eq_ediv_of_nonneg (by omega)]; omega
  have e2 : Int.tmod (i : Int) 8 = ((i % 8 : Nat) : Int) := by rw [Int.tmod_eq_emod_of_nonneg (by omega)]; omega
  rw [g_ref03_Bit_eq, ifd (by omega), w64 (x := 8 * (s.length : Int)) (by omega) (by omega), ifd (by omega), e1, e2, w64 (x := ((i / 8 : Nat) : Int)) (by omega) (by omega), if_pos (by omega), Int.toNat_natCast, bind_at hk, w64 (x := 7 - ((i % 8 : Nat) : Int)) (by omega) (by omega), wu64 (by omega) (by omega), if_pos (by omega), w64n]
  have e3 : ishr .i64 ((s[i / 8].toNat : Nat) : Int) (7 - ((i % 8 : Nat) : Int)) = ((s[i / 8].toNat / 2 ^ (7 - i % 8) : Nat) : Int) := by
    unfold ishr
    rw [show min (7 - ((i % 8 : Nat) : Int)).toNat IntKind.i64.bits = 7 - i % 8 by simp only [IntKind.bits]; omega, Int.fdiv_eq_ediv_of_nonneg _ (Int.pow_nonneg (by decide))]
    simp
  rw [e3]
  have e4 : ∀ m : Nat, (Int.tmod (m : Int) 2 == 1) = decide (m % 2 = 1) := fun m => by
    rw [Int.tmod_eq_emod_of_nonneg (by omega), Bool.eq_iff_iff]; simp; omega
  rw [e4]
theorem keepF_succ {s : Bs} {i : Nat} (h : i < 8 * s.length) : keepF s (i + 1 : Nat) = (if (s[i / 8]'(by omega)).toNat / 2 ^ (7 - i % 8) % 2 = 1 then (keepF s i).set (i / 8) (UInt8.ofNat (((keepF s i)[i / 8]'(by rw [keepF_length]; omega)).toNat + 2 ^ (7 - i % 8))) else keepF s i) := by
  have hk : i / 8 < s.length := by omega
  have far : ∀ j (hj : j < s.length), j ≠ i / 8 → maskB (s[j]'hj) (((i + 1 : Nat) : Int) - 8 * j) = maskB (s[j]'hj) ((i : Int) - 8 * j) := by
    intro j hj hne
    by_cases hlt : j < i / 8
    · rw [maskB_all (by omega), maskB_all (by omega)]
    · rw [maskB_none (by omega), maskB_none (by omega)]
  have st := mask_step ⟨s[i / 8].toNat, s[i / 8].toNat_lt⟩ ⟨i % 8, by omega⟩
  dsimp only at st
  have m1 : (maskB s[i / 8] (((i + 1 : Nat) : Int) - 8 * ((i / 8 : Nat) : Int))).toNat = maskN s[i / 8].toNat (i % 8 + 1) := by rw [maskB_toNat]; congr 1; omega
  have m0 : (maskB s[i / 8] ((i : Int) - 8 * ((i / 8 : Nat) : Int))).toNat = maskN s[i / 8].toNat (i % 8) := by rw [maskB_toNat]; congr 1; omega
  apply List.ext_getElem
  · split <;> simp [keepF_length]
  · intro j h1 h2
    have hj : j < s.length := by rw [keepF_length] at h1; exact h1
    rw [keepF_get s _ j hj]
    split
    · rename_i hb
      rw [List.getElem_set]
      split
      · rename_i he
        subst he
        apply UInt8.toNat.inj
        have lt := (maskB s[i / 8] (((i + 1 : Nat) : Int) - 8 * ((i / 8 : Nat) : Int))).toNat_lt
        rw [m1] at lt
        rw [m1, keepF_get s _ _ hk, m0, UInt8.toNat_ofNat', st, hb, Nat.one_mul]
        rw [st, hb, Nat.one_mul] at lt
        exact (Nat.mod_eq_of_lt lt).symm
      · rw [keepF_get s _ j hj]; exact far j hj (by omega)
    · rename_i hb
      rw [keepF_get s _ j hj]
      by_cases he : j = i / 8
      · subst he
        apply UInt8.toNat.inj
        have : s[i / 8].toNat / 2 ^ (7 - i % 8) % 2 = 0 := by omega
        rw [m1, m0, st, this]; simp
      · exact far j hj he
theorem rkeep_loop {s : Bs} {n : Int} {c : Nat} (hs : s.length ≤ 1000000000) : ∀ (d m i : Nat), 8 * s.length - i = d → i ≤ 8 * s.length → (i : Int) ≤ n → d < m → L_ref03_Keep_0 c m s n i (keepF s i) = some ((keepF s n, ()), ()) := by
  intro d
  induction d with
  | zero =>
    intro m i hd hi hn hm
    obtain ⟨m, rfl⟩ : ∃ k, m = k + 1 := ⟨m - 1, by omega⟩
    rw [L_ref03_Keep_0_eq, w64 (x := 8 * (s.length : Int)) (by omega) (by omega), ifn (by omega), keepF_all (by omega), keepF_all (by omega)]
  | succ d ih =>
    intro m i hd hi hn hm
    obtain ⟨m, rfl⟩ : ∃ k, m = k + 1 := ⟨m - 1, by omega⟩
    rw [L_ref03_Keep_0_eq, w64 (x := 8 * (s.length : Int)) (by omega) (by omega), ifd (by omega)]
    by_cases h : (i : Int) < n
    · have hi' : i < 8 * s.length := by omega
      have e1 : Int.tdiv (i : Int) 8 = ((i / 8 : Nat) : Int) := by rw [Int.tdiv_eq_ediv_of_nonneg (by omega)]; omega
      have e2 : Int.tmod (i : Int) 8 = ((i % 8 : Nat) : Int) := by rw [Int.tmod_eq_emod_of_nonneg (by omega)]; omega
      have next := ih m (i + 1) (by omega) (by omega) (by omega) (by omega)
      rw [keepF_succ hi', show ((i + 1 : Nat) : Int) = (i : Int) + 1 by omega] at next
      rw [ifd h, bit_is hs hi', Option.bind_some, e1, e2, w64 (x := ((i / 8 : Nat) : Int)) (by omega) (by omega), w64 (x := 7 - ((i % 8 : Nat) : Int)) (by omega) (by omega), wu64 (by omega) (by omega), w64 (x := (i : Int) + 1) (by omega) (by omega), Int.toNat_natCast, keepF_length]
      dsimp only
      by_cases hb : (s[i / 8]'(by omega)).toNat / 2 ^ (7 - i % 8) % 2 = 1
      · rw [if_pos hb] at next
        have hk : i / 8 < (keepF s i).length := by rw [keepF_length]; omega
        rw [ifd hb, if_pos (by omega), bind_at hk, if_pos (by omega), if_pos (by omega), if_pos (by omega)]
        have e5 : u8of (IntKind.wrap .u8 ((((keepF s i)[i / 8]).toNat : Int) + ishl .u8 1 (7 - ((i % 8 : Nat) : Int)))) = UInt8.ofNat (((keepF s i)[i / 8]).toNat + 2 ^ (7 - i % 8)) := by
          have := ishl_u8 ⟨7 - i % 8, by omega⟩
          dsimp only at this
          rw [show ((7 - i % 8 : Nat) : Int) = 7 - ((i % 8 : Nat) : Int) by omega] at this
          rw [this, wu8]
          apply UInt8.toNat.inj
          have h1 := u8of_int ((((keepF s i)[i / 8]).toNat : Int) + 2 ^ (7 - i % 8))
          rw [u8of_emod' (by have : (0 : Int) ≤ 2 ^ (7 - i % 8) := Int.pow_nonneg (by decide); omega)]
          have : ((((keepF s i)[i / 8]).toNat : Int) + 2 ^ (7 - i % 8)) = (((((keepF s i)[i / 8]).toNat + 2 ^ (7 - i % 8) : Nat)) : Int) := by simp
          rw [this]
          unfold u8of
          rw [Int.toNat_natCast]
        rw [e5]
        exact next
      · rw [if_neg hb] at next
        rw [ifn hb]
        exact next
    · have : n = i := by omega
      rw [ifn h, this]
theorem rkeep_is {s : Bs} {n : Int} (hs : s.length ≤ 1000000000) : g_ref03_Keep (s, n, ()) = some ((keepF s n, ()), ()) := by
  show h_ref03_Keep fuel _ = _
  rw [h_ref03_Keep_eq, if_pos (by unfold roomI; omega), Int.toNat_natCast]
  by_cases h : 0 ≤ n
  · have := rkeep_loop (n := n) (c := fuel) hs (8 * s.length) fuel 0 (by omega) (by omega) (by omega) (fuel_ge (by omega))
    rw [keepF_none (n := ((0 : Nat) : Int)) (by omega)] at this
    exact this
  · obtain ⟨c, hc⟩ := fuel_pos
    have : fuel = (c + 999999999999) + 1 := by omega
    rw [keepF_none (by omega), this, L_ref03_Keep_0_eq, w64 (x := 8 * (s.length : Int)) (by omega) (by omega), ifn (show ¬ (0 : Int) < n by omega)]
    split <;> rfl
def cleanB (s : Bs) (n : Int) : Bool := keepF s n == s
theorem clean_is {s : Bs} {n : Int} (hs : s.length ≤ 1000000000) (hn : IntKind.has .i64 n) : g_bits_Clean (s, n, ()) = some ((cleanB s n, ()), ()) := by
  rw [g_bits_Clean_eq, keep_is hs hn]; rfl
theorem rclean_is {s : Bs} {n : Int} (hs : s.length ≤ 1000000000) : g_ref03_Clean (s, n, ()) = some ((cleanB s n, ()), ()) := by
  rw [g_ref03_Clean_eq, rkeep_is hs]; rfl
def leastF (n : Int) : Int := if n < 0 then 0 else (n + 7) / 8
theorem least_is {n : Int} (h : n ≤ 9000000000000000000) : g_prefix_Least (n, ()) = some ((leastF n, ()), ()) := by
  rw [g_prefix_Least_eq]
  unfold leastF
  by_cases h0 : n < 0
  · rw [if_pos (show 0 > n from h0), if_pos h0]; rfl
  · rw [if_neg (show ¬ 0 > n from h0), if_neg h0, w64 (by omega) (by omega), ishr3 (by omega)]
def cutF (a : Bs) (n : Int) : Bs := keepF (a.take (leastF n).toNat) n
theorem leastF_nn (n : Int) : 0 ≤ leastF n := by unfold leastF; split <;> omega
theorem min_toNat (a : Bs) (n : Int) (h : 0 ≤ n) : 0 ≤ (if (a.length : Int) < n then (a.length : Int) else n) ∧ (if (a.length : Int) < n then (a.length : Int) else n) ≤ (a.length : Int) ∧ a.take (if (a.length : Int) < n then (a.length : Int) else n).toNat = a.take n.toNat := by
  split
  · refine ⟨by omega, by omega, ?_⟩
    rw [Int.toNat_natCast, List.take_length, List.take_of_length_le (by omega)]
  · exact ⟨by omega, by omega, rfl⟩
theorem pcut_is {a : Bs} {n : Int} (ha : a.length ≤ 1000000000) (hn : IntKind.has .i64 n) (h : n ≤ 9000000000000000000) : g_prefix_Cut (a, n, ()) = some ((cutF a n, ()), ()) := by
  obtain ⟨m1, m2, m3⟩ := min_toNat a (leastF n) (leastF_nn n)
  rw [g_prefix_Cut_eq, least_is h, Option.bind_some]
  dsimp only
  rw [if_pos ⟨m1, m2⟩, m3, keep_is (by rw [List.length_take]; omega) hn]; rfl
end Go.VP
set_option linter.unusedVariables false
set_option linter.unusedSimpArgs false
set_option maxRecDepth 100000
namespace Go.VP
open Go Go.VI
def addrB (ae : Int) (a : Bs) : Bool := if ae = 0 then a == [] else if ae = 1 then decide (a.length = 4) else if ae = 2 then decide (a.length = 16) else if ae = 3 then linkB a else false
theorem addr_is (ae : Int) (a : Bs) : g_field_address (ae, a, ()) = some ((addrB ae a, ()), ()) := by
  rw [g_field_address_eq, fam_is, link_is]
  unfold addrB
  refine bq_step (fun h => ?_) (fun h => ?_)
  · rw [if_pos h]
  rw [if_neg h]
  refine bq_step (fun h => ?_) (fun h => ?_)
  · rw [if_pos h, Option.bind_some]
    unfold famF; split
    · simp [*]
    · split <;> simp [*]
  rw [if_neg h]
  refine bq_step (fun h => ?_) (fun h => ?_)
  · rw [if_pos h, Option.bind_some]
    unfold famF; split
    · simp [*]
    · split <;> simp [*]
  rw [if_neg h]
  refine bq_step (fun h => ?_) (fun h => ?_)
  · rw [if_pos h, Option.bind_some]
  rw [if_neg h]
theorem raddr_is (ae : Int) (a : Bs) : g_ref20_addr (ae, a, ()) = some ((addrB ae a, ()), ()) := by
  rw [g_ref20_addr_eq, rlink_is]
  unfold addrB
  refine bq_step (fun h => ?_) (fun h => ?_)
  · rw [if_pos h]
  rw [if_neg h]
  refine bq_step (fun h => ?_) (fun h => ?_)
  · rw [if_pos h]
    have : ((a.length : Int) == 4) = decide (a.length = 4) := by rw [Bool.eq_iff_iff]; simp; omega
    rw [this]
  rw [if_neg h]
  refine bq_step (fun h => ?_) (fun h => ?_)
  · rw [if_pos h]
    have : ((a.length : Int) == 16) = decide (a.length = 16) := by rw [Bool.eq_iff_iff]; simp; omega
    rw [this]
  rw [if_neg h]
  refine bq_step (fun h => ?_) (fun h => ?_)
  · rw [if_pos h, Option.bind_some]
  rw [if_neg h]
def kindF (m : Msg) : Bool := if m.kind = 7 then true else if m.kind = 8 then true else if m.kind = 9 then (m.flags == 0 || m.flags == 1) else if m.kind = 10 then addrB m.ae m.addr else false
noncomputable def fieldB (m : Msg) : Bool := fitsB m.nonce 2 && (fitsB m.interval 2 && (fitsB m.seq 2 && (fitsB m.cost 2 && (bareB m && (rightB m.subs && kindF m)))))
structure GoodM (m : Msg) : Prop where
  few : Lite m
  nonce : IntKind.has .i64 m.nonce
  interval : IntKind.has .i64 m.interval
  seq : IntKind.has .i64 m.seq
  cost : IntKind.has .i64 m.cost
  kind : IntKind.has .i64 m.kind
  flags : IntKind.has .i64 m.flags
  ae : IntKind.has .i64 m.ae
  plen : IntKind.has .i64 m.plen
  hops : IntKind.has .i64 m.hops
theorem kindF_is {m : Msg} {c : Option ((Bool × Unit) × Unit)} (hc : c = some ((addrB m.ae m.addr, ()), ())) :
  (if (m.kind == 7) = true then (if (m.kind == 7) = true then some ((true, ()), ()) else (if (m.kind == 9) = true then (if (m.flags == 0) = true then some ((true, ()), ()) else some (((m.flags == 1), ()), ())) else (if (m.kind == 10) = true then (c.bind fun r5 => some ((r5.1.1, ()), ())) else some ((false, ()), ())))) else (if (m.kind == 8) = true then some ((true, ()), ()) else (if (m.kind == 9) = true then (if (m.flags == 0) = true then some ((true, ()), ()) else some (((m.flags == 1), ()), ())) else (if (m.kind == 10) = true then (c.bind fun r6 => some ((r6.1.1, ()), ())) else some ((false, ()), ()))))) = some ((kindF m, ()), ()) := by
  subst hc
  unfold kindF
  refine bq_step (fun h => ?_) (fun h => ?_)
  · rw [if_pos h, if_pos (by simp [h])]
  rw [if_neg h]
  refine bq_step (fun h => ?_) (fun h => ?_)
  · rw [if_pos h]
  rw [if_neg h]
  refine bq_step (fun h => ?_) (fun h => ?_)
  · rw [if_pos h]
    refine bq_step (fun h2 => ?_) (fun h2 => ?_)
    · simp [h2]
    · have : (m.flags == 0) = false := by simpa using h2
      rw [this, Bool.false_or]
  rw [if_neg h]
  refine bq_step (fun h => ?_) (fun h => ?_)
  · rw [if_pos h, Option.bind_some]
  rw [if_neg h]
theorem right_is {m : Msg} (g : GoodM m) : g_field_Right (m, ()) = some ((fieldB m, ()), ()) := by
  have f2 : ∀ {n : Int}, IntKind.has .i64 n → g_octet_Fits (n, 2, ()) = some ((fitsB n 2, ()), ()) := fun h => fits_is (k := 2) h (by omega) (by omega)
  obtain ⟨c, hc⟩ := fuel_pos
  show h_field_Right fuel _ = _
  rw [h_field_Right_eq, show ([m.nonce, m.interval, m.seq, m.cost] : List Int).length = 4 from rfl]
  have e0 : fuel = (c + 999999999995) + 5 := by omega
  have st : ∀ (k : Nat) (i : Nat) (x : Int), [m.nonce, m.interval, m.seq, m.cost][i]? = some x → i < 4 → IntKind.has .i64 x → L_field_Right_0 fuel (k + 1) m [m.nonce, m.interval, m.seq, m.cost] ((4 : Nat) : Int) i = (if (!fitsB x 2) = true then some ((false, ()), ()) else L_field_Right_0 fuel k m [m.nonce, m.interval, m.seq, m.cost] ((4 : Nat) : Int) ((i + 1 : Nat) : Int)) := by
    intro k i x hx hi hh
    rw [L_field_Right_0_eq, ifd (by omega), if_pos (by omega), Int.toNat_natCast, hx, Option.bind_some, f2 hh, Option.bind_some, w64 (by omega) (by omega)]
    rfl
  have last : ∀ k, L_field_Right_0 fuel (k + 1) m [m.nonce, m.interval, m.seq, m.cost] ((4 : Nat) : Int) ((4 : Nat) : Int) = some ((bareB m && (rightB m.subs && kindF m), ()), ()) := by
    intro k
    rw [L_field_Right_0_eq, ifn (by omega), bare_is, Option.bind_some, sright_is g.few.fewS, Option.bind_some]
    dsimp only
    rw [kindF_is (addr_is _ _)]
    cases bareB m
    · rfl
    · cases rightB m.subs <;> rfl
  have := st (c + 999999999999) 0 m.nonce rfl (by omega) g.nonce
  rw [show c + 999999999999 + 1 = fuel by omega] at this
  rw [show (0 : Int) = ((0 : Nat) : Int) from rfl, this]
  have := st (c + 999999999998) 1 m.interval rfl (by omega) g.interval
  rw [this]
  have := st (c + 999999999997) 2 m.seq rfl (by omega) g.seq
  rw [this]
  have := st (c + 999999999996) 3 m.cost rfl (by omega) g.cost
  rw [this]
  have := last (c + 999999999995)
  rw [this]
  unfold fieldB
  cases fitsB m.nonce 2
  · rfl
  · cases fitsB m.interval 2
    · rfl
    · cases fitsB m.seq 2
      · rfl
      · cases fitsB m.cost 2 <;> rfl
theorem rtwo_is (n : Int) : g_ref20_two (n, ()) = some ((fitsB n 2, ()), ()) := by
  have := rfits_is (n := n) (k := 2) (by omega) (by omega)
  rw [g_ref20_two_eq, show (2 : Int) = ((2 : Nat) : Int) from rfl, this]; rfl
theorem rright_is {m : Msg} (g : GoodM m) : g_ref20_Right (m, ()) = some ((fieldB m, ()), ()) := by
  have := g.few.list; have := g.few.subs
  rw [g_ref20_Right_eq, rbare_is (by omega) (by omega), Option.bind_some, rsright_is g.few.fewS, Option.bind_some]
  simp only [rtwo_is, Option.bind_some]
  rw [kindF_is (raddr_is _ _)]
  unfold fieldB
  cases bareB m
  · simp
  · cases rightB m.subs
    · simp
    · cases fitsB m.nonce 2
      · rfl
      · cases fitsB m.interval 2
        · rfl
        · cases fitsB m.seq 2
          · rfl
          · cases fitsB m.cost 2 <;> rfl
def fieldsF (m : Msg) : Bs :=
  if m.kind = 7 then be 2 0 ++ (be 2 m.nonce ++ be 2 m.interval)
  else if m.kind = 8 then be 2 m.nonce
  else if m.kind = 9 then be 2 (32768 * m.flags) ++ (be 2 m.seq ++ be 2 m.interval)
  else be 2 (256 * m.ae) ++ (be 2 m.cost ++ (be 2 m.interval ++ (if m.ae = 3 then m.addr.drop 8 else m.addr)))
noncomputable def fieldPut (m : Msg) : Bs × Bool := if fieldB m = true then tput (m.kind - 5) (fieldsF m ++ encS m.subs) else ([], false)
theorem be2 {n : Int} (h : 0 ≤ n ∧ n < 65536) : [u8of (IntKind.wrap .u8 (ishr .i64 n 8)), u8of (IntKind.wrap .u8 n)] = be 2 n := by
  have e : ishr .i64 n 8 = n / 256 := by
    unfold ishr
    rw [show ((2 : Int) ^ min (8 : Int).toNat IntKind.i64.bits) = 256 by decide]
    exact Int.fdiv_eq_ediv_of_nonneg _ (by decide)
  rw [e, wu8, wu8]; rfl
theorem two_loop {l : List Int} {n : Nat} (hl : l.length ≤ 10) (hr : ∀ x ∈ l, 0 ≤ x ∧ x < 65536) : ∀ (d m i : Nat) (b : Bs), i + d = l.length → d < m → b.length ≤ 1000 + 2 * i →
    L_field_writer_two_0 n m l i b = some ((), (⟨b ++ (l.drop i).flatMap (be 2)⟩, ())) := by
  intro d
  induction d with
  | zero =>
    intro m i b hd hm hb
    obtain ⟨m, rfl⟩ : ∃ k, m = k + 1 := ⟨m - 1, by omega⟩
    rw [L_field_writer_two_0_eq, ifn (by omega), List.drop_eq_nil_of_le (by omega)]
    simp
  | succ d ih =>
    intro m i b hd hm hb
    obtain ⟨m, rfl⟩ : ∃ k, m = k + 1 := ⟨m - 1, by omega⟩
    have hi : i < l.length := by omega
    have := ih m (i + 1) (b ++ be 2 l[i]) (by omega) (by omega) (by simp [be_length]; omega)
    rw [show ((i + 1 : Nat) : Int) = (i : Int) + 1 by omega] at this
    rw [L_field_writer_two_0_eq, ifd (by omega), if_pos (by omega), Int.toNat_natCast, bind_at hi, if_pos (roomB_of (by simp; omega)), be2 (hr _ (List.getElem_mem hi)), w64 (by omega) (by omega), this, List.drop_eq_getElem_cons hi]
    simp only [List.flatMap_cons, List.append_assoc]
theorem two_is {l : List Int} {b : Bs} (hl : l.length ≤ 10) (hr : ∀ x ∈ l, 0 ≤ x ∧ x < 65536) (hb : b.length ≤ 1000) : g_field_writer_two (⟨b⟩, l, ()) = some ((), (⟨b ++ l.flatMap (be 2)⟩, ())) := by
  show h_field_writer_two fuel _ = _
  rw [h_field_writer_two_eq]
  exact two_loop (n := fuel) hl hr l.length fuel 0 b (by omega) (fuel_ge (by omega)) (by omega)
structure FieldR (m : Msg) : Prop where
  nonce : 0 ≤ m.nonce ∧ m.nonce < 65536
  interval : 0 ≤ m.interval ∧ m.interval < 65536
  seq : 0 ≤ m.seq ∧ m.seq < 65536
  cost : 0 ≤ m.cost ∧ m.cost < 65536
  bare : bareB m = true
  subs : rightB m.subs = true
  kind : kindF m = true
theorem fitsB2 {n : Int} : fitsB n 2 = true ↔ 0 ≤ n ∧ n < 65536 := by simp [fitsB]
theorem fieldR_iff {m : Msg} : fieldB m = true ↔ FieldR m := by
  unfold fieldB
  simp only [Bool.and_eq_true, fitsB2]
  exact ⟨fun ⟨a, b, c, d, e, f, g⟩ => ⟨a, b, c, d, e, f, g⟩, fun h => ⟨h.1, h.2, h.3, h.4, h.5, h.6, h.7⟩⟩
theorem FieldR.kinds {m : Msg} (h : FieldR m) : m.kind = 7 ∨ m.kind = 8 ∨ (m.kind = 9 ∧ (m.flags = 0 ∨ m.flags = 1)) ∨ (m.kind = 10 ∧ addrB m.ae m.addr = true) := by
  have := h.kind
  unfold kindF at this
  split at this
  · omega
  · split at this
    · omega
    · split at this
      · simp at this; exact .inr (.inr (.inl ⟨by assumption, this⟩))
      · split at this
        · exact .inr (.inr (.inr ⟨by assumption, this⟩))
        · cases this
theorem addrB_cases {ae : Int} {a : Bs} (h : addrB ae a = true) : (ae = 0 ∧ a = []) ∨ (ae = 1 ∧ a.length = 4) ∨ (ae = 2 ∧ a.length = 16) ∨ (ae = 3 ∧ linkB a = true) := by
  unfold addrB at h
  split at h
  · simp at h; exact .inl ⟨by assumption, h⟩
  · split at h
    · simp at h; exact .inr (.inl ⟨by assumption, h⟩)
    · split at h
      · simp at h; exact .inr (.inr (.inl ⟨by assumption, h⟩))
      · split at h
        · exact .inr (.inr (.inr ⟨by assumption, h⟩))
        · cases h
theorem ishl_ok {x : Int} {k : Nat} (hx : 0 ≤ x ∧ x < 65536) (hk : k ≤ 15) : ishl .i64 x k = 2 ^ k * x := by
  unfold ishl
  rw [Int.mul_comm]
  have e : min (k : Int).toNat IntKind.i64.bits = k := by simp only [IntKind.bits]; omega
  rw [e]
  have hp : (2 : Int) ^ k ≤ 32768 ∧ 1 ≤ (2 : Int) ^ k := by
    match k, hk with
    | 0, _ | 1, _ | 2, _ | 3, _ | 4, _ | 5, _ | 6, _ | 7, _ | 8, _ | 9, _ | 10, _ | 11, _ | 12, _ | 13, _ | 14, _ | 15, _ => decide
  have h1 : x * 2 ^ k ≤ 65536 * 32768 := Int.mul_le_mul (by omega) hp.1 (by omega) (by omega)
  have h0 : 0 ≤ x * 2 ^ k := Int.mul_nonneg hx.1 (by omega)
  rw [w64 (by omega) (by omega), Int.mul_comm]
theorem putS_r {l : List Sub} (h : rightB l = true) : putS l = (encS l, true) := by unfold putS; rw [if_pos h]
theorem encS_small {l : List Sub} (h : rightB l = true) : (encS l).length ≤ 200 := by
  have := (rightB_split h).2; have := encS_length l; omega
theorem put_is {m : Msg} (g : GoodM m) : g_field_Put (m, ()) = some (((fieldPut m).1, (fieldPut m).2, ()), ()) := by
  rw [g_field_Put_eq, right_is g, Option.bind_some]
  unfold fieldPut
  dsimp only
  by_cases h : fieldB m = true
  · have r := fieldR_iff.1 h
    have hs := sput_is g.few.fewS (by have := g.few.subs; omega)
    rw [putS_r r.subs] at hs
    have hz := encS_small r.subs
    rw [if_neg (by simp [h]), if_pos h, hs]
    simp only [Option.bind_some]
    rcases r.kinds with hk | hk | ⟨hk, hf⟩ | ⟨hk, ha⟩
    · rw [if_pos (by simp [hk]), two_is (by simp) (by have := r.nonce; have := r.interval; simp; omega) (by simp), Option.bind_some]
      dsimp only
      rw [if_pos (maxB_of (by simp [be_length]; omega)), tput_is, w64 (x := m.kind - 7) (by omega) (by omega), w64 (by omega) (by omega)]
      simp [fieldsF, hk]
    · rw [if_neg (by simp [hk]), if_pos (by simp [hk]), two_is (by simp) (by have := r.nonce; simp; omega) (by simp), Option.bind_some]
      dsimp only
      rw [if_pos (maxB_of (by simp [be_length]; omega)), tput_is, w64 (x := m.kind - 7) (by omega) (by omega), w64 (by omega) (by omega)]
      simp [fieldsF, hk]
    · rw [if_neg (by simp [hk]), if_neg (by simp [hk]), if_pos (by simp [hk]), show (15 : Int) = ((15 : Nat) : Int) from rfl, ishl_ok (by omega) (by omega), two_is (by simp) (by have := r.seq; have := r.interval; simp; omega) (by simp), Option.bind_some]
      dsimp only
      rw [if_pos (maxB_of (by simp [be_length]; omega)), tput_is, w64 (x := m.kind - 7) (by omega) (by omega), w64 (by omega) (by omega)]
      simp [fieldsF, hk]
    · have hc := addrB_cases ha
      have hl : m.addr.length ≤ 16 := by rcases hc with ⟨_, h⟩ | ⟨_, h⟩ | ⟨_, h⟩ | ⟨_, h⟩ <;> first | (rw [h]; simp; done) | omega | (have := linkB_len h; omega)
      rw [if_neg (by simp [hk]), if_neg (by simp [hk]), if_neg (by simp [hk]), if_pos (by simp [hk]), show (8 : Int) = ((8 : Nat) : Int) from rfl, ishl_ok (by omega) (by omega), two_is (by simp) (by have := r.cost; have := r.interval; simp; omega) (by simp), Option.bind_some, short_is, Option.bind_some]
      dsimp only
      have fin : ∀ a : Bs, a.length ≤ 16 → fieldsF m = be 2 (256 * m.ae) ++ (be 2 m.cost ++ (be 2 m.interval ++ a)) → (if roomB (([] ++ [2 ^ 8 * m.ae, m.cost, m.interval].flatMap (be 2)).length + a.length) = true then (if maxB ((([] ++ [2 ^ 8 * m.ae, m.cost, m.interval].flatMap (be 2)) ++ a).length + (encS m.subs).length) = true then ((g_frame_Put ((IntKind.wrap .i64 ((IntKind.wrap .i64 (m.kind - 7)) + 2)), ((([] ++ [2 ^ 8 * m.ae, m.cost, m.interval].flatMap (be 2)) ++ a) ++ encS m.subs), ())).bind fun r14 => some ((r14.1.1, r14.1.2.1, ()), ())) else none) else none) = some (((tput (m.kind - 5) (fieldsF m ++ encS m.subs)).1, (tput (m.kind - 5) (fieldsF m ++ encS m.subs)).2, ()), ()) := by
        intro a ha he
        rw [if_pos (roomB_of (by simp [be_length]; omega)), if_pos (maxB_of (by simp [be_length]; omega)), tput_is, w64 (x := m.kind - 7) (by omega) (by omega), w64 (by omega) (by omega), he]
        simp [hk]
      unfold shortF
      by_cases hb : linkB m.addr = true
      · rw [hb, ift, ift]
        dsimp only
        refine bq_step (fun h3 => ?_) (fun h3 => ?_)
        · exact fin _ (by simp; omega) (by simp [fieldsF, hk, h3])
        · exact fin _ hl (by simp [fieldsF, hk, h3])
      · have h3 : m.ae ≠ 3 := fun h3 => by rcases hc with ⟨h, _⟩ | ⟨h, _⟩ | ⟨h, _⟩ | ⟨_, h⟩ <;> first | omega | exact hb h
        rw [Bool.not_eq_true] at hb
        rw [hb, iff_, iff_]
        exact fin _ hl (by simp [fieldsF, hk, h3])
  · rw [Bool.not_eq_true] at h
    rw [h, ifnf, iff_]
end Go.VP
set_option linter.unusedVariables false
set_option linter.unusedSimpArgs false
set_option maxRecDepth 100000
namespace Go.VP
open Go Go.VI
theorem AllR.few {l : List Sub} (h : AllR l) : ∀ y ∈ l, y.data.length ≤ 300 := fun y hy => by have := h y hy; omega
theorem sub_len : ∀ {l : List Sub}, (l.length : Int) * 2 ≤ sumN l
  | [] => by simp [sumN]
  | y :: l => by have := sub_len (l := l); simp only [sumN, List.length_cons]; omega
theorem FieldR.small {m : Msg} (r : FieldR m) : (fieldsF m).length ≤ 22 := by
  unfold fieldsF; split
  · simp [be_length]
  · split
    · simp [be_length]
    · split
      · simp [be_length]
      · rcases r.kinds with hk | hk | ⟨hk, _⟩ | ⟨hk, ha⟩ <;> first | omega | skip
        rcases addrB_cases ha with ⟨h, h2⟩ | ⟨h, h2⟩ | ⟨h, h2⟩ | ⟨h, h2⟩
        · simp [be_length, h, h2]
        · simp [be_length, h, h2]
        · simp [be_length, h, h2]
        · have := (linkB_len h2).1
          simp [be_length, h, this]
end Go.VP
set_option linter.unusedVariables false
set_option linter.unusedSimpArgs false
set_option maxRecDepth 100000
namespace Go.VP
open Go Go.VI
def szA (ae : Int) : Int := if ae = 0 then 0 else (if ae = 1 then 4 else (if ae = 2 then 16 else 16))
def baseA (ae : Int) : Int := if ae = 0 then 0 else (if ae = 1 then 0 else (if ae = 2 then 0 else 8))
def lowA (ae : Int) : Int := if ae = 0 then 0 else (if ae = 1 then 0 else (if ae = 2 then 0 else 64))
def highA (ae : Int) : Int := if ae = 0 then 0 else (if ae = 1 then 32 else (if ae = 2 then 128 else 128))
theorem ae_cases {ae : Int} (h : 0 ≤ ae ∧ ae < 4) : ae = 0 ∨ ae = 1 ∨ ae = 2 ∨ ae = 3 := by omega
def inB (ae : Int) (a : Bs) (plen : Int) : Bool := decide (0 ≤ ae ∧ ae < 4) && (decide ((a.length : Int) = szA ae) && (decide (lowA ae ≤ plen ∧ plen ≤ highA ae) && (cleanB a plen && (decide (ae ≠ 3) || linkB a))))
theorem in_is {ae plen : Int} {a : Bs} (ha : a.length ≤ 1000000000) (hp : IntKind.has .i64 plen) : g_route_In (ae, a, plen, ()) = some ((inB ae a plen, ()), ()) := by
  rw [g_route_In_eq, g_route_shapes_eq, Option.bind_some]
  dsimp only
  unfold inB
  by_cases h0 : ae < 0
  · rw [ifd h0, decide_eq_false (by omega)]; rfl
  by_cases h3 : 3 < ae
  · rw [ifn h0, ifd h3, decide_eq_false (by omega)]; rfl
  have hae : 0 ≤ ae ∧ ae < 4 := by omega
  rw [ifn h0, ifn h3, if_pos hae, decide_eq_true hae, Bool.true_and]
  change (if ((a.length : Int) == szA ae) = true then (if decide (lowA ae ≤ plen) = true then (if decide (plen ≤ highA ae) = true then _ else _) else _) else _) = _
  by_cases h1 : (a.length : Int) = szA ae
  · rw [if_pos (by simp [h1]), decide_eq_true h1, Bool.true_and]
    by_cases h2 : lowA ae ≤ plen
    · rw [ifd h2]
      by_cases h4 : plen ≤ highA ae
      · rw [ifd h4, decide_eq_true ⟨h2, h4⟩, Bool.true_and, clean_is ha hp, Option.bind_some, link_is]
        dsimp only
        cases cleanB a plen
        · rfl
        · rw [ift, Bool.true_and]
          by_cases h5 : ae = 3
          · rw [if_neg (by simp [h5])]; simp [h5]
          · rw [if_pos (by simp [h5])]; simp [h5]
      · rw [ifn h4, decide_eq_false (by omega)]; rfl
    · rw [ifn h2, decide_eq_false (by omega)]; rfl
  · rw [if_neg (by simp [h1]), decide_eq_false h1]; rfl
theorem rright4_is {a : Bs} {n : Int} (ha : a.length ≤ 1000000000) (h : a.length = 4 ∨ a.length = 16) : g_ref04_Right (a, n, ()) = some ((decide (0 ≤ n ∧ n ≤ 8 * a.length) && cleanB a n, ()), ()) := by
  rw [g_ref04_Right_eq, w64 (x := 8 * (a.length : Int)) (by omega) (by omega), rclean_is ha, Option.bind_some]
  have go : (if decide (0 ≤ n) = true then (if decide (n ≤ 8 * (a.length : Int)) = true then (some ((cleanB a n, ()), ()) : Option ((Bool × Unit) × Unit)) else some ((false, ()), ())) else some ((false, ()), ())) = some ((decide (0 ≤ n ∧ n ≤ 8 * a.length) && cleanB a n, ()), ()) := by
    by_cases h1 : 0 ≤ n
    · rw [ifd h1]
      by_cases h2 : n ≤ 8 * (a.length : Int)
      · rw [ifd h2, decide_eq_true ⟨h1, h2⟩]; rfl
      · rw [ifn h2, decide_eq_false (by omega)]; rfl
    · rw [ifn h1, decide_eq_false (by omega)]; rfl
  rcases h with h | h
  · rw [if_pos (by simp; omega)]; exact go
  · rw [if_neg (by simp; omega), if_pos (by simp; omega)]; exact go
theorem rin_is {ae plen : Int} {a : Bs} (ha : a.length ≤ 1000000000) : g_ref21_In (ae, a, plen, ()) = some ((inB ae a plen, ()), ()) := by
  rw [g_ref21_In_eq, rlink_is]
  unfold inB
  refine bq_step (fun h => ?_) (fun h0 => ?_)
  · subst h
    by_cases h1 : a = []
    · subst h1
      rw [if_pos (show (([] : Bs) == []) = true from rfl)]
      have hc : cleanB [] plen = true := rfl
      rw [hc]
      by_cases h2 : plen = 0
      · subst h2; rfl
      · have : (plen == 0) = false := by simpa using h2
        have h3 : ¬ (lowA 0 ≤ plen ∧ plen ≤ highA 0) := by show ¬ (0 ≤ plen ∧ plen ≤ 0); omega
        rw [this, decide_eq_false h3]; simp
    · have hl : ¬ ((a.length : Int) = szA 0) := by show ¬ ((a.length : Int) = 0); intro h; exact h1 (List.length_eq_zero_iff.1 (by omega))
      rw [if_neg (by simpa using h1), decide_eq_false hl]; simp
  refine bq_step (fun h => ?_) (fun h1 => ?_)
  · subst h
    by_cases h4 : a.length = 4
    · rw [if_pos (by simp; omega), rright4_is ha (.inl h4), Option.bind_some, h4]
      rw [decide_eq_true (show (0 : Int) ≤ 1 ∧ (1 : Int) < 4 by omega), decide_eq_true (show ((4 : Nat) : Int) = szA 1 from rfl), decide_eq_true (show (1 : Int) ≠ 3 by omega)]
      show some ((decide (0 ≤ plen ∧ plen ≤ 32) && cleanB a plen, ()), ()) = some ((true && (true && (decide (0 ≤ plen ∧ plen ≤ 32) && (cleanB a plen && (true || linkB a)))), ()), ())
      simp
    · have hl : ¬ ((a.length : Int) = szA 1) := by show ¬ ((a.length : Int) = 4); omega
      rw [if_neg (by simp; omega), decide_eq_false hl]; simp
  refine bq_step (fun h => ?_) (fun h2 => ?_)
  · subst h
    by_cases h4 : a.length = 16
    · rw [if_pos (by simp; omega), rright4_is ha (.inr h4), Option.bind_some, h4]
      rw [decide_eq_true (show (0 : Int) ≤ 2 ∧ (2 : Int) < 4 by omega), decide_eq_true (show ((16 : Nat) : Int) = szA 2 from rfl), decide_eq_true (show (2 : Int) ≠ 3 by omega)]
      show some ((decide (0 ≤ plen ∧ plen ≤ 128) && cleanB a plen, ()), ()) = some ((true && (true && (decide (0 ≤ plen ∧ plen ≤ 128) && (cleanB a plen && (true || linkB a)))), ()), ())
      simp
    · have hl : ¬ ((a.length : Int) = szA 2) := by show ¬ ((a.length : Int) = 16); omega
      rw [if_neg (by simp; omega), decide_eq_false hl]; simp
  refine bq_step (fun h => ?_) (fun h3 => ?_)
  · subst h
    rw [Option.bind_some]
    dsimp only
    by_cases hb : linkB a = true
    · have h16 := (linkB_len hb).1
      rw [hb, ift, rright4_is ha (.inr h16), Option.bind_some, h16]
      rw [decide_eq_true (show (0 : Int) ≤ 3 ∧ (3 : Int) < 4 by omega), decide_eq_true (show ((16 : Nat) : Int) = szA 3 from rfl)]
      by_cases h6 : 64 ≤ plen
      · have : decide (lowA 3 ≤ plen ∧ plen ≤ highA 3) = decide (0 ≤ plen ∧ plen ≤ 8 * ((16 : Nat) : Int)) := by
          rw [Bool.eq_iff_iff]; show decide (64 ≤ plen ∧ plen ≤ 128) = true ↔ _; simp; omega
        rw [ifd h6, this]; simp
      · have : decide (lowA 3 ≤ plen ∧ plen ≤ highA 3) = false := decide_eq_false (by show ¬ (64 ≤ plen ∧ plen ≤ 128); omega)
        rw [ifn h6, this]; simp
    · rw [Bool.not_eq_true] at hb
      rw [hb, iff_]; simp
  rw [decide_eq_false (by omega)]; rfl
def kindR (m : Msg) : Bool := if m.kind = 12 then true else if m.kind = 13 then (decide (0 < m.ae) && (fitsB m.seq 2 && (decide (1 ≤ m.hops ∧ m.hops ≤ 255) && decide (m.id.length = 8)))) else false
noncomputable def routeB (m : Msg) : Bool := bareB m && (rightB m.subs && (inB m.ae m.prefix_ m.plen && kindR m))
theorem len8 (l : Bs) : ((l.length : Int) == 8) = decide (l.length = 8) := by rw [Bool.eq_iff_iff]; simp; omega
theorem rtright_is {m : Msg} (g : GoodM m) : g_route_Right (m, ()) = some ((routeB m, ()), ()) := by
  have h2 : g_octet_Fits (m.seq, 2, ()) = some ((fitsB m.seq 2, ()), ()) := fits_is (k := 2) g.seq (by omega) (by omega)
  have h1 : g_octet_Fits (m.hops, 1, ()) = some ((fitsB m.hops 1, ()), ()) := fits_is (k := 1) g.hops (by omega) (by omega)
  rw [g_route_Right_eq, bare_is, Option.bind_some, sright_is g.few.fewS, Option.bind_some, in_is (by have := g.few.pre; omega) g.plen, Option.bind_some, h1, h2]
  dsimp only
  unfold routeB
  cases bareB m
  · rfl
  rw [ifnt, Bool.true_and]
  cases rightB m.subs
  · rfl
  rw [ifnt, Bool.true_and]
  cases inB m.ae m.prefix_ m.plen
  · rfl
  rw [ifnt, Bool.true_and]
  unfold kindR
  refine bq_step (fun h => ?_) (fun h => ?_)
  · rw [if_pos h]
  rw [if_neg h]
  refine bq_step (fun h => ?_) (fun h => ?_)
  · rw [if_pos h, Option.bind_some, Option.bind_some, len8]
    by_cases ha : 0 < m.ae
    · rw [ifd ha, decide_eq_true ha, Bool.true_and]
      cases fitsB m.seq 2
      · rfl
      rw [ift, Bool.true_and]
      by_cases hh : 0 < m.hops
      · rw [ifd hh]
        have : fitsB m.hops 1 = decide (1 ≤ m.hops ∧ m.hops ≤ 255) := by unfold fitsB; rw [Bool.eq_iff_iff]; simp; omega
        rw [this]
        cases decide (1 ≤ m.hops ∧ m.hops ≤ 255) <;> rfl
      · rw [ifn hh, decide_eq_false (by omega)]; rfl
    · rw [ifn ha, decide_eq_false ha]; rfl
  rw [if_neg h]
theorem rrtright_is {m : Msg} (g : GoodM m) : g_ref21_Right (m, ()) = some ((routeB m, ()), ()) := by
  have h2 : g_ref02_Fits (m.seq, 2, ()) = some ((fitsB m.seq 2, ()), ()) := rfits_is (k := 2) (by omega) (by omega)
  rw [g_ref21_Right_eq, rbare_is (by have := g.few.list; omega) (by have := g.few.subs; omega), Option.bind_some, rsright_is g.few.fewS, Option.bind_some, rin_is (by have := g.few.pre; omega), Option.bind_some, h2]
  dsimp only
  unfold routeB
  cases bareB m
  · rfl
  rw [ifnt, Bool.true_and]
  cases rightB m.subs
  · rfl
  rw [ifnt, Bool.true_and]
  cases hin : inB m.ae m.prefix_ m.plen
  · rfl
  have hae : 0 ≤ m.ae ∧ m.ae < 4 := by
    unfold inB at hin
    simp only [Bool.and_eq_true, decide_eq_true_eq] at hin
    exact hin.1
  rw [ifnt, Bool.true_and]
  unfold kindR
  refine bq_step (fun h => ?_) (fun h => ?_)
  · rw [if_pos h]
  rw [if_neg h]
  refine bq_step (fun h => ?_) (fun h => ?_)
  · rw [if_pos h, Option.bind_some, len8]
    by_cases ha : m.ae = 0
    · rw [if_neg (by simp [ha]), decide_eq_false (by omega)]; rfl
    · rw [if_pos (by simp [ha]), decide_eq_true (show 0 < m.ae by omega), Bool.true_and]
      cases fitsB m.seq 2
      · rfl
      rw [ift, Bool.true_and]
      by_cases hh : 1 ≤ m.hops
      · rw [ifd hh]
        by_cases h5 : m.hops ≤ 255
        · rw [ifd h5, decide_eq_true (show 1 ≤ m.hops ∧ m.hops ≤ 255 from ⟨hh, h5⟩)]; rfl
        · rw [ifn h5, decide_eq_false (by omega)]; rfl
      · rw [ifn hh, decide_eq_false (by omega)]; rfl
  rw [if_neg h]
structure RouteR (m : Msg) : Prop where
  bare : bareB m = true
  subs : rightB m.subs = true
  ae : 0 ≤ m.ae ∧ m.ae < 4
  len : (m.prefix_.length : Int) = szA m.ae
  plen : lowA m.ae ≤ m.plen ∧ m.plen ≤ highA m.ae
  clean : keepF m.prefix_ m.plen = m.prefix_
  link : m.ae = 3 → linkB m.prefix_ = true
  kind : kindR m = true
theorem inB_iff {ae plen : Int} {a : Bs} : inB ae a plen = true ↔ (0 ≤ ae ∧ ae < 4) ∧ (a.length : Int) = szA ae ∧ (lowA ae ≤ plen ∧ plen ≤ highA ae) ∧ keepF a plen = a ∧ (ae = 3 → linkB a = true) := by
  unfold inB cleanB
  simp only [Bool.and_eq_true, decide_eq_true_eq, beq_iff_eq, Bool.or_eq_true]
  constructor
  · rintro ⟨a, b, c, d, e⟩; exact ⟨a, b, c, d, fun h => e.resolve_left (fun h2 => h2 h)⟩
  · rintro ⟨a, b, c, d, e⟩; exact ⟨a, b, c, d, by by_cases h : ae = 3 <;> simp [h, e]⟩
theorem routeR_iff {m : Msg} : routeB m = true ↔ RouteR m := by
  unfold routeB
  simp only [Bool.and_eq_true, inB_iff]
  exact ⟨fun ⟨a, b, ⟨c, d, e, f, g⟩, h⟩ => ⟨a, b, c, d, e, f, g, h⟩, fun h => ⟨h.1, h.2, ⟨h.3, h.4, h.5, h.6, h.7⟩, h.8⟩⟩
theorem RouteR.kinds {m : Msg} (h : RouteR m) : m.kind = 12 ∨ (m.kind = 13 ∧ 0 < m.ae ∧ (0 ≤ m.seq ∧ m.seq < 65536) ∧ (1 ≤ m.hops ∧ m.hops ≤ 255) ∧ m.id.length = 8) := by
  have := h.kind
  unfold kindR at this
  split at this
  · exact .inl (by assumption)
  · split at this
    · simp only [Bool.and_eq_true, decide_eq_true_eq, fitsB2] at this
      exact .inr ⟨by assumption, this⟩
    · cases this
def bytesP (m : Msg) : Bs := (cutF m.prefix_ m.plen).drop (baseA m.ae).toNat
theorem cutF_length (a : Bs) (n : Int) : (cutF a n).length = min (leastF n).toNat a.length := by unfold cutF; rw [keepF_length, List.length_take]
theorem least_base {ae plen : Int} (hae : 0 ≤ ae ∧ ae < 4) (hp : lowA ae ≤ plen ∧ plen ≤ highA ae) : 0 ≤ baseA ae ∧ baseA ae ≤ leastF plen ∧ leastF plen ≤ szA ae ∧ 0 ≤ plen ∧ plen ≤ 128 ∧ szA ae ≤ 16 := by
  have h8 : leastF plen = if plen < 0 then 0 else (plen + 7) / 8 := rfl
  rcases ae_cases hae with rfl | rfl | rfl | rfl
  · have : 0 ≤ plen ∧ plen ≤ 0 := hp
    rw [h8]; show 0 ≤ (0 : Int) ∧ (0 : Int) ≤ _ ∧ _ ≤ (0 : Int) ∧ _ ∧ _ ∧ (0 : Int) ≤ 16; rw [if_neg (by omega)]; omega
  · have : 0 ≤ plen ∧ plen ≤ 32 := hp
    rw [h8]; show 0 ≤ (0 : Int) ∧ (0 : Int) ≤ _ ∧ _ ≤ (4 : Int) ∧ _ ∧ _ ∧ (4 : Int) ≤ 16; rw [if_neg (by omega)]; omega
  · have : 0 ≤ plen ∧ plen ≤ 128 := hp
    rw [h8]; show 0 ≤ (0 : Int) ∧ (0 : Int) ≤ _ ∧ _ ≤ (16 : Int) ∧ _ ∧ _ ∧ (16 : Int) ≤ 16; rw [if_neg (by omega)]; omega
  · have : 64 ≤ plen ∧ plen ≤ 128 := hp
    rw [h8]; show 0 ≤ (8 : Int) ∧ (8 : Int) ≤ _ ∧ _ ≤ (16 : Int) ∧ _ ∧ _ ∧ (16 : Int) ≤ 16; rw [if_neg (by omega)]; omega
theorem RouteR.cut {m : Msg} (h : RouteR m) : ((cutF m.prefix_ m.plen).length : Int) = leastF m.plen ∧ ((bytesP m).length : Int) = leastF m.plen - baseA m.ae := by
  obtain ⟨h1, h2, h3, h4, h5, h6⟩ := least_base h.ae h.plen
  have := h.len
  have hc : ((cutF m.prefix_ m.plen).length : Int) = leastF m.plen := by rw [cutF_length]; omega
  exact ⟨hc, by unfold bytesP; rw [List.length_drop]; omega⟩
def headF (m : Msg) : Bs := if m.kind = 13 then u8of m.ae :: u8of m.plen :: (be 2 m.seq ++ (u8of m.hops :: 0 :: (m.id ++ bytesP m))) else u8of m.ae :: u8of m.plen :: bytesP m
noncomputable def routePut (m : Msg) : Bs × Bool := if routeB m = true then tput (if m.kind = 13 then 10 else 9) (headF m ++ encS m.subs) else ([], false)
theorem u8w {n : Int} (h : 0 ≤ n) : u8of (IntKind.wrap .u8 n) = u8of n := by rw [wu8, u8of_emod' h]
theorem be2' {n : Int} (h : 0 ≤ n ∧ n < 65536) : be 2 n = [u8of (IntKind.wrap .u8 (ishr .i64 n 8)), u8of (IntKind.wrap .u8 n)] := (be2 h).symm
theorem rtput_is' {m : Msg} (g : GoodM m) : g_route_Put (m, ()) = some (((routePut m).1, (routePut m).2, ()), ()) := by
  rw [g_route_Put_eq, rtright_is g, Option.bind_some]
  unfold routePut
  dsimp only
  by_cases h : routeB m = true
  · have r := routeR_iff.1 h
    have hs := sput_is g.few.fewS (by have := g.few.subs; omega)
    rw [putS_r r.subs] at hs
    have hz := encS_small r.subs
    obtain ⟨c1, c2⟩ := r.cut
    obtain ⟨l1, l2, l3, l4, l5, l6⟩ := least_base r.ae r.plen
    have hcut := pcut_is (a := m.prefix_) (n := m.plen) (by have := g.few.pre; omega) g.plen (by omega)
    rw [if_neg (by simp [h]), if_pos h, hs, Option.bind_some, hcut, g_route_shapes_eq, u8w r.ae.1, u8w l4]
    simp only [Option.bind_some]
    have hd : ((cutF m.prefix_ m.plen).drop (baseA m.ae).toNat) = bytesP m := rfl
    have hae : 0 ≤ m.ae ∧ m.ae < 4 := r.ae
    rcases r.kinds with hk | ⟨hk, _, hq, hh, hi⟩
    · rw [if_neg (show ¬ (m.kind == 13) = true by simp [hk]), if_pos hae]
      change (if 0 ≤ baseA m.ae ∧ baseA m.ae ≤ ((cutF m.prefix_ m.plen).length : Int) then (if roomB ([u8of m.ae, u8of m.plen].length + (bytesP m).length) = true then (if maxB (([u8of m.ae, u8of m.plen] ++ bytesP m).length + (encS m.subs).length) = true then ((g_frame_Put (9, (([u8of m.ae, u8of m.plen] ++ bytesP m) ++ encS m.subs), ())).bind _) else none) else none) else none) = _
      rw [if_pos (by omega), if_pos (roomB_of (by simp; omega)), if_pos (maxB_of (by simp; omega)), tput_is, Option.bind_some, if_neg (show ¬ m.kind = 13 by omega)]
      unfold headF
      rw [if_neg (show ¬ m.kind = 13 by omega)]; rfl
    · rw [if_pos (show (m.kind == 13) = true by simp [hk]), if_pos (roomB_of (by simp)), if_pos (roomB_of (by simp; omega)), if_pos hae, u8w (n := m.hops) (by omega)]
      change (if 0 ≤ baseA m.ae ∧ baseA m.ae ≤ ((cutF m.prefix_ m.plen).length : Int) then (if roomB ((([u8of m.ae, u8of m.plen] ++ [u8of (IntKind.wrap .u8 (ishr .i64 m.seq 8)), u8of (IntKind.wrap .u8 m.seq), u8of m.hops, 0]) ++ m.id).length + (bytesP m).length) = true then (if maxB (((([u8of m.ae, u8of m.plen] ++ [u8of (IntKind.wrap .u8 (ishr .i64 m.seq 8)), u8of (IntKind.wrap .u8 m.seq), u8of m.hops, 0]) ++ m.id) ++ bytesP m).length + (encS m.subs).length) = true then ((g_frame_Put (10, (((([u8of m.ae, u8of m.plen] ++ [u8of (IntKind.wrap .u8 (ishr .i64 m.seq 8)), u8of (IntKind.wrap .u8 m.seq), u8of m.hops, 0]) ++ m.id) ++ bytesP m) ++ encS m.subs), ())).bind _) else none) else none) else none) = _
      rw [if_pos (by omega), if_pos (roomB_of (by simp; omega)), if_pos (maxB_of (by simp; omega)), tput_is, Option.bind_some, if_pos hk]
      unfold headF
      rw [if_pos hk, be2' hq]
      simp
  · rw [Bool.not_eq_true] at h
    rw [h, ifnf, iff_]
end Go.VP
set_option linter.unusedVariables false
set_option linter.unusedSimpArgs false
set_option maxRecDepth 100000
namespace Go.VP
open Go Go.VI
abbrev Raw := S_api_Raw
theorem baseA_rng (ae : Int) : 0 ≤ baseA ae ∧ baseA ae ≤ 8 := by unfold baseA; split <;> (try split) <;> (try split) <;> omega
end Go.VP
set_option linter.unusedVariables false
set_option linter.unusedSimpArgs false
set_option maxRecDepth 100000
namespace Go.VP
open Go Go.VI
abbrev Ctx := S_api_Ctx
def famE (ae : Int) : Int := if ae = 1 then 0 else if ae = 2 then 1 else if ae = 3 then 1 else -1
theorem cfam_is (ae : Int) : g_ctx_Family (ae, ()) = some ((famE ae, ()), ()) := by
  rw [g_ctx_Family_eq]; unfold famE
  by_cases h1 : ae = 1
  · rw [if_pos (by simp [h1]), if_pos h1]
  rw [if_neg (by simp [h1]), if_neg h1]
  by_cases h2 : ae = 2
  · rw [if_pos (by simp [h2]), if_pos (by simp [h2]), if_pos h2]
  rw [if_neg (by simp [h2]), if_neg h2]
  by_cases h3 : ae = 3
  · rw [if_pos (by simp [h3]), if_pos h3]
  · rw [if_neg (by simp [h3]), if_neg h3]
theorem rcfam_is (ae : Int) : g_ref22_Family (ae, ()) = some ((famE ae, ()), ()) := by
  rw [g_ref22_Family_eq]; unfold famE
  by_cases h1 : ae = 1
  · rw [if_pos (by simp [h1]), if_pos h1]
  rw [if_neg (by simp [h1]), if_neg h1]
  by_cases h2 : ae = 2
  · rw [if_pos (by simp [h2]), if_pos h2]
  rw [if_neg (by simp [h2]), if_neg h2]
  by_cases h3 : ae = 3
  · rw [if_pos (by simp [h3]), if_pos h3]
  · rw [if_neg (by simp [h3]), if_neg h3]
theorem famE_rng {ae : Int} (h : 1 ≤ ae ∧ ae ≤ 3) : 0 ≤ famE ae ∧ famE ae < 2 := by
  unfold famE; split
  · omega
  split
  · omega
  split <;> omega
def setId (c : Ctx) (i : Bs) : Ctx := ⟨c.prefix_c0, c.prefix_c1, c.prefix_c2, c.prefix_c3, c.next_c0, c.next_c1, i⟩
def setN (c : Ctx) (k : Int) (a : Bs) : Ctx := ⟨c.prefix_c0, c.prefix_c1, c.prefix_c2, c.prefix_c3, (if k = 0 then a else c.next_c0), (if k = 1 then a else c.next_c1), c.id⟩
end Go.VP
set_option linter.unusedVariables false
set_option linter.unusedSimpArgs false
set_option maxRecDepth 100000
namespace Go.VP
open Go Go.VI
theorem dq_step' {R : Type} {p : Prop} [Decidable p] {t f r : R} (h : p → t = r) (h' : ¬ p → f = r) : (if decide p = true then t else f) = r := by
  by_cases hp : p
  · rw [ifd hp]; exact h hp
  · rw [ifn hp]; exact h' hp
theorem be_step {R : Type} {x y : Bs} {f t r : R} (heq : x = y → t = r) (hne : x ≠ y → f = r) : (if (x == y) = true then t else f) = r := by
  by_cases h : x = y
  · rw [if_pos (by simp [h])]; exact heq h
  · rw [if_neg (by simpa using h)]; exact hne h
def okC (c : Ctx) : Prop := c.prefix_c0 = [] ∧ (c.prefix_c1 = [] ∨ c.prefix_c1.length = 4) ∧ (c.prefix_c2 = [] ∨ c.prefix_c2.length = 16) ∧ (c.prefix_c3 = [] ∨ linkB c.prefix_c3 = true) ∧ (c.next_c0 = [] ∨ c.next_c0.length = 4) ∧ (c.next_c1 = [] ∨ c.next_c1.length = 16) ∧ (c.id = [] ∨ c.id.length = 8)
structure RawOk (r : Raw) : Prop where
  ae : 0 ≤ r.ae ∧ r.ae < 4
  om : 0 ≤ r.omitted
  plen : 0 ≤ r.plen ∧ r.plen ≤ 128
  len : r.omitted + r.bytes.length ≤ szA r.ae - baseA r.ae
  flags : 0 ≤ r.flags ∧ r.flags ≤ 255
  metric : 0 ≤ r.metric ∧ r.metric ≤ 65535
  have_ : r.have_ = 0 ∨ r.have_ = 1
  low : lowA r.ae ≤ r.plen
def preC (c : Ctx) (ae : Int) : Bs := if ae = 0 then c.prefix_c0 else (if ae = 1 then c.prefix_c1 else (if ae = 2 then c.prefix_c2 else c.prefix_c3))
theorem preC_len {c : Ctx} (h : okC c) {ae : Int} (ha : 0 ≤ ae ∧ ae < 4) (hn : preC c ae ≠ []) : ((preC c ae).length : Int) = szA ae := by
  obtain ⟨h0, h1, h2, h3, _⟩ := h
  rcases ae_cases ha with rfl | rfl | rfl | rfl
  · exact absurd h0 hn
  · rcases h1 with e | e
    · exact absurd e hn
    · show (c.prefix_c1.length : Int) = 4; omega
  · rcases h2 with e | e
    · exact absurd e hn
    · show (c.prefix_c2.length : Int) = 16; omega
  · rcases h3 with e | e
    · exact absurd e hn
    · have := (linkB_len e).1; show (c.prefix_c3.length : Int) = 16; omega
end Go.VP
set_option linter.unusedVariables false
set_option linter.unusedSimpArgs false
set_option maxRecDepth 100000
namespace Go.VP
open Go Go.VI
theorem okC_none : okC ⟨[], [], [], [], [], [], []⟩ := ⟨rfl, .inl rfl, .inl rfl, .inl rfl, .inl rfl, .inl rfl, .inl rfl⟩
end Go.VP
set_option linter.unusedVariables false
set_option linter.unusedSimpArgs false
set_option maxRecDepth 100000
namespace Go.VP
open Go Go.VI
def opaqueM (ty : Int) (d : Bs) : Msg := ⟨14, 0, 0, [], 0, 0, [], 0, 0, [], 0, [], 0, 0, 0, 0, 0, 0, 0, [], [], [], ty, d, []⟩
end Go.VP
set_option linter.unusedVariables false
set_option linter.unusedSimpArgs false
set_option maxRecDepth 100000
namespace Go.VP
open Go Go.VI
def c0 : Ctx := ⟨[], [], [], [], [], [], []⟩
theorem okC_c0 : okC c0 := okC_none
end Go.VP
set_option linter.unusedVariables false
set_option linter.unusedSimpArgs false
set_option maxRecDepth 100000
namespace Go.VP
open Go Go.VI
def Except.app (x : Except Int (List Tlv)) (a : List Tlv) : Except Int (List Tlv) := x.map (a ++ ·)
end Go.VP
set_option linter.unusedVariables false
set_option linter.unusedSimpArgs false
set_option maxRecDepth 100000
namespace Go.VP
open Go Go.VI
structure UpdR (m : Msg) : Prop where
  kind : m.kind = 11
  bare : bareB m = true
  subs : rightB m.subs = true
  inn : inB m.ae m.prefix_ m.plen = true
  iv : 0 ≤ m.interval ∧ m.interval < 65536
  sq : 0 ≤ m.seq ∧ m.seq < 65536
  me : 0 ≤ m.metric ∧ m.metric < 65536
  far : m.metric = 65535 → m.id = [] ∧ m.next = []
  near : m.metric ≠ 65535 → 0 < m.ae ∧ m.id.length = 8 ∧ (m.next = [] ∨ famF m.next = famE m.ae)
def tailB (m : Msg) : Bool := if m.metric = 65535 then (m.id == [] && m.next == []) else decide (0 < m.ae) && (decide (m.id.length = 8) && (m.next == [] || decide (famF m.next = famE m.ae)))
noncomputable def updB (m : Msg) : Bool := decide (m.kind = 11) && (bareB m && (rightB m.subs && (inB m.ae m.prefix_ m.plen && (fitsB m.interval 2 && (fitsB m.seq 2 && (fitsB m.metric 2 && tailB m))))))
theorem updR_iff {m : Msg} : updB m = true ↔ UpdR m := by
  unfold updB tailB
  simp only [Bool.and_eq_true, decide_eq_true_eq, fitsB2]
  constructor
  · rintro ⟨a, b, c, d, e, f, g, h⟩
    refine ⟨a, b, c, d, e, f, g, fun hm => ?_, fun hm => ?_⟩
    · rw [if_pos hm] at h; simpa using h
    · rw [if_neg hm] at h; simpa using h
  · intro h
    refine ⟨h.1, h.2, h.3, h.4, h.5, h.6, h.7, ?_⟩
    by_cases hm : m.metric = 65535
    · rw [if_pos hm]; simpa using h.far hm
    · rw [if_neg hm]; simpa using h.near hm
def mk12 (ae : Int) (a : Bs) (plen : Int) : Msg := ⟨12, 0, 0, [], 0, ae, a, plen, 0, [], 0, [], 0, 0, 0, 0, 0, 0, 0, [], [], [], 0, [], []⟩
theorem UpdR.asR {m : Msg} (h : UpdR m) : RouteR (mk12 m.ae m.prefix_ m.plen) := by
  obtain ⟨a, b, c, d, e⟩ := inB_iff.1 h.inn
  have hb : bareOf (mk12 m.ae m.prefix_ m.plen) = some (mk12 m.ae m.prefix_ m.plen) := rfl
  exact ⟨by rw [bareB, hb]; exact eqB_refl _, rfl, a, b, c, d, e, rfl⟩
def leadN : Bs → Bs → Nat
  | a :: x, b :: y => if a = b then leadN x y + 1 else 0
  | _, _ => 0
theorem leadN_le : ∀ x y : Bs, leadN x y ≤ x.length ∧ leadN x y ≤ y.length
  | [], y => by simp [leadN]
  | a :: x, [] => by simp [leadN]
  | a :: x, b :: y => by
    have := leadN_le x y
    rw [leadN]; split <;> simp <;> omega
def flagU (ae : Int) : Int := if ae = 0 then 0 else 128
def updD (m : Msg) (n : Nat) : Bs := [u8of m.ae, u8of (flagU m.ae), u8of m.plen, u8of n] ++ (be 2 m.interval ++ (be 2 m.seq ++ (be 2 m.metric ++ ((bytesP m).drop n ++ encS m.subs))))
theorem UpdR.pre {m : Msg} (h : UpdR m) : (0 ≤ m.ae ∧ m.ae < 4) ∧ (0 ≤ m.plen ∧ m.plen ≤ 128) ∧ ((bytesP m).length : Int) = leastF m.plen - baseA m.ae ∧ (bytesP m).length ≤ 16 ∧ (0 ≤ baseA m.ae ∧ baseA m.ae ≤ 8) ∧ m.prefix_.length ≤ 16 := by
  have r := h.asR
  have hc : ((bytesP m).length : Int) = leastF m.plen - baseA m.ae := r.cut.2
  obtain ⟨l1, l2, l3, l4, l5, l6⟩ := least_base r.ae r.plen
  have hl : (m.prefix_.length : Int) = szA m.ae := r.len
  have hb := baseA_rng m.ae
  dsimp only [mk12] at l1 l2 l3 l4 l5 l6
  exact ⟨r.ae, ⟨l4, l5⟩, hc, by omega, hb, by omega⟩
theorem updD_len {m : Msg} (h : UpdR m) (n : Nat) : (updD m n).length = 10 + ((bytesP m).length - n) + (encS m.subs).length := by
  unfold updD
  simp [be_length]; omega
def nextC (c : Ctx) (f : Int) : Bs := if f = 0 then c.next_c0 else c.next_c1
def setP (c : Ctx) (ae : Int) (a : Bs) : Ctx := if ae = 0 then c else ⟨c.prefix_c0, (if ae = 1 then a else c.prefix_c1), (if ae = 2 then a else c.prefix_c2), (if ae = 3 then a else c.prefix_c3), c.next_c0, c.next_c1, c.id⟩
def idD (s : Bs) : Bs := 0 :: 0 :: s
def hopD (a : Bs) : Bs := if linkB a = true then 3 :: 0 :: a.drop 8 else if a.length = 4 then 1 :: 0 :: a else 2 :: 0 :: a
theorem famF_cases {a : Bs} {f : Int} (hf : famF a = f) (h : f = 0 ∨ f = 1) : (f = 0 ∧ a.length = 4) ∨ (f = 1 ∧ a.length = 16) := by
  unfold famF at hf
  split at hf
  · exact .inl ⟨hf.symm, by assumption⟩
  split at hf
  · exact .inr ⟨hf.symm, by assumption⟩
  · omega
end Go.VP
set_option linter.unusedVariables false
set_option linter.unusedSimpArgs false
set_option maxRecDepth 100000
namespace Go.VP
open Go Go.VI
structure OpqR (m : Msg) : Prop where
  kind : m.kind = 14
  bare : bareB m = true
  ty : 10 < m.type_ ∧ m.type_ < 256
  len : m.data.length < 256
inductive LeanR (m : Msg) : Prop
  | field (h : FieldR m)
  | route (h : RouteR m)
  | upd (h : UpdR m)
  | opq (h : OpqR m)
structure GoodL (m : Msg) : Prop where
  good : GoodM m
  ty : IntKind.has .i64 m.type_
  metric : IntKind.has .i64 m.metric
end Go.VP
set_option linter.unusedVariables false
set_option linter.unusedSimpArgs false
set_option maxRecDepth 100000
namespace Go.VP
open Go Go.VI
def wrapF (s : Bs) : Bs × Bool := if 65531 < (s.length : Int) then ([], false) else (42 :: 2 :: (be 2 s.length ++ s), true)
end Go.VP
set_option linter.unusedVariables false
set_option linter.unusedSimpArgs false
set_option maxRecDepth 100000
namespace Go.VP
open Go Go.VI
theorem ishr8w {x : Int} (h : 0 ≤ x) : ishr .i64 x 8 = x / 256 := by
  unfold ishr
  rw [show (2 : Int) ^ (min (8 : Int).toNat IntKind.i64.bits) = 256 by decide]
  exact Int.fdiv_eq_ediv_of_nonneg _ (by decide)
theorem wput_loop {c : Nat} : ∀ (i m : Nat) (x : Int) (acc : Bs), i ≤ acc.length → acc.length ≤ 100 → i < m → 0 ≤ x → L_octet_Put_0 c m x ((i : Int) - 1) acc = some ((be i x ++ acc.drop i, true, ()), ())
  | 0, m, x, acc, h1, h2, hm, hx => by
    obtain ⟨m, rfl⟩ : ∃ k, m = k + 1 := ⟨m - 1, by omega⟩
    rw [L_octet_Put_0_eq, ifn (by omega)]; simp [be]
  | i + 1, m, x, acc, h1, h2, hm, hx => by
    obtain ⟨m, rfl⟩ : ∃ k, m = k + 1 := ⟨m - 1, by omega⟩
    have e : (((i + 1 : Nat) : Int) - 1) = (i : Int) := by omega
    rw [L_octet_Put_0_eq, e, ifd (by omega), if_pos (by omega), Int.toNat_natCast, if_pos (by omega), w64 (by omega) (by omega), ishr8w hx, wput_loop i m (x / 256) _ (by simp; omega) (by simp; omega) (by omega) (by omega), wu8, be]
    have : (acc.set i (u8of (x % 256))).drop i = u8of (x % 256) :: acc.drop (i + 1) := by
      rw [List.drop_eq_getElem_cons (by simp; omega), List.getElem_set_self, List.drop_set_of_lt (by omega)]
    rw [this]; simp
theorem wput_is {n : Int} {k : Nat} (hn : IntKind.has .i64 n) (h1 : 1 ≤ k) (h7 : k ≤ 7) : g_octet_Put (n, (k : Int), ()) = some (((oput n k).1, (oput n k).2, ()), ()) := by
  show h_octet_Put fuel (n, (k : Int), ()) = _
  rw [h_octet_Put_eq, fits_is hn h1 h7, Option.bind_some]
  unfold oput
  cases hf : fitsB n k with
  | false => rfl
  | true =>
    have h0 : 0 ≤ n := by unfold fitsB at hf; rw [decide_eq_true_eq] at hf; exact hf.1
    have hr : (k : Int) ≤ roomI := by unfold roomI; omega
    dsimp only
    rw [ifnt, if_pos ⟨by omega, hr⟩, w64 (by omega) (by omega), Int.toNat_natCast, wput_loop k fuel n _ (by simp) (by simp; omega) (fuel_ge (by omega)) h0]
    simp
theorem wput2 {n : Int} (hn : IntKind.has .i64 n) : g_octet_Put (n, 2, ()) = some (((oput n 2).1, (oput n 2).2, ()), ()) := wput_is (k := 2) hn (by omega) (by omega)
theorem oput_len2 {s : Bs} (h : s.length ≤ 65531) : oput (s.length : Int) 2 = (be 2 s.length, true) := by
  unfold oput; rw [if_pos (by unfold fitsB; rw [decide_eq_true_eq]; omega)]
theorem wrapF_long {s : Bs} (h : 65531 < (s.length : Int)) : wrapF s = ([], false) := by unfold wrapF; rw [if_pos h]
theorem wrapF_fit {s : Bs} (h : ¬ 65531 < (s.length : Int)) : wrapF s = (42 :: 2 :: (be 2 s.length ++ s), true) := by unfold wrapF; rw [if_neg h]
theorem wrap_is {s : Bs} (h : s.length ≤ 100000000) : g_frame_Wrap (s, ()) = some (((wrapF s).1, (wrapF s).2, ()), ()) := by
  rw [g_frame_Wrap_eq, wput2 (has64.2 (by omega)), Option.bind_some]
  by_cases hs : 65531 < (s.length : Int)
  · rw [wrapF_long hs]
    cases hb : (oput (s.length : Int) 2).2 with
    | false => rfl
    | true => dsimp only; rw [ifnt, ifd hs]
  · have h2 : (be 2 (s.length : Int)).length = 2 := be_length 2 _
    rw [wrapF_fit hs, oput_len2 (by omega)]
    generalize be 2 (s.length : Int) = B at *
    dsimp only
    rw [ifnt, ifn hs, if_pos (maxB_of (by omega)), if_pos (maxB_of (by simp; omega))]; rfl
end Go.VP
set_option linter.unusedVariables false
set_option linter.unusedSimpArgs false
set_option maxRecDepth 100000
namespace Go.VP
open Go Go.VI
theorem GoodL.small {m : Msg} (g : GoodL m) : Small m := by
  have := g.good.few.list; have := g.good.few.subs; exact ⟨by omega, by omega⟩
end Go.VP
set_option linter.unusedVariables false
set_option linter.unusedSimpArgs false
set_option maxRecDepth 100000
namespace Go.VP
open Go Go.VI
theorem rfam6_is (a : Bs) : g_ref06_Family (a, ()) = some ((famF a, ()), ()) := by
  rw [g_ref06_Family_eq]; unfold famF
  refine bq_step (fun h => by rw [if_pos (by omega)]) (fun h => ?_)
  rw [if_neg (show ¬ a.length = 4 by omega)]
  exact bq_step (fun h => by rw [if_pos (by omega)]) (fun h => by rw [if_neg (by omega)])
theorem either_is (s : Bs) (g : Bool) : g_ctx_either (s, g, ()) = some ((decide (s = []) || g, ()), ()) := by
  rw [g_ctx_either_eq]
  refine be_step (fun h => by simp [h]) (fun h => by simp [h])
theorem nb_and {R : Type} {b S : Bool} {t : Option R} {f : Bool → Option R} (h : b = true → t = f S) : (if (!b) = true then f false else t) = f (b && S) := by
  cases b with
  | true => rw [ifnt, Bool.true_and]; exact h rfl
  | false => rw [ifnf, Bool.false_and]
theorem fits2 {n : Int} (hn : IntKind.has .i64 n) : g_octet_Fits (n, 2, ()) = some ((fitsB n 2, ()), ()) := fits_is (k := 2) hn (by omega) (by omega)
theorem two22_is {n : Int} : g_ref22_two (n, ()) = some ((fitsB n 2, ()), ()) := by
  rw [g_ref22_two_eq, show g_ref02_Fits (n, 2, ()) = some ((fitsB n 2, ()), ()) from rfits_is (k := 2) (by omega) (by omega)]; rfl
theorem fewS_of {m : Msg} (g : GoodM m) : FewS m.subs := g.few.fewS
theorem cright_is {m : Msg} (g : GoodL m) : g_ctx_Right (m, ()) = some ((updB m, ()), ()) := by
  have hl := g.good.few
  have := hl.id; have := hl.next; have := hl.pre
  rw [g_ctx_Right_eq]
  unfold updB
  refine ne_step (fun h => by rw [decide_eq_false h, Bool.false_and]) (fun h => ?_)
  rw [decide_eq_true h, Bool.true_and, bare_is, Option.bind_some]
  dsimp only
  refine nb_and (f := fun b => some ((b, ()), ())) (fun _ => ?_)
  rw [sright_is (fewS_of g.good), Option.bind_some]
  refine nb_and (f := fun b => some ((b, ()), ())) (fun _ => ?_)
  rw [in_is (by omega) g.good.plen, Option.bind_some]
  refine nb_and (f := fun b => some ((b, ()), ())) (fun _ => ?_)
  rw [fits2 g.good.interval, Option.bind_some]
  refine nb_and (f := fun b => some ((b, ()), ())) (fun _ => ?_)
  rw [fits2 g.good.seq, Option.bind_some]
  refine nb_and (f := fun b => some ((b, ()), ())) (fun _ => ?_)
  rw [fits2 g.metric, Option.bind_some]
  refine nb_and (f := fun b => some ((b, ()), ())) (fun _ => ?_)
  unfold tailB
  refine bq_step (fun h => ?_) (fun h => ?_)
  · rw [if_pos h, if_pos (maxB_of (by omega))]
    have : (m.id ++ m.next == ([] : Bs)) = (m.id == [] && m.next == []) := by
      rw [Bool.eq_iff_iff]; simp
    rw [this]
  · rw [if_neg h]
    by_cases ha : 0 < m.ae
    · rw [ifd ha, decide_eq_true ha, Bool.true_and, len8]
      cases h8 : decide (m.id.length = 8) with
      | false => rw [iff_, Bool.false_and]
      | true =>
        rw [ift, fam_is, Option.bind_some, cfam_is, Option.bind_some, either_is, Option.bind_some, Bool.true_and]
        have e1 : (m.next == ([] : Bs)) = decide (m.next = []) := by rw [Bool.eq_iff_iff]; simp
        have e2 : (famF m.next == famE m.ae) = decide (famF m.next = famE m.ae) := by rw [Bool.eq_iff_iff]; simp
        rw [e1]
        dsimp only
        rw [e2]
    · rw [ifn ha, decide_eq_false ha, Bool.false_and]
theorem rcright_is {m : Msg} (g : GoodL m) (ha : UpdR m ∨ 0 ≤ m.ae ∨ True) : g_ref22_Right (m, ()) = some ((updB m, ()), ()) := by
  have hl := g.good.few
  have := hl.id; have := hl.next; have := hl.pre; have := hl.list; have := hl.subs
  rw [g_ref22_Right_eq]
  unfold updB
  refine ne_step (fun h => by rw [decide_eq_false h, Bool.false_and]) (fun h => ?_)
  rw [decide_eq_true h, Bool.true_and, rbare_is (by omega) (by omega), Option.bind_some]
  dsimp only
  refine nb_and (f := fun b => some ((b, ()), ())) (fun _ => ?_)
  rw [rsright_is (fewS_of g.good), Option.bind_some]
  refine nb_and (f := fun b => some ((b, ()), ())) (fun _ => ?_)
  rw [rin_is (by omega), Option.bind_some]
  refine nb_and (f := fun b => some ((b, ()), ())) (fun hin => ?_)
  have hae := (inB_iff.1 hin).1
  rw [two22_is, Option.bind_some]
  refine nb_and (f := fun b => some ((b, ()), ())) (fun _ => ?_)
  rw [two22_is, Option.bind_some]
  refine nb_and (f := fun b => some ((b, ()), ())) (fun _ => ?_)
  rw [two22_is, Option.bind_some]
  refine nb_and (f := fun b => some ((b, ()), ())) (fun _ => ?_)
  unfold tailB
  refine bq_step (fun h => ?_) (fun h => ?_)
  · rw [if_pos h]
    cases (m.id == ([] : Bs)) <;> rfl
  · rw [if_neg h]
    refine ne_step (fun h0 => ?_) (fun h0 => ?_)
    · rw [decide_eq_true (show 0 < m.ae by omega), Bool.true_and, len8]
      cases h8 : decide (m.id.length = 8) with
      | false => rw [iff_, Bool.false_and]
      | true =>
        rw [ift, Bool.true_and]
        have e2 : (famF m.next == famE m.ae) = decide (famF m.next = famE m.ae) := by rw [Bool.eq_iff_iff]; simp
        rw [rfam6_is, Option.bind_some, rcfam_is, Option.bind_some]
        dsimp only
        rw [e2]
        cases (m.next == ([] : Bs)) <;> rfl
    · rw [decide_eq_false (show ¬ 0 < m.ae by omega), Bool.false_and]
theorem goodL {m : Msg} (g : Good_api_Msg m) (h : Lite m) : GoodL m := by
  obtain ⟨g1, g2, g3, g4, g5, g6, g7, g8, g9, g10, g11, g12, g13, g14, g15, g16, g17, g18, g19, g20, g21, g22, g23, _⟩ := g
  exact ⟨⟨h, g18, g15, g13, g19, g1, g16, g6, g8, g17⟩, g23, g11⟩
end Go.VP
set_option linter.unusedVariables false
set_option linter.unusedSimpArgs false
set_option maxRecDepth 100000
namespace Go.VP
open Go Go.VI
def len8T : List UInt8 := [0] ++ List.replicate 1 1 ++ List.replicate 2 2 ++ List.replicate 4 3 ++ List.replicate 8 4 ++ List.replicate 16 5 ++ List.replicate 32 6 ++ List.replicate 64 7 ++ List.replicate 128 8
theorem len8T_ok : ∀ x : Fin 256, x.val ≠ 0 → ∃ y, len8T[x.val]? = some y ∧ 1 ≤ y.toNat ∧ y.toNat ≤ 8 := by
  have h : ∀ x : Fin 256, x.val ≠ 0 → 1 ≤ (len8T[x.val]?.getD 0).toNat ∧ (len8T[x.val]?.getD 0).toNat ≤ 8 := by decide +kernel
  have hl : len8T.length = 256 := by decide +kernel
  intro x hx
  refine ⟨len8T[x.val]?.getD 0, get_bt (by omega), h x hx⟩
theorem len8_eq (a0 : Int) : g_math_bits_Len8 (a0, ()) = if 0 ≤ a0 then len8T[a0.toNat]?.bind fun (y1 : UInt8) => some (((IntKind.wrap .i64 (y1.toNat : Int)), ()), ()) else none := g_math_bits_Len8_eq a0
theorem lz8_is {n : Nat} (h0 : n ≠ 0) (h : n < 256) : ∃ z : Int, g_math_bits_LeadingZeros8 ((n : Int), ()) = some ((z, ()), ()) ∧ 0 ≤ z ∧ z ≤ 7 := by
  obtain ⟨y, h1, h2, h3⟩ := len8T_ok ⟨n, h⟩ h0
  have h1 : len8T[n]? = some y := h1
  rw [g_math_bits_LeadingZeros8_eq, len8_eq, if_pos (by omega), Int.toNat_natCast, h1, Option.bind_some, Option.bind_some]
  dsimp only
  rw [w64n, w64 (by omega) (by omega)]
  exact ⟨_, rfl, by omega, by omega⟩
theorem xor_ne {a b : UInt8} : (ibits .xor .u8 (a.toNat : Int) (b.toNat : Int) ≠ 0) ↔ a ≠ b := by
  rw [ib8_xor a.toNat_lt b.toNat_lt]
  constructor
  · intro h e; subst e; simp at h
  · intro h e
    have h0 : a.toNat ^^^ b.toNat = 0 := by omega
    exact h (UInt8.toNat.inj (by
      have := congrArg (· ^^^ b.toNat) h0
      simpa [Nat.xor_assoc] using this))
theorem leadN_nil {x y : Bs} (h : x = [] ∨ y = []) : leadN x y = 0 := by
  rcases h with rfl | rfl
  · cases y <;> rfl
  · cases x <;> rfl
theorem alike_loop {a b : Bs} {n : Nat} (ha : a.length ≤ 100000) (hb : b.length ≤ 100000) : ∀ (d m i : Nat), i + d = min a.length b.length → d < m → ∃ A : Int, L_bits_Alike_0 n m a b (if (b.length : Int) < (a.length : Int) then (b.length : Int) else (a.length : Int)) i = some ((A, ()), ()) ∧ A / 8 = i + leadN (a.drop i) (b.drop i) ∧ 0 ≤ A ∧ A ≤ 10000000 := by
  have hmin : (if (b.length : Int) < (a.length : Int) then (b.length : Int) else (a.length : Int)) = ((min a.length b.length : Nat) : Int) := by split <;> omega
  rw [hmin]
  intro d
  induction d with
  | zero =>
    intro m i hd hm
    obtain ⟨m, rfl⟩ : ∃ k, m = k + 1 := ⟨m - 1, by omega⟩
    rw [L_bits_Alike_0_eq, ifn (by omega), hmin, w64 (by omega) (by omega)]
    refine ⟨_, rfl, ?_, by omega, by omega⟩
    rw [leadN_nil (by
      by_cases h : a.length ≤ b.length
      · exact .inl (List.drop_eq_nil_of_le (by omega))
      · exact .inr (List.drop_eq_nil_of_le (by omega)))]
    omega
  | succ d ih =>
    intro m i hd hm
    obtain ⟨m, rfl⟩ : ∃ k, m = k + 1 := ⟨m - 1, by omega⟩
    have hp : 0 ≤ (i : Int) := by omega
    have hi : i < a.length := by omega
    have hib : i < b.length := by omega
    rw [L_bits_Alike_0_eq, ifd (by omega)]
    simp only [if_pos hp, Int.toNat_natCast, List.getElem?_eq_getElem hi, List.getElem?_eq_getElem hib, Option.bind_some]
    rw [List.drop_eq_getElem_cons hi, List.drop_eq_getElem_cons hib, leadN]
    by_cases he : a[i] = b[i]
    · obtain ⟨A, h1, h2, h3, h4⟩ := ih m (i + 1) (by omega) (by omega)
      rw [show ((i + 1 : Nat) : Int) = (i : Int) + 1 by omega] at h1 h2
      have hz : ibits .xor .u8 ((a[i]).toNat : Int) ((b[i]).toNat : Int) = 0 := Classical.byContradiction fun h => xor_ne.1 h he
      rw [if_pos he, hz, if_neg (by decide), w64 (by omega) (by omega)]
      exact ⟨A, h1, by omega, h3, h4⟩
    · have hz := xor_ne.2 he
      rw [if_neg he, if_pos (by simpa using hz)]
      rw [ib8_xor (a[i]).toNat_lt (b[i]).toNat_lt] at hz ⊢
      have hx : (a[i]).toNat ^^^ (b[i]).toNat < 256 := Nat.xor_lt_two_pow (n := 8) (a[i]).toNat_lt (b[i]).toNat_lt
      obtain ⟨z, k1, k2, k3⟩ := lz8_is (n := (a[i]).toNat ^^^ (b[i]).toNat) (by omega) hx
      rw [k1, Option.bind_some]
      dsimp only
      rw [w64 (x := 8 * (i : Int)) (by omega) (by omega), w64 (by omega) (by omega)]
      exact ⟨_, rfl, by omega, by omega, by omega⟩
theorem lead_is {a b : Bs} (ha : a.length ≤ 100000) (hb : b.length ≤ 100000) : g_prefix_Lead (a, b, ()) = some ((((leadN a b : Nat) : Int), ()), ()) := by
  have hA : ∃ A : Int, g_bits_Alike (a, b, ()) = some ((A, ()), ()) ∧ A / 8 = leadN a b ∧ 0 ≤ A := by
    show ∃ A : Int, h_bits_Alike fuel (a, b, ()) = _ ∧ _
    rw [h_bits_Alike_eq]
    obtain ⟨A, h1, h2, h3, _⟩ := alike_loop (n := fuel) ha hb (min a.length b.length) fuel 0 (by omega) (fuel_ge (by omega))
    exact ⟨A, h1, by simpa using h2, h3⟩
  obtain ⟨A, h1, h2, h3⟩ := hA
  rw [g_prefix_Lead_eq, h1, Option.bind_some]
  dsimp only
  rw [ishr3 h3, h2]
end Go.VP
set_option linter.unusedVariables false
set_option linter.unusedSimpArgs false
set_option maxRecDepth 100000
namespace Go.VP
open Go Go.VI
noncomputable def opqB (m : Msg) : Bool := bareB m && (decide (10 < m.type_) && (decide (m.type_ < 256) && decide (m.data.length < 256)))
noncomputable def leanB (m : Msg) : Bool := if m.kind = 11 then updB m else if m.kind = 12 ∨ m.kind = 13 then routeB m else if m.kind = 14 then opqB m else fieldB m
noncomputable def otherF (m : Msg) : Bs := if m.kind = 12 ∨ m.kind = 13 then (routePut m).1 else if m.kind = 14 then (tput m.type_ m.data).1 else (fieldPut m).1
theorem fieldB_kind {m : Msg} (h : fieldB m = true) : 7 ≤ m.kind ∧ m.kind ≤ 10 := by
  rcases (fieldR_iff.1 h).kinds with h | h | ⟨h, _⟩ | ⟨h, _⟩ <;> omega
theorem routeB_kind {m : Msg} (h : routeB m = true) : m.kind = 12 ∨ m.kind = 13 := by
  rcases (routeR_iff.1 h).kinds with h | ⟨h, _⟩
  · exact .inl h
  · exact .inr h
theorem opqR_iff {m : Msg} (hk : m.kind = 14) : opqB m = true ↔ OpqR m := by
  unfold opqB
  simp only [Bool.and_eq_true, decide_eq_true_eq]
  exact ⟨fun ⟨a, b, c, d⟩ => ⟨hk, a, ⟨b, c⟩, d⟩, fun h => ⟨h.bare, h.ty.1, h.ty.2, h.len⟩⟩
theorem leanR_iff {m : Msg} : leanB m = true ↔ LeanR m := by
  unfold leanB
  constructor
  · intro h
    split at h
    · exact .upd (updR_iff.1 h)
    split at h
    · exact .route (routeR_iff.1 h)
    split at h
    · rename_i hk; exact .opq ((opqR_iff hk).1 h)
    · exact .field (fieldR_iff.1 h)
  · intro h
    cases h with
    | field h =>
      have hb := fieldR_iff.2 h
      have := fieldB_kind hb
      rw [if_neg (by omega), if_neg (by omega), if_neg (by omega)]; exact hb
    | route h =>
      have hb := routeR_iff.2 h
      have := routeB_kind hb
      rw [if_neg (by omega), if_pos this]; exact hb
    | upd h => rw [if_pos h.kind]; exact updR_iff.2 h
    | opq h => rw [if_neg (by have := h.kind; omega), if_neg (by have := h.kind; omega), if_pos h.kind]; exact (opqR_iff h.kind).2 h
theorem lright_is {m : Msg} (g : GoodL m) : g_lean_Right (m, ()) = some ((leanB m, ()), ()) := by
  have op : (if bareB m = true then (if (decide (10 < m.type_)) = true then (if (decide (m.type_ < 256)) = true then some (((decide ((m.data.length : Int) < 256)), ()), ()) else some ((false, ()), ())) else some ((false, ()), ())) else some ((false, ()), ())) = (some ((opqB m, ()), ()) : Option ((Bool × Unit) × Unit)) := by
    unfold opqB
    have e : decide ((m.data.length : Int) < 256) = decide (m.data.length < 256) := by rw [Bool.eq_iff_iff]; simp; omega
    rw [e]
    cases bareB m
    · rfl
    cases decide (10 < m.type_)
    · rfl
    cases decide (m.type_ < 256)
    · rfl
    · rfl
  rw [g_lean_Right_eq, cright_is g, rtright_is g.good, bare_is, right_is g.good]
  simp only [Option.bind_some, op]
  unfold leanB
  refine bq_step (fun h => by rw [if_pos h]) (fun h => ?_)
  rw [if_neg h]
  refine bq_step (fun h2 => ?_) (fun h2 => ?_)
  · rw [if_pos (by simp [h2]), if_pos (.inl h2)]
  · refine bq_step (fun h3 => by rw [if_pos (.inr h3)]) (fun h3 => ?_)
    rw [if_neg (show ¬ (m.kind = 12 ∨ m.kind = 13) by omega)]
    exact bq_step (fun h4 => by rw [if_pos h4]) (fun h4 => by rw [if_neg h4])
theorem rlright_is {m : Msg} (g : GoodL m) : g_ref24_Right (m, ()) = some ((leanB m, ()), ()) := by
  have := g.good.few.list; have := g.good.few.subs
  rw [g_ref24_Right_eq, rright_is g.good, Option.bind_some]
  dsimp only
  cases hf : fieldB m with
  | true => rw [ift, leanR_iff.2 (.field (fieldR_iff.1 hf))]
  | false =>
  rw [iff_, rrtright_is g.good, Option.bind_some]
  dsimp only
  cases hr : routeB m with
  | true => rw [ift, leanR_iff.2 (.route (routeR_iff.1 hr))]
  | false =>
  rw [iff_, rcright_is g (.inr (.inr trivial)), Option.bind_some]
  dsimp only
  cases hu : updB m with
  | true => rw [ift, leanR_iff.2 (.upd (updR_iff.1 hu))]
  | false =>
  rw [iff_, g_ref24_opaque_eq, rbare_is (by omega) (by omega)]
  unfold leanB
  rw [hu, hr, hf]
  by_cases hk : m.kind = 14
  · rw [if_pos (by simp [hk]), if_neg (show ¬ m.kind = 11 by omega), if_neg (show ¬ (m.kind = 12 ∨ m.kind = 13) by omega), if_pos hk]
    unfold opqB
    have e : decide ((m.data.length : Int) ≤ 255) = decide (m.data.length < 256) := by rw [Bool.eq_iff_iff]; simp; omega
    have e2 : decide (11 ≤ m.type_) = decide (10 < m.type_) := by rw [Bool.eq_iff_iff]; simp; omega
    have e3 : decide (m.type_ ≤ 255) = decide (m.type_ < 256) := by rw [Bool.eq_iff_iff]; simp; omega
    rw [e, e2, e3]
    simp only [Option.bind_some]
    cases bareB m
    · rfl
    cases decide (10 < m.type_)
    · rfl
    cases decide (m.type_ < 256)
    · rfl
    · rfl
  · rw [if_neg (by simp [hk])]
    have : (if m.kind = 11 then false else if m.kind = 12 ∨ m.kind = 13 then false else if m.kind = 14 then opqB m else false) = false := by
      rw [if_neg hk]
      split
      · rfl
      split
      · rfl
      · rfl
    rw [this]; rfl
theorem other_is {m : Msg} (g : GoodL m) : g_lean_other (m, ()) = some ((otherF m, ()), ()) := by
  rw [g_lean_other_eq, rtput_is' g.good, tput_is, put_is g.good]
  simp only [Option.bind_some]
  unfold otherF
  refine bq_step (fun h2 => ?_) (fun h2 => ?_)
  · rw [if_pos (by simp [h2]), if_pos (.inl h2)]
  · refine bq_step (fun h3 => by rw [if_pos (.inr h3)]) (fun h3 => ?_)
    rw [if_neg (show ¬ (m.kind = 12 ∨ m.kind = 13) by omega)]
    exact bq_step (fun h4 => by rw [if_pos h4]) (fun h4 => by rw [if_neg h4])
def idT (s : Bs) : Bs := (tput 6 (idD s)).1
def hopT (a : Bs) : Bs := (tput 7 (hopD a)).1
def updT (m : Msg) (n : Nat) : Bs := (tput 8 (updD m n)).1
theorem tput_len (t : Int) (d : Bs) : (tput t d).1.length ≤ 257 := by unfold tput; split <;> simp; omega
abbrev mkW (b : Bs) (c : Ctx) : S_lean_writer := ⟨b, c.prefix_c0, c.prefix_c1, c.prefix_c2, c.prefix_c3, c.next_c0, c.next_c1, c.id⟩
theorem lput_is {b d : Bs} {c : Ctx} {t : Int} (hb : b.length ≤ 10000) : g_lean_writer_put (mkW b c, t, d, ()) = some ((), (mkW (b ++ (tput t d).1) c, ())) := by
  have := tput_len t d
  rw [g_lean_writer_put_eq, tput_is, Option.bind_some]
  dsimp only
  rw [if_pos (roomB_of (by omega))]
theorem lid_is {b s : Bs} {c : Ctx} (hb : b.length ≤ 10000) (hs : s.length ≤ 10000) : g_lean_writer_id (mkW b c, s, ()) = some ((), (mkW (b ++ idT s) (setId c s), ())) := by
  rw [g_lean_writer_id_eq, if_pos (maxB_of (by omega)), lput_is hb, Option.bind_some]; rfl
theorem lhop_is {b a : Bs} {c : Ctx} {f : Int} (hb : b.length ≤ 10000) (h : (f = 0 ∧ a.length = 4) ∨ (f = 1 ∧ a.length = 16)) : g_lean_writer_hop (mkW b c, f, a, ()) = some ((), (mkW (b ++ hopT a) (setN c f a), ())) := by
  have hf : 0 ≤ f ∧ f < 2 := by omega
  have hal : a.length ≤ 16 := by omega
  rw [g_lean_writer_hop_eq, short_is, Option.bind_some]
  unfold hopT hopD shortF
  by_cases hl : linkB a = true
  · rw [if_pos hl, if_pos hl]
    dsimp only
    rw [ift, if_pos (maxB_of (by simp; omega)), lput_is hb, Option.bind_some, if_pos hf]; rfl
  · rw [if_neg hl, if_neg hl]
    dsimp only
    rw [iff_]
    rcases h with ⟨rfl, h⟩ | ⟨rfl, h⟩
    · rw [if_pos (by decide), if_pos (maxB_of (by omega)), lput_is hb, Option.bind_some, if_pos hf, if_pos h]; rfl
    · rw [if_neg (by decide), if_pos (maxB_of (by omega)), lput_is hb, Option.bind_some, if_pos hf, if_neg (show ¬ a.length = 4 by omega)]; rfl
theorem lbase_is {ae : Int} (h : 0 ≤ ae ∧ ae < 4) : g_lean_base (ae, ()) = some ((baseA ae, ()), ()) := by
  rw [g_lean_base_eq]
  rcases ae_cases h with rfl | rfl | rfl | rfl <;> rfl
theorem UpdR.cutl {m : Msg} (h : UpdR m) : ((cutF m.prefix_ m.plen).length : Int) = leastF m.plen ∧ baseA m.ae ≤ leastF m.plen ∧ 0 ≤ baseA m.ae := by
  have r := h.asR
  obtain ⟨l1, l2, l3, l4, l5, l6⟩ := least_base r.ae r.plen
  exact ⟨r.cut.1, l2, l1⟩
theorem lbytes_is {m : Msg} (h : UpdR m) : g_lean_bytes (m, ()) = some ((bytesP m, ()), ()) := by
  obtain ⟨hae, hpl, hbl, h16, hbs, hp16⟩ := h.pre
  obtain ⟨c1, c2, c3⟩ := h.cutl
  rw [g_lean_bytes_eq, pcut_is (by omega) (has64.2 (by omega)) (by omega), Option.bind_some, lbase_is hae, Option.bind_some]
  dsimp only
  rw [if_pos (by omega)]; rfl
def leadC (c : Ctx) (m : Msg) : Nat := if preC c m.ae = [] then 0 else leadN ((preC c m.ae).drop (baseA m.ae).toNat) (bytesP m)
theorem leadC_le (c : Ctx) (m : Msg) : leadC c m ≤ (bytesP m).length := by
  unfold leadC; split
  · omega
  · exact (leadN_le _ _).2
theorem lom_is {b : Bs} {c : Ctx} {m : Msg} (hc : okC c) (h : UpdR m) : g_lean_writer_omitted (mkW b c, m, ()) = some ((((leadC c m : Nat) : Int), ()), (mkW b c, ())) := by
  obtain ⟨hae, hpl, hbl, h16, hbs, hp16⟩ := h.pre
  have hpre : (if m.ae = 0 then c.prefix_c0 else (if m.ae = 1 then c.prefix_c1 else (if m.ae = 2 then c.prefix_c2 else c.prefix_c3))) = preC c m.ae := rfl
  rw [g_lean_writer_omitted_eq, if_pos hae]
  dsimp only
  rw [hpre]
  unfold leadC
  refine be_step (fun hq => by rw [if_pos hq]; rfl) (fun hq => ?_)
  have hl := preC_len hc hae hq
  have hsz : szA m.ae ≤ 16 ∧ baseA m.ae ≤ szA m.ae := by unfold szA baseA; refine ⟨?_, ?_⟩ <;> (split <;> (try split) <;> (try split) <;> omega)
  rw [if_neg hq, lbase_is hae, Option.bind_some]
  dsimp only
  rw [if_pos (by omega), lbytes_is h, Option.bind_some]
  dsimp only
  rw [lead_is (by simp; omega) (by omega), Option.bind_some]
theorem lloop1 {m : Msg} {n k : Nat} {N : Nat} {x0 x1 x2 : Int} {w : S_lean_writer} {p0 p1 p2 p3 x6 : Bs} (hx : x6.length ≤ 100) (hs : rightB m.subs = true) (hfs : FewS m.subs) (hB : g_lean_bytes (m, ()) = some ((bytesP m, ()), ())) (hBl : (bytesP m).length ≤ 16) (hN : N ≤ (bytesP m).length) (hw : w.b.length ≤ 10000) :
    L_lean_writer_update_1 n (k + 1) N m [x0, x1, x2] 3 w p0 p1 p2 p3 x6 3 = some ((), (mkW (w.b ++ (tput 8 ((x6 ++ (bytesP m).drop N) ++ encS m.subs)).1) ⟨p0, p1, p2, p3, w.c_Next_c0, w.c_Next_c1, w.c_Id⟩, ())) := by
  have hsl := encS_small hs
  rw [L_lean_writer_update_1_eq, ifn (by omega), sput_is hfs (by have := hfs.1; have := (rightB_split hs).2; have := sub_len (l := m.subs); omega), Option.bind_some, putS_r hs, hB, Option.bind_some]
  dsimp only
  rw [if_pos (by omega), Int.toNat_natCast, if_pos (maxB_of (by simp; omega)), if_pos (maxB_of (by simp; omega))]
  have := lput_is (b := w.b) (d := (x6 ++ (bytesP m).drop N) ++ encS m.subs) (c := ⟨p0, p1, p2, p3, w.c_Next_c0, w.c_Next_c1, w.c_Id⟩) (t := 8) hw
  rw [this]; rfl
theorem lupd_core {m : Msg} {n k : Nat} {N : Nat} {w : S_lean_writer} {p0 p1 p2 p3 x6 : Bs} (h : UpdR m) (hx : x6.length ≤ 50) (hfs : FewS m.subs) (hN : N ≤ (bytesP m).length) (hw : w.b.length ≤ 10000) :
    L_lean_writer_update_0 n (k + 4) N m w x6 [m.interval, m.seq, m.metric] 3 0 p0 p1 p2 p3 = some ((), (mkW (w.b ++ (tput 8 (x6 ++ (be 2 m.interval ++ (be 2 m.seq ++ (be 2 m.metric ++ ((bytesP m).drop N ++ encS m.subs)))))).1) ⟨p0, p1, p2, p3, w.c_Next_c0, w.c_Next_c1, w.c_Id⟩, ())) := by
  obtain ⟨hae, hpl, hbl, h16, hbs, hp16⟩ := h.pre
  have b2 : ∀ x, (be 2 x).length = 2 := fun x => be_length 2 x
  rw [L_lean_writer_update_0_eq, ifd (by omega), if_pos (by omega)]
  show (if roomB _ = true then L_lean_writer_update_1 n (k + 3) N m [m.interval, m.seq, m.metric] 3 w p0 p1 p2 p3 (x6 ++ ([u8of (IntKind.wrap .u8 (ishr .i64 m.interval 8)), u8of (IntKind.wrap .u8 m.interval)])) 1 else none) = _
  rw [if_pos (roomB_of (by simp; omega)), be2 h.iv, L_lean_writer_update_1_eq, ifd (by omega), if_pos (by omega)]
  show (if roomB _ = true then L_lean_writer_update_1 n (k + 2) N m [m.interval, m.seq, m.metric] 3 w p0 p1 p2 p3 ((x6 ++ be 2 m.interval) ++ ([u8of (IntKind.wrap .u8 (ishr .i64 m.seq 8)), u8of (IntKind.wrap .u8 m.seq)])) 2 else none) = _
  rw [if_pos (roomB_of (by simp [b2]; omega)), be2 h.sq, L_lean_writer_update_1_eq, ifd (by omega), if_pos (by omega)]
  show (if roomB _ = true then L_lean_writer_update_1 n (k + 1) N m [m.interval, m.seq, m.metric] 3 w p0 p1 p2 p3 (((x6 ++ be 2 m.interval) ++ be 2 m.seq) ++ ([u8of (IntKind.wrap .u8 (ishr .i64 m.metric 8)), u8of (IntKind.wrap .u8 m.metric)])) 3 else none) = _
  rw [if_pos (roomB_of (by simp [b2]; omega)), be2 h.me, lloop1 (by simp [b2]; omega) h.subs hfs (lbytes_is h) h16 hN hw]
  simp only [List.append_assoc]
theorem lupd_is {b : Bs} {c : Ctx} {m : Msg} {N : Nat} (h : UpdR m) (hfs : FewS m.subs) (hN : N ≤ (bytesP m).length) (hb : b.length ≤ 10000) : g_lean_writer_update (mkW b c, m, (N : Int), ()) = some ((), (mkW (b ++ updT m N) (setP c m.ae m.prefix_), ())) := by
  obtain ⟨hae, hpl, hbl, h16, hbs, hp16⟩ := h.pre
  obtain ⟨k, hk⟩ : ∃ k, fuel = k + 4 := by obtain ⟨q, e⟩ := fuel_pos; exact ⟨q + 999999999996, e⟩
  have u1 : u8of (IntKind.wrap .u8 m.ae) = u8of m.ae := u8w hae.1
  have u2 : u8of (IntKind.wrap .u8 m.plen) = u8of m.plen := u8w hpl.1
  have u3 : u8of (IntKind.wrap .u8 (N : Int)) = u8of N := u8w (by omega)
  show h_lean_writer_update fuel (mkW b c, m, (N : Int), ()) = _
  rw [h_lean_writer_update_eq, u1, u2, u3]
  generalize hf : (fuel : Nat) = F
  rw [hf] at hk
  unfold updT updD setP flagU
  have hx : ([u8of m.ae, 128, u8of m.plen, u8of N] : Bs).length ≤ 50 := by simp
  refine bq_step (fun h0 => ?_) (fun h0 => ?_)
  · rw [if_pos (by simp), if_pos (by simp), if_pos h0, if_pos h0]
    have := lupd_core (n := F) (k := k) (N := N) (w := mkW b c) (p0 := c.prefix_c0) (p1 := c.prefix_c1) (p2 := c.prefix_c2) (p3 := c.prefix_c3) (x6 := ([u8of m.ae, 128, u8of m.plen, u8of N] : Bs).set 1 (u8of 0)) h (by simp) hfs hN hb
    rw [← hk] at this
    exact this
  · rw [if_pos hae, if_neg h0, if_neg h0]
    have := lupd_core (n := F) (k := k) (N := N) (w := mkW b c) (p0 := if m.ae = 0 then m.prefix_ else c.prefix_c0) (p1 := if m.ae = 1 then m.prefix_ else c.prefix_c1) (p2 := if m.ae = 2 then m.prefix_ else c.prefix_c2) (p3 := if m.ae = 3 then m.prefix_ else c.prefix_c3) (x6 := [u8of m.ae, 128, u8of m.plen, u8of N]) h hx hfs hN hb
    rw [← hk, if_neg h0] at this
    rw [if_neg h0]
    exact this
def headL (c : Ctx) (m : Msg) : Bs := if m.metric = 65535 then [] else (if m.id = c.id then [] else idT m.id) ++ (if m.next = nextC c (famE m.ae) then [] else hopT m.next)
def knownL (c : Ctx) (m : Msg) : Ctx := if m.metric = 65535 then c else setN (setId c m.id) (famE m.ae) m.next
noncomputable def putL (c : Ctx) (m : Msg) : Bs × Ctx × Int :=
  if leanB m = false then ([], c, 1) else if m.kind ≠ 11 then (otherF m, c, 0)
  else if m.metric ≠ 65535 ∧ m.next = [] ∧ nextC c (famE m.ae) ≠ [] then ([], c, 9)
  else (headL c m ++ updT m (leadC c m), setP (knownL c m) m.ae m.prefix_, 0)
noncomputable def plainL (m : Msg) : Bs × Bool :=
  if leanB m = false then ([], false) else if m.kind ≠ 11 then (otherF m, true)
  else ((if m.metric = 65535 then [] else idT m.id ++ (if m.next = [] then [] else hopT m.next)) ++ updT m 0, true)
theorem setId_same {c : Ctx} {i : Bs} (h : i = c.id) : setId c i = c := by subst h; rfl
theorem setN_same {c : Ctx} {f : Int} {a : Bs} (hf : f = 0 ∨ f = 1) (h : a = nextC c f) : setN c f a = c := by
  subst h
  rcases hf with rfl | rfl <;> rfl
theorem UpdR.fam {m : Msg} (h : UpdR m) (hm : m.metric ≠ 65535) : (famE m.ae = 0 ∨ famE m.ae = 1) ∧ (m.next ≠ [] → (famE m.ae = 0 ∧ m.next.length = 4) ∨ (famE m.ae = 1 ∧ m.next.length = 16)) := by
  have hn := h.near hm
  have hf := famE_rng (ae := m.ae) (by have := h.pre.1; omega)
  refine ⟨by omega, fun hne => ?_⟩
  exact famF_cases (by rcases hn.2.2 with q | q; exact absurd q hne; exact q) (by omega)
theorem ltail {b : Bs} {c : Ctx} {m : Msg} (hc : okC c) (h : UpdR m) (hfs : FewS m.subs) (hb : b.length ≤ 1000) :
    ((g_lean_writer_omitted (mkW b c, m, ())).bind fun r6 => ((g_lean_writer_update (r6.2.1, m, r6.1.1, ())).bind fun r7 => (some ((r7.2.1.b, (S_api_Ctx.mk r7.2.1.c_Prefix_c0 r7.2.1.c_Prefix_c1 r7.2.1.c_Prefix_c2 r7.2.1.c_Prefix_c3 r7.2.1.c_Next_c0 r7.2.1.c_Next_c1 r7.2.1.c_Id), 0, ()), ()) : Option ((Bs × Ctx × Int × Unit) × Unit)))) = some ((b ++ updT m (leadC c m), setP c m.ae m.prefix_, 0, ()), ()) := by
  rw [lom_is hc h, Option.bind_some]
  dsimp only
  rw [lupd_is h hfs (leadC_le c m) (by omega), Option.bind_some]
theorem okC_setId {c : Ctx} {i : Bs} (hc : okC c) (h : i.length = 8) : okC (setId c i) := ⟨hc.1, hc.2.1, hc.2.2.1, hc.2.2.2.1, hc.2.2.2.2.1, hc.2.2.2.2.2.1, .inr h⟩
theorem okC_setN {c : Ctx} {f : Int} {a : Bs} (hc : okC c) (h : (f = 0 ∧ a.length = 4) ∨ (f = 1 ∧ a.length = 16)) : okC (setN c f a) := by
  obtain ⟨h0, h1, h2, h3, h4, h5, h6⟩ := hc
  rcases h with ⟨rfl, h⟩ | ⟨rfl, h⟩
  · exact ⟨h0, h1, h2, h3, .inr h, h5, h6⟩
  · exact ⟨h0, h1, h2, h3, h4, .inr h, h6⟩
theorem idT_len (s : Bs) : (idT s).length ≤ 257 := tput_len _ _
theorem hopT_len (s : Bs) : (hopT s).length ≤ 257 := tput_len _ _
theorem lput_main {c : Ctx} {m : Msg} (hc : okC c) (g : GoodL m) : g_lean_Put (c, m, ()) = some (((putL c m).1, (putL c m).2.1, (putL c m).2.2, ()), ()) := by
  rw [g_lean_Put_eq, lright_is g, Option.bind_some]
  unfold putL
  dsimp only
  cases hl : leanB m with
  | false => rw [ifnf, if_pos rfl]
  | true =>
  have hR := leanR_iff.1 hl
  rw [ifnt, if_neg (show ¬ (true = false) by simp)]
  refine ne_step (fun hk => ?_) (fun hk => ?_)
  · rw [other_is g, Option.bind_some, if_pos hk]
  rw [if_neg (show ¬ (m.kind ≠ 11) from fun q => q hk)]
  have h : UpdR m := by
    cases hR with
    | field h => have := fieldB_kind (fieldR_iff.2 h); omega
    | route h => have := routeB_kind (routeR_iff.2 h); omega
    | upd h => exact h
    | opq h => have := h.kind; omega
  have hfs := fewS_of g.good
  unfold headL knownL
  refine ne_step (fun hm => ?_) (fun hm => ?_)
  rotate_left
  · rw [if_neg (show ¬ (m.metric ≠ 65535 ∧ m.next = [] ∧ nextC c (famE m.ae) ≠ []) from fun q => q.1 hm), if_pos hm, if_pos hm]
    exact ltail hc h hfs (by simp)
  have hn := h.near hm
  obtain ⟨hf, hop⟩ := h.fam hm
  have hf2 : 0 ≤ famE m.ae ∧ famE m.ae < 2 := by omega
  have hnx : (if famE m.ae = 0 then c.next_c0 else c.next_c1) = nextC c (famE m.ae) := rfl
  rw [cfam_is, Option.bind_some]
  dsimp only
  rw [hnx, if_neg hm, if_neg hm]
  simp only [if_pos hf2]
  have hil : m.id.length ≤ 10000 := by omega
  have nohop : ∀ (b : Bs) (k : Ctx), okC k → b.length ≤ 300 → nextC k (famE m.ae) = nextC c (famE m.ae) → m.next = nextC c (famE m.ae) → leadC k m = leadC c m →
      ((g_lean_writer_omitted (mkW b k, m, ())).bind fun r6 => ((g_lean_writer_update (r6.2.1, m, r6.1.1, ())).bind fun r7 => (some ((r7.2.1.b, (S_api_Ctx.mk r7.2.1.c_Prefix_c0 r7.2.1.c_Prefix_c1 r7.2.1.c_Prefix_c2 r7.2.1.c_Prefix_c3 r7.2.1.c_Next_c0 r7.2.1.c_Next_c1 r7.2.1.c_Id), 0, ()), ()) : Option ((Bs × Ctx × Int × Unit) × Unit)))) = some ((((b ++ []) ++ updT m (leadC c m)), setP (setN k (famE m.ae) m.next) m.ae m.prefix_, 0, ()), ()) := fun b k hk hb e1 e2 e3 => by
    rw [ltail hk h hfs (by omega), setN_same hf (by rw [e1]; exact e2), e3, List.append_nil]
  have wihop : ∀ (b : Bs) (k : Ctx), okC k → b.length ≤ 300 → m.next ≠ [] → leadC k m = leadC c m →
      ((g_lean_writer_hop (mkW b k, famE m.ae, m.next, ())).bind fun r5 => ((g_lean_writer_omitted (r5.2.1, m, ())).bind fun r6 => ((g_lean_writer_update (r6.2.1, m, r6.1.1, ())).bind fun r7 => (some ((r7.2.1.b, (S_api_Ctx.mk r7.2.1.c_Prefix_c0 r7.2.1.c_Prefix_c1 r7.2.1.c_Prefix_c2 r7.2.1.c_Prefix_c3 r7.2.1.c_Next_c0 r7.2.1.c_Next_c1 r7.2.1.c_Id), 0, ()), ()) : Option ((Bs × Ctx × Int × Unit) × Unit))))) = some ((((b ++ hopT m.next) ++ updT m (leadC c m)), setP (setN k (famE m.ae) m.next) m.ae m.prefix_, 0, ()), ()) := fun b k hk hb hne e3 => by
    have hl := hopT_len m.next
    rw [lhop_is (by omega) (hop hne), Option.bind_some]
    dsimp only
    rw [ltail (okC_setN hk (hop hne)) h hfs (by simp; omega)]
    have : leadC (setN k (famE m.ae) m.next) m = leadC k m := rfl
    rw [this, e3]
  have hl0 : leadC (setId c m.id) m = leadC c m := rfl
  have hidl := idT_len m.id
  by_cases hne : m.next = []
  · rw [if_pos (by simp [hne])]
    by_cases hq : nextC c (famE m.ae) = []
    · rw [if_neg (by simp [hq]), if_neg (show ¬ (m.metric ≠ 65535 ∧ m.next = [] ∧ nextC c (famE m.ae) ≠ []) from fun q => q.2.2 hq)]
      have e2 : m.next = nextC c (famE m.ae) := by rw [hne, hq]
      by_cases hi : m.id = c.id
      · rw [if_neg (by simp [hi]), if_neg (by simp [e2]), if_pos hi, if_pos e2, setId_same hi]
        exact nohop [] c hc (by simp) rfl e2 rfl
      · rw [if_pos (by simp [hi]), if_neg hi, if_pos e2, lid_is (by simp) hil, Option.bind_some]
        dsimp only
        rw [if_neg (by simp [e2])]
        exact nohop (idT m.id) (setId c m.id) (okC_setId hc hn.2.1) (by omega) rfl e2 hl0
    · rw [if_pos (by simp [hq]), if_pos ⟨hm, hne, hq⟩]
  · rw [if_neg (by simpa using hne), if_neg (show ¬ (m.metric ≠ 65535 ∧ m.next = [] ∧ nextC c (famE m.ae) ≠ []) from fun q => hne q.2.1)]
    by_cases hi : m.id = c.id
    · rw [if_neg (by simp [hi]), if_pos hi, setId_same hi]
      by_cases e2 : m.next = nextC c (famE m.ae)
      · rw [if_neg (by simp [e2]), if_pos e2]
        exact nohop [] c hc (by simp) rfl e2 rfl
      · rw [if_pos (by simpa using e2), if_neg e2]
        exact wihop [] c hc (by simp) hne rfl
    · rw [if_pos (by simp [hi]), if_neg hi, lid_is (by simp) hil, Option.bind_some]
      dsimp only
      by_cases e2 : m.next = nextC c (famE m.ae)
      · rw [if_neg (by simp [e2]), if_pos e2]
        exact nohop (idT m.id) (setId c m.id) (okC_setId hc hn.2.1) (by omega) rfl e2 hl0
      · rw [if_pos (by simpa using e2), if_neg e2]
        exact wihop (idT m.id) (setId c m.id) (okC_setId hc hn.2.1) (by omega) hne hl0
end Go.VP
set_option linter.unusedVariables false
set_option linter.unusedSimpArgs false
set_option maxRecDepth 100000
namespace Go.VP
open Go Go.VI
theorem OpqR.eq {m : Msg} (h : OpqR m) : opaqueM m.type_ m.data = m := by
  have hx : bareOf m = some ⟨m.kind, 0, 0, [], 0, 0, [], 0, 0, [], 0, [], 0, 0, 0, 0, 0, 0, 0, [], [], [], m.type_, m.data, []⟩ := by
    have hk := h.kind
    unfold bareOf; rw [if_neg (by omega), if_neg (by omega), if_neg (by omega), if_neg (by omega), if_neg (by omega), if_neg (by omega), if_neg (by omega), if_neg (by omega), if_neg (by omega), if_neg (by omega), if_neg (by omega), if_neg (by omega), if_neg (by omega), if_pos hk]
  have hb := h.bare
  rw [bareB, hx] at hb
  have := eqB_true.1 hb
  rw [h.kind] at this
  exact this
theorem LeanR.upd_of {m : Msg} (h : LeanR m) (hk : m.kind = 11) : UpdR m := by
  cases h with
  | field h => have := fieldB_kind (fieldR_iff.2 h); omega
  | route h => have := routeB_kind (routeR_iff.2 h); omega
  | upd h => exact h
  | opq h => have := h.kind; omega
theorem putL_ok {c : Ctx} {m : Msg} (hc : okC c) (h : LeanR m) : okC (putL c m).2.1 := by
  unfold putL
  split
  · exact hc
  split
  · exact hc
  split
  · exact hc
  rename_i hk hx
  have hu := h.upd_of (by simpa using hk)
  have hk2 : okC (knownL c m) := by
    unfold knownL
    split
    · exact hc
    · rename_i hm
      obtain ⟨hf, hop⟩ := hu.fam hm
      have hc1 := okC_setId (i := m.id) hc (hu.near hm).2.1
      by_cases hne : m.next = []
      · have e : m.next = nextC (setId c m.id) (famE m.ae) := by
          rw [hne]
          show [] = nextC c (famE m.ae)
          cases hq : nextC c (famE m.ae) with
          | nil => rfl
          | cons a b => exact absurd ⟨hm, hne, by rw [hq]; simp⟩ hx
        rw [setN_same hf e]; exact hc1
      · exact okC_setN hc1 (hop hne)
  obtain ⟨a, b, c', d, e⟩ := inB_iff.1 hu.inn
  obtain ⟨h0, h1, h2, h3, h4, h5, h6⟩ := hk2
  show okC (setP (knownL c m) m.ae m.prefix_)
  unfold setP
  split
  · exact ⟨h0, h1, h2, h3, h4, h5, h6⟩
  · refine ⟨h0, ?_, ?_, ?_, h4, h5, h6⟩
    · dsimp only
      split
      · rename_i q; rw [q] at b; right; have : szA 1 = 4 := rfl; omega
      · exact h1
    · dsimp only
      split
      · rename_i q; rw [q] at b; right; have : szA 2 = 16 := rfl; omega
      · exact h2
    · dsimp only
      split
      · rename_i q; exact .inr (e q)
      · exact h3
theorem tput_mono {t : Int} {a b : Bs} (h : a.length ≤ b.length) (hb : 1 ≤ t ∧ t ≤ 255 ∧ b.length ≤ 255) : (tput t a).1.length ≤ (tput t b).1.length := by
  unfold tput
  rw [if_pos ⟨hb.1, hb.2.1, by omega⟩, if_pos hb]; simp; omega
theorem putL_short {c : Ctx} {m : Msg} (h : LeanR m) (he : (putL c m).2.2 = 0) : (putL c m).1.length ≤ (plainL m).1.length := by
  unfold putL at he ⊢
  unfold plainL
  rw [leanR_iff.2 h] at he ⊢
  rw [if_neg (show ¬ (true = false) by simp)] at he ⊢
  rw [if_neg (show ¬ (true = false) by simp)]
  by_cases hk : m.kind ≠ 11
  · rw [if_pos hk, if_pos hk]; exact Nat.le_refl _
  rw [if_neg hk] at he ⊢
  rw [if_neg hk]
  have hu := h.upd_of (by simpa using hk)
  by_cases hx : m.metric ≠ 65535 ∧ m.next = [] ∧ nextC c (famE m.ae) ≠ []
  · rw [if_pos hx] at he; exact absurd he (show ¬ ((9 : Int) = 0) by decide)
  rw [if_neg hx]
  have l1 := updD_len hu (leadC c m)
  have l2 := updD_len hu 0
  have hs := encS_small hu.subs
  obtain ⟨_, _, _, h16, _, _⟩ := hu.pre
  have := tput_mono (t := 8) (a := updD m (leadC c m)) (b := updD m 0) (by omega) ⟨by omega, by omega, by omega⟩
  show ((headL c m ++ updT m (leadC c m)).length ≤ (_ ++ updT m 0).length)
  rw [List.length_append, List.length_append]
  have h2 : (headL c m).length ≤ (if m.metric = 65535 then [] else idT m.id ++ (if m.next = [] then [] else hopT m.next)).length := by
    unfold headL
    by_cases hm : m.metric = 65535
    · rw [if_pos hm, if_pos hm]; exact Nat.le_refl _
    · rw [if_neg hm, if_neg hm, List.length_append, List.length_append]
      have a1 : (if m.id = c.id then [] else idT m.id).length ≤ (idT m.id).length := by split <;> simp
      have a2 : (if m.next = nextC c (famE m.ae) then [] else hopT m.next).length ≤ (if m.next = [] then [] else hopT m.next).length := by
        by_cases hne : m.next = []
        · have e : m.next = nextC c (famE m.ae) := by
            rw [hne]
            cases hq : nextC c (famE m.ae) with
            | nil => rfl
            | cons a b => exact absurd ⟨hm, hne, by rw [hq]; simp⟩ hx
          rw [if_pos e]; simp
        · rw [if_neg hne]; split <;> simp
      omega
  unfold updT
  omega
end Go.VP
set_option linter.unusedVariables false
set_option linter.unusedSimpArgs false
set_option maxRecDepth 100000
namespace Go.VP
open Go Go.VI
noncomputable def outS : Ctx → List Msg → Option (Bs × Ctx)
  | c, [] => some ([], c)
  | c, m :: r => if (putL c m).2.2 ≠ 0 then none else (outS (putL c m).2.1 r).map fun x => ((putL c m).1 ++ x.1, x.2)
noncomputable def goO : Ctx → List Msg → Nat → Bs → Bs × Int × Int
  | _, [], _, b => ((wrapF b).1, 0, 0)
  | c, m :: r, i, b => if (putL c m).2.2 ≠ 0 then ([], i, (putL c m).2.2) else if 65531 < ((b ++ (putL c m).1).length : Int) then ([], i, 10) else goO (putL c m).2.1 r (i + 1) (b ++ (putL c m).1)
noncomputable def badL : List Msg → Nat → Option Nat
  | [], _ => none
  | m :: r, i => if leanB m = false then some i else badL r (i + 1)
noncomputable def encO (l : List Msg) : Bs × Int × Int := match badL l 0 with
  | some i => ([], i, 1)
  | none => goO c0 l 0 []
theorem badL_none : ∀ {l : List Msg} {i : Nat}, badL l i = none ↔ ∀ m ∈ l, leanB m = true
  | [], i => by simp [badL]
  | m :: r, i => by
    rw [badL]
    by_cases h : leanB m = false
    · rw [if_pos h]; simp [h]
    · rw [if_neg h, badL_none (l := r)]
      simp at h; simp [h]
theorem goO_of : ∀ {l : List Msg} {c d : Ctx} {s b : Bs} {i : Nat}, outS c l = some (s, d) → ((b ++ s).length : Int) ≤ 65531 → goO c l i b = ((wrapF (b ++ s)).1, 0, 0)
  | [], c, d, s, b, i, h, hl => by rw [outS] at h; cases h; rw [goO, List.append_nil]
  | m :: r, c, d, s, b, i, h, hl => by
    rw [outS] at h
    split at h
    · cases h
    · rename_i he
      cases ho : outS (putL c m).2.1 r with
      | none => rw [ho] at h; cases h
      | some x =>
        rw [ho] at h
        cases h
        rw [← List.append_assoc] at hl ⊢
        have hl2 : (((b ++ (putL c m).1) ++ x.1).length : Int) ≤ 65531 := hl
        rw [goO, if_neg he, if_neg (by simp only [List.length_append] at hl2 ⊢; omega)]
        exact goO_of ho hl2
theorem encO_of {l : List Msg} {s : Bs} {d : Ctx} (hl : ∀ m ∈ l, leanB m = true) (h1 : outS c0 l = some (s, d)) (h2 : (s.length : Int) ≤ 65531) : encO l = ((wrapF s).1, 0, 0) := by
  have h3 := goO_of (i := 0) (b := []) h1 (by simpa using h2)
  rw [List.nil_append] at h3
  unfold encO
  rw [badL_none.2 hl]; exact h3
end Go.VP
set_option linter.unusedVariables false
set_option linter.unusedSimpArgs false
set_option maxRecDepth 100000
namespace Go.VP
open Go Go.VI
theorem putL_small (c : Ctx) (m : Msg) : (putL c m).1.length ≤ 800 := by
  have h1 := idT_len m.id; have h2 := hopT_len m.next; have h3 : (updT m (leadC c m)).length ≤ 257 := tput_len _ _
  have h4 : (otherF m).length ≤ 257 := by
    unfold otherF routePut fieldPut
    split
    · split
      · exact tput_len _ _
      · simp
    split
    · exact tput_len _ _
    split
    · exact tput_len _ _
    · simp
  have h5 : (headL c m).length ≤ 514 := by
    unfold headL
    split
    · simp
    · have a1 : (if m.id = c.id then [] else idT m.id).length ≤ 257 := by
        split
        · simp
        · exact h1
      have a2 : (if m.next = nextC c (famE m.ae) then [] else hopT m.next).length ≤ 257 := by
        split
        · simp
        · exact h2
      rw [List.length_append]; omega
  unfold putL
  split
  · simp
  split
  · dsimp only; omega
  split
  · simp
  · dsimp only; rw [List.length_append]; omega
theorem plainL_small (m : Msg) : (plainL m).1.length ≤ 800 := by
  have h1 := idT_len m.id; have h2 := hopT_len m.next; have h3 : (updT m 0).length ≤ 257 := tput_len _ _
  have h4 : (otherF m).length ≤ 257 := by
    unfold otherF routePut fieldPut
    split
    · split
      · exact tput_len _ _
      · simp
    split
    · exact tput_len _ _
    split
    · exact tput_len _ _
    · simp
  unfold plainL
  split
  · simp
  split
  · dsimp only; omega
  · dsimp only; rw [List.length_append]; split
    · simp; omega
    · have h6 : (if m.next = [] then [] else hopT m.next).length ≤ 257 := by
        split
        · simp
        · exact h2
      rw [List.length_append]; omega
theorem oenc1_loop {l : List Msg} {n : Nat} (hl : l.length ≤ 100000) (hg : ∀ m ∈ l, GoodL m) (hb : ∀ m ∈ l, leanB m = true) : ∀ (d k i : Nat) (c : Ctx) (b : Bs), i + d = l.length → d < k → okC c → b.length ≤ 65531 →
    L_outlet_Encode_1 n k l b c.prefix_c0 c.prefix_c1 c.prefix_c2 c.prefix_c3 c.next_c0 c.next_c1 c.id i = some (trip (goO c (l.drop i) i b), ()) := by
  intro d
  induction d with
  | zero =>
    intro k i c b hd hk hc hbl
    obtain ⟨k, rfl⟩ : ∃ q, k = q + 1 := ⟨k - 1, by omega⟩
    rw [L_outlet_Encode_1_eq, ifn (by omega), wrap_is (by omega), List.drop_eq_nil_of_le (by omega)]; rfl
  | succ d ih =>
    intro k i c b hd hk hc hbl
    obtain ⟨k, rfl⟩ : ∃ q, k = q + 1 := ⟨k - 1, by omega⟩
    have hi : i < l.length := by omega
    have hp : 0 ≤ (i : Int) := by omega
    have hm := hb _ (List.getElem_mem hi)
    have hgm := hg _ (List.getElem_mem hi)
    have ih' := fun c b => ih k (i + 1) c b (by omega) (by omega)
    rw [show ((i + 1 : Nat) : Int) = (i : Int) + 1 by omega] at ih'
    rw [L_outlet_Encode_1_eq, ifd (by omega), if_pos hp, Int.toNat_natCast, bind_at hi, List.drop_eq_getElem_cons hi, goO]
    generalize l[i] = m at *
    have hlen := putL_small c m
    rw [show (S_api_Ctx.mk c.prefix_c0 c.prefix_c1 c.prefix_c2 c.prefix_c3 c.next_c0 c.next_c1 c.id) = c from rfl, lput_main hc hgm, Option.bind_some]
    dsimp only
    refine ne_step (fun he => by rw [if_pos he]) (fun he => ?_)
    rw [if_neg (show ¬ (putL c m).2.2 ≠ 0 from fun q => q he), if_pos (roomB_of (by omega))]
    refine dq_step' (fun q => by rw [if_pos q]) (fun q => ?_)
    rw [if_neg q, w64 (by omega) (by omega)]
    exact ih' _ _ (putL_ok hc (leanR_iff.1 hm)) (by omega)
theorem oenc0_loop {l : List Msg} {n : Nat} (hn : 1000000 ≤ n) (hl : l.length ≤ 100000) (hg : ∀ m ∈ l, GoodL m) : ∀ (d k i : Nat), i + d = l.length → d < k → (∀ m ∈ l.take i, leanB m = true) →
    L_outlet_Encode_0 n k l i = some (trip (match badL (l.drop i) i with | some j => ([], (j : Int), 1) | none => goO c0 l 0 []), ()) := by
  intro d
  induction d with
  | zero =>
    intro k i hd hk hq
    obtain ⟨k, rfl⟩ : ∃ q, k = q + 1 := ⟨k - 1, by omega⟩
    rw [List.take_of_length_le (by omega)] at hq
    have := oenc1_loop (n := n) hl hg hq l.length n 0 c0 [] (by omega) (by omega) okC_c0 (by simp)
    rw [L_outlet_Encode_0_eq, ifn (by omega), List.drop_eq_nil_of_le (by omega)]
    exact this
  | succ d ih =>
    intro k i hd hk hq
    obtain ⟨k, rfl⟩ : ∃ q, k = q + 1 := ⟨k - 1, by omega⟩
    have hi : i < l.length := by omega
    have hp : 0 ≤ (i : Int) := by omega
    have ih' := ih k (i + 1) (by omega) (by omega)
    rw [show ((i + 1 : Nat) : Int) = (i : Int) + 1 by omega] at ih'
    have hgm := hg _ (List.getElem_mem hi)
    rw [L_outlet_Encode_0_eq, ifd (by omega), if_pos hp, Int.toNat_natCast, bind_at hi, lright_is hgm, Option.bind_some, List.drop_eq_getElem_cons hi, badL]
    dsimp only
    cases hm : leanB l[i] with
    | false => rw [ifnf, if_pos rfl]
    | true =>
      rw [ifnt, if_neg (show ¬ (true = false) by simp), w64 (by omega) (by omega)]
      refine ih' (fun x hx => ?_)
      rw [List.take_succ_eq_append_getElem hi, List.mem_append, List.mem_singleton] at hx
      rcases hx with hx | rfl
      · exact hq x hx
      · exact hm
theorem oenc_is {l : List Msg} (hl : l.length ≤ 100000) (hg : ∀ m ∈ l, GoodL m) : g_outlet_Encode (l, ()) = some (trip (encO l), ()) := by
  show h_outlet_Encode fuel (l, ()) = _
  rw [h_outlet_Encode_eq]
  exact oenc0_loop (n := fuel) (Nat.le_of_lt (fuel_ge (by omega))) hl hg l.length fuel 0 (by omega) (fuel_ge (by omega)) (fun m hm => by simp at hm)
end Go.VP
set_option linter.unusedVariables false
set_option linter.unusedSimpArgs false
set_option maxRecDepth 100000
namespace Go.VP
open Go Go.VI
def zeroB (s : Bs) : Bool := s.all (· == 0)
theorem zero_loop {n : Nat} {s : Bs} (hs : s.length ≤ 1000000000) : ∀ (d m i : Nat), i + d = s.length → d < m → L_octet_Zero_0 n m s i = some (((s.drop i).all (· == 0), ()), ()) := by
  intro d
  induction d with
  | zero =>
    intro m i hd hm
    obtain ⟨m, rfl⟩ : ∃ k, m = k + 1 := ⟨m - 1, by omega⟩
    rw [L_octet_Zero_0_eq, ifn (by omega), List.drop_eq_nil_of_le (by omega)]; rfl
  | succ d ih =>
    intro m i hd hm
    obtain ⟨m, rfl⟩ : ∃ k, m = k + 1 := ⟨m - 1, by omega⟩
    have ha : i < s.length := by omega
    have := ih m (i + 1) (by omega) (by omega)
    rw [show ((i + 1 : Nat) : Int) = (i : Int) + 1 by omega] at this
    rw [L_octet_Zero_0_eq, ifd (by omega), if_pos (by omega), Int.toNat_natCast, bind_at ha, w64 (by omega) (by omega), this, List.drop_eq_getElem_cons ha, List.all_cons]
    refine ne_step (fun h => ?_) (fun h => ?_)
    · have : (s[i] == 0) = false := by
        rw [beq_eq_false_iff_ne]; intro e; rw [e] at h; exact h rfl
      rw [this]; rfl
    · have : s[i] = 0 := u8_eq h
      rw [this]; simp
theorem zero_is {s : Bs} (hs : s.length ≤ 1000000000) : g_octet_Zero (s, ()) = some ((zeroB s, ()), ()) := by
  show h_octet_Zero fuel (s, ()) = _
  rw [h_octet_Zero_eq]
  exact zero_loop hs s.length fuel 0 (by omega) (fuel_ge (by omega))
abbrev z4 : Bs := [0, 0, 0, 0]
theorem zero4 {s : Bs} (h : s.length = 4) : zeroB s = true ↔ s = z4 := by
  match s, h with
  | [a, b, c, d], _ => simp [zeroB]
theorem zero8 {s t : Bs} (h : s.length = 4) (h' : t.length = 4) : zeroB (s ++ t) = true ↔ s = z4 ∧ t = z4 := by
  rw [← zero4 h, ← zero4 h']; simp [zeroB, List.all_append]
theorem nought_is : g_ref10_nought () = some ((z4, ()), ()) := g_ref10_nought_eq
def maskF (n : Int) : Bs := keepF [255, 255, 255, 255] n
theorem maskF_key : ∀ k : Fin 33, ([(u8of (IntKind.wrap .u8 (ishr .u32 (ishl .u32 4294967295 (IntKind.wrap .u64 (IntKind.wrap .i64 (32 - (k.val : Int))))) 24))), (u8of (IntKind.wrap .u8 (ishr .u32 (ishl .u32 4294967295 (IntKind.wrap .u64 (IntKind.wrap .i64 (32 - (k.val : Int))))) 16))), (u8of (IntKind.wrap .u8 (ishr .u32 (ishl .u32 4294967295 (IntKind.wrap .u64 (IntKind.wrap .i64 (32 - (k.val : Int))))) 8))), (u8of (IntKind.wrap .u8 (ishl .u32 4294967295 (IntKind.wrap .u64 (IntKind.wrap .i64 (32 - (k.val : Int)))))))] : Bs) = maskF k.val := by decide +kernel
theorem maskF_length (n : Int) : (maskF n).length = 4 := by unfold maskF; rw [keepF_length]; rfl
theorem fin33 {n : Int} (h : 0 ≤ n) (h' : n ≤ 32) : ∃ k : Fin 33, n = (k.val : Int) := ⟨⟨n.toNat, by omega⟩, by simp; omega⟩
theorem maskOf_is {n : Int} (h : 0 ≤ n) (h' : n ≤ 32) : g_mask_Of (n, ()) = some ((maskF n, true, ()), ()) := by
  obtain ⟨k, rfl⟩ := fin33 h h'
  rw [g_mask_Of_eq, ifn (by omega), ifn (by omega), if_pos (by rw [w64 (by omega) (by omega), wu64 (by omega) (by omega)]; omega), maskF_key k]
end Go.VP
