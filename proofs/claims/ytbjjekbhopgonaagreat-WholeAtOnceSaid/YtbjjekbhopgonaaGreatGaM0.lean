import Derived.Test.YtbjjekbhopgonaaGreatGaFH
import Derived.Test.YtbjjekbhopgonaaGreatGaFQ0
import Derived.Test.YtbjjekbhopgonaaGreatGaFQ2
import Derived.Test.YtbjjekbhopgonaaGreatGaFQ1
import Derived.Test.YtbjjekbhopgonaaGreatGaFQ7
import Derived.Test.YtbjjekbhopgonaaGreatGaFQ3
import Derived.Test.YtbjjekbhopgonaaGreatGaFQ6
import Derived.Test.YtbjjekbhopgonaaGreatGaFQ5
import Derived.Test.YtbjjekbhopgonaaGreatGaFQ15
import Derived.Test.YtbjjekbhopgonaaGreatGaFGood
import Derived.Test.YtbjjekbhopgonaaGreatGaFQ4
set_option linter.unusedVariables false
set_option linter.unusedSimpArgs false
set_option maxRecDepth 100000
namespace Go.VP
open Go Go.VI
abbrev Bs := List UInt8
theorem w64 {x : Int} (h : -9223372036854775808 ≤ x) (h' : x ≤ 9223372036854775807) : IntKind.wrap .i64 x = x := by
  simp only [IntKind.wrap, IntKind.bits, IntKind.signed]
  simp
  omega
theorem wu64 {x : Int} (h : 0 ≤ x) (h' : x ≤ 18446744073709551615) : IntKind.wrap .u64 x = x := by
  simp only [IntKind.wrap, IntKind.bits, IntKind.signed]
  simp
  omega
theorem wu8 {x : Int} : IntKind.wrap .u8 x = x % 256 := by
  simp only [IntKind.wrap, IntKind.bits, IntKind.signed]
  simp
theorem w64n (b : UInt8) : IntKind.wrap .i64 (b.toNat : Int) = b.toNat := by
  have := b.toNat_lt; exact w64 (by omega) (by omega)
theorem has64 {x : Int} : IntKind.has .i64 x ↔ -9223372036854775808 ≤ x ∧ x ≤ 9223372036854775807 := by
  simp only [IntKind.has, IntKind.min, IntKind.max, IntKind.bits, IntKind.signed]
  simp
theorem has8 {x : Int} : IntKind.has .u8 x ↔ 0 ≤ x ∧ x ≤ 255 := by
  simp only [IntKind.has, IntKind.min, IntKind.max, IntKind.bits, IntKind.signed]
  simp
theorem maxB_of {n : Nat} (h : n ≤ 9223372036854775807) : maxB n = true := Nat.ble_eq_true_of_le h
theorem roomB_of {n : Nat} (h : n ≤ 35184372088832) : roomB n = true := Nat.ble_eq_true_of_le h
theorem fuel_pos : ∃ n, fuel = n + 1000000000000 := ⟨1124899906842624, rfl⟩
theorem fuel_ge {n : Nat} (h : n ≤ 1125899906842623) : n < fuel := Nat.lt_succ_of_le h
theorem ib8_xor {a b : Nat} (ha : a < 256) (hb : b < 256) : ibits .xor .u8 (a : Int) (b : Int) = ((a ^^^ b : Nat) : Int) := by
  unfold ibits
  show IntKind.wrap .u8 (((BitVec.ofInt 8 (a : Int) ^^^ BitVec.ofInt 8 (b : Int)).toNat : Nat) : Int) = _
  have h : a ^^^ b < 256 := Nat.xor_lt_two_pow (n := 8) ha hb
  rw [BitVec.toNat_xor, BitVec.ofInt_natCast, BitVec.ofInt_natCast, BitVec.toNat_ofNat, BitVec.toNat_ofNat, Nat.mod_eq_of_lt ha, Nat.mod_eq_of_lt hb, wu8]
  omega
theorem u8of_int (n : Int) : ((u8of n).toNat : Int) = if 0 ≤ n then n % 256 else 0 := by
  unfold u8of
  have : (n.toNat.toUInt8).toNat = n.toNat % 256 := by simp
  rw [this]
  split <;> omega
theorem u8of_nat (b : UInt8) : u8of (b.toNat : Int) = b := by
  unfold u8of; simp
theorem u8of_emod' {n : Int} (h : 0 ≤ n) : u8of (n % 256) = u8of n := by
  apply UInt8.toNat.inj
  have h1 := u8of_int (n % 256); have h2 := u8of_int n
  rw [if_pos (by omega)] at h1; rw [if_pos h] at h2; omega
theorem u8_eq {a b : UInt8} (h : (a.toNat : Int) = b.toNat) : a = b := UInt8.toNat.inj (by omega)
def num (l : Bs) : Int := l.foldl (fun n b => n * 256 + (b.toNat : Int)) 0
theorem foldl_rng : ∀ (l : Bs) (x : Int), 0 ≤ x → 0 ≤ l.foldl (fun n b => n * 256 + (b.toNat : Int)) x ∧ l.foldl (fun n b => n * 256 + (b.toNat : Int)) x < (x + 1) * 256 ^ l.length
  | [], x, h => by simp; omega
  | b :: l, x, h => by
    have hb := b.toNat_lt
    obtain ⟨h1, h2⟩ := foldl_rng l (x * 256 + (b.toNat : Int)) (by omega)
    refine ⟨h1, Int.lt_of_lt_of_le h2 ?_⟩
    rw [List.length_cons, Int.pow_succ, Int.mul_comm (256 ^ l.length) 256, ← Int.mul_assoc]
    exact Int.mul_le_mul_of_nonneg_right (by omega) (Int.pow_nonneg (by decide))
theorem num_rng (l : Bs) : 0 ≤ num l ∧ num l < 256 ^ l.length := by
  have := foldl_rng l 0 (by omega)
  rw [Int.zero_add, Int.one_mul] at this
  exact this
theorem num_append (a : Bs) (b : UInt8) : num (a ++ [b]) = num a * 256 + b.toNat := by simp [num]
def be : Nat → Int → Bs
  | 0, _ => []
  | k + 1, n => be k (n / 256) ++ [u8of (n % 256)]
theorem be_length : ∀ (k : Nat) (n : Int), (be k n).length = k
  | 0, _ => rfl
  | k + 1, n => by simp [be, be_length k]
theorem num_be : ∀ (k : Nat) (n : Int), 0 ≤ n → n < 256 ^ k → num (be k n) = n
  | 0, n, h, h2 => by simp at h2; simp [be, num]; omega
  | k + 1, n, h, h2 => by
    rw [be, num_append, num_be k (n / 256) (by omega) (by rw [Int.pow_succ] at h2; omega), u8of_int]
    omega
theorem be_num : ∀ (k : Nat) (l : Bs), l.length = k → be k (num l) = l
  | 0, l, h => by cases l with | nil => rfl | cons => simp at h
  | k + 1, l, h => by
    obtain ⟨a, b, rfl⟩ : ∃ a b, l = a ++ [b] := ⟨l.dropLast, l.getLast (by intro h2; subst h2; simp at h), (List.dropLast_concat_getLast _).symm⟩
    have ha : a.length = k := by simpa using h
    have hb := b.toNat_lt
    have h1 : (num (a ++ [b])) / 256 = num a := by rw [num_append]; omega
    have h2 : (num (a ++ [b])) % 256 = b.toNat := by rw [num_append]; omega
    rw [be, h1, h2, be_num k a ha, u8of_nat]
def cut_ (s : Bs) (p n : Int) : Bs := (s.take (p + n).toNat).drop p.toNat
theorem cut_length {s : Bs} {p n : Int} (h : 0 ≤ p) (h1 : 0 ≤ n) (h2 : p + n ≤ s.length) : ((cut_ s p n).length : Int) = n := by
  simp [cut_]; omega
def bt (s : Bs) (i : Nat) : Int := ((s[i]?.getD 0).toNat : Int)
theorem bt_rng (s : Bs) (i : Nat) : 0 ≤ bt s i ∧ bt s i < 256 := by unfold bt; have := (s[i]?.getD 0).toNat_lt; omega
theorem get_bt {s : Bs} {i : Nat} (h : i < s.length) : s[i]? = some (s[i]?.getD 0) := by simp [h]
theorem bind_at {α β : Type} {l : List α} {i : Nat} (h : i < l.length) (f : α → Option β) : (l[i]?.bind f) = f (l[i]'h) := by simp [h]
end Go.VP
set_option linter.unusedVariables false
set_option linter.unusedSimpArgs false
set_option maxRecDepth 100000
namespace Go.VP
open Go Go.VI
structure WfC (s : Bs) (p q : Int) : Prop where
  lo : 0 ≤ p
  hi : p ≤ q
  top : q ≤ s.length
  sz : s.length ≤ 1000000000000000
theorem num1 {s : Bs} {p : Nat} (h : p + 1 ≤ s.length) : num (cut_ s p 1) = bt s p := by
  have e : cut_ s p 1 = [s[p]] := by
    unfold cut_
    rw [show ((p : Int) + 1).toNat = p + 1 by omega, Int.toNat_natCast, List.take_succ_eq_append_getElem (by omega), List.drop_append_of_le_length (by simp; omega)]
    simp [List.drop_take]
  rw [e]; simp [num, bt, List.getElem?_eq_getElem (show p < s.length by omega)]
theorem cut_succ {s : Bs} {p n : Nat} (h : p + n + 1 ≤ s.length) : cut_ s p (n + 1 : Nat) = cut_ s p n ++ [s[p + n]'(by omega)] := by
  unfold cut_
  rw [show ((p : Int) + ((n + 1 : Nat) : Int)).toNat = p + n + 1 by omega, show ((p : Int) + (n : Int)).toNat = p + n by omega, Int.toNat_natCast, List.take_succ_eq_append_getElem (by omega), List.drop_append_of_le_length (by simp; omega)]
theorem num_cut_succ {s : Bs} {p n : Nat} (h : p + n + 1 ≤ s.length) : num (cut_ s p (n + 1 : Nat)) = num (cut_ s p n) * 256 + bt s (p + n) := by
  rw [cut_succ h, num_append]
  simp [bt, List.getElem?_eq_getElem (show p + n < s.length by omega)]
theorem num2 {s : Bs} {p : Nat} (h : p + 2 ≤ s.length) : num (cut_ s p 2) = bt s p * 256 + bt s (p + 1) := by
  have := num_cut_succ (s := s) (p := p) (n := 1) (by omega)
  rw [show ((1 : Nat) : Int) = 1 from rfl, num1 (by omega)] at this
  exact this
end Go.VP
set_option linter.unusedVariables false
set_option linter.unusedSimpArgs false
set_option maxRecDepth 100000
namespace Go.VP
open Go Go.VI
theorem ifd {α : Sort _} {p : Prop} [d : Decidable p] {a b : α} (h : p) : (if decide p = true then a else b) = a := if_pos (decide_eq_true h)
theorem ifn {α : Sort _} {p : Prop} [d : Decidable p] {a b : α} (h : ¬ p) : (if decide p = true then a else b) = b := if_neg (by simpa using h)
theorem ift {α : Sort _} {a b : α} : (if true = true then a else b) = a := rfl
theorem iff_ {α : Sort _} {a b : α} : (if false = true then a else b) = b := rfl
theorem ifnt {α : Sort _} {a b : α} : (if (!true) = true then a else b) = b := rfl
theorem ifnf {α : Sort _} {a b : α} : (if (!false) = true then a else b) = a := rfl
def fitsB (n : Int) (k : Nat) : Bool := decide (0 ≤ n ∧ n < 256 ^ k)
theorem pow8 (k : Nat) : (2 : Int) ^ (8 * k) = 256 ^ k := by rw [Int.pow_mul]; rfl
theorem fits_is {n : Int} {k : Nat} (hn : IntKind.has .i64 n) (h1 : 1 ≤ k) (h7 : k ≤ 7) : g_octet_Fits (n, (k : Int), ()) = some ((fitsB n k, ()), ()) := by
  rw [has64] at hn
  rw [g_octet_Fits_eq, ifd (by omega), ifd (by omega)]
  by_cases h0 : 0 ≤ n
  · rw [ifd h0, w64 (x := 8 * (k : Int)) (by omega) (by omega), wu64 (by omega) (by omega), if_pos (by omega)]
    have e : ishr .i64 n (8 * (k : Int)) = n / 256 ^ k := by
      unfold ishr
      rw [show min (8 * (k : Int)).toNat IntKind.i64.bits = 8 * k by simp only [IntKind.bits]; omega, pow8]
      exact Int.fdiv_eq_ediv_of_nonneg _ (Int.pow_nonneg (by decide))
    have hp : (0 : Int) < 256 ^ k := Int.pow_pos (by decide)
    rw [e]
    unfold fitsB
    by_cases hlt : n < 256 ^ k
    · rw [Int.ediv_eq_zero_of_lt h0 hlt]; simp [h0, hlt]
    · have : 1 ≤ n / 256 ^ k := Int.le_ediv_of_mul_le hp (by omega)
      have h2 : (n / 256 ^ k == 0) = false := by simp; omega
      rw [h2]; simp [hlt]
  · rw [ifn h0]; simp [fitsB, h0]
def oput (n : Int) (k : Nat) : Bs × Bool := if fitsB n k = true then (be k n, true) else ([], false)
end Go.VP
set_option linter.unusedVariables false
set_option linter.unusedSimpArgs false
set_option maxRecDepth 100000
namespace Go.VP
open Go Go.VI
abbrev Tlv := S_api_Tlv
abbrev Sub := S_api_Sub
def tput (t : Int) (d : Bs) : Bs × Bool := if 1 ≤ t ∧ t ≤ 255 ∧ d.length ≤ 255 then (u8of t :: u8of d.length :: d, true) else ([], false)
theorem u8of_emod (n : Int) (h : 0 ≤ n) : u8of (n % 256) = u8of n := by
  apply u8_eq; rw [u8of_int, u8of_int, if_pos (by omega), if_pos h]; omega
theorem tput_is (t : Int) (d : Bs) : g_frame_Put (t, d, ()) = some (((tput t d).1, (tput t d).2, ()), ()) := by
  rw [g_frame_Put_eq]
  unfold tput
  by_cases h1 : t < 1
  · rw [if_pos (by simpa using h1), if_neg (by omega)]
  · rw [if_neg (by simpa using h1)]
    by_cases h2 : 255 < t
    · rw [if_pos (by simpa using h2), if_neg (by omega)]
    · rw [if_neg (by simpa using h2)]
      by_cases h3 : (255 : Int) < d.length
      · rw [if_pos (by simpa using h3), if_neg (by omega)]
      · have hh : 1 ≤ t ∧ t ≤ 255 ∧ d.length ≤ 255 := by omega
        rw [if_neg (by simpa using h3), if_pos hh, wu8, wu8, u8of_emod _ (by omega), u8of_emod _ (by omega), if_pos (maxB_of (by simp; omega))]
        rfl
def spl (p : Int) (s : Bs) : Except Int (List Tlv) :=
  match s with
  | [] => .ok []
  | t :: r =>
    if t = 0 then (spl (p + 1) r).map (⟨0, p, []⟩ :: ·)
    else match r with
      | [] => .error p
      | n :: d => if d.length < n.toNat then .error p else (spl (p + 2 + n.toNat) (d.drop n.toNat)).map (⟨t.toNat, p, d.take n.toNat⟩ :: ·)
termination_by s.length
decreasing_by all_goals (simp_wf; try omega)
abbrev trip {α β γ : Type} (x : α × β × γ) : α × β × γ × Unit := (x.1, x.2.1, x.2.2, ())
theorem spl_nil (p : Int) : spl p [] = .ok [] := by rw [spl.eq_def]
theorem spl_zero {p : Int} {r : Bs} : spl p (0 :: r) = (spl (p + 1) r).map (⟨0, p, []⟩ :: ·) := by rw [spl.eq_def]; rfl
theorem spl_one {p : Int} {t : UInt8} (h : t ≠ 0) : spl p [t] = .error p := by rw [spl.eq_def]; simp [h]
theorem spl_bad {p : Int} {t n : UInt8} {d : Bs} (h : t ≠ 0) (h2 : d.length < n.toNat) : spl p (t :: n :: d) = .error p := by rw [spl.eq_def]; simp [h, h2]
theorem spl_all {p : Int} {t n : UInt8} {d : Bs} (h : t ≠ 0) (h2 : n.toNat ≤ d.length) : spl p (t :: n :: d) = (spl (p + 2 + n.toNat) (d.drop n.toNat)).map (⟨t.toNat, p, d.take n.toNat⟩ :: ·) := by
  rw [spl.eq_def]; simp only [h, if_false]; rw [if_neg (by omega)]
end Go.VP
set_option linter.unusedVariables false
set_option linter.unusedSimpArgs false
set_option maxRecDepth 100000
namespace Go.VP
open Go Go.VI
def sumN : List Sub → Int
  | [] => 0
  | y :: l => 2 + (y.data.length : Int) + sumN l
def FewS (l : List Sub) : Prop := l.length ≤ 1000000000 ∧ ∀ y ∈ l, y.data.length ≤ 300
theorem FewS.tail {y : Sub} {l : List Sub} (h : FewS (y :: l)) : FewS l := ⟨by have := h.1; simp at this; omega, fun z hz => h.2 z (List.mem_cons_of_mem _ hz)⟩
theorem FewS.drop {l : List Sub} (h : FewS l) (i : Nat) : FewS (l.drop i) := ⟨by have := h.1; simp; omega, fun y hy => h.2 y (List.mem_of_mem_drop hy)⟩
theorem sumN_rng : ∀ {l : List Sub}, FewS l → 0 ≤ sumN l ∧ sumN l ≤ 302 * l.length
  | [], _ => by simp [sumN]
  | y :: l, h => by
    have := sumN_rng h.tail
    have hy := h.2 y (List.mem_cons_self ..)
    simp only [sumN, List.length_cons]
    omega
theorem bytes_loop {l : List Sub} {n : Nat} (hl : FewS l) : ∀ (d m i : Nat) (acc : Int), i + d = l.length → d < m → 0 ≤ acc → acc ≤ 302 * i →
    L_msg_Bytes_0 n m l acc i = some ((acc + sumN (l.drop i), ()), ()) := by
  have h1 := hl.1
  intro d
  induction d with
  | zero =>
    intro m i acc hd hm h2 h3
    obtain ⟨m, rfl⟩ : ∃ k, m = k + 1 := ⟨m - 1, by omega⟩
    rw [L_msg_Bytes_0_eq, ifn (by omega), List.drop_eq_nil_of_le (by omega)]
    simp [sumN]
  | succ d ih =>
    intro m i acc hd hm h2 h3
    obtain ⟨m, rfl⟩ : ∃ k, m = k + 1 := ⟨m - 1, by omega⟩
    have hlt : i < l.length := by omega
    have hy := hl.2 l[i] (List.getElem_mem hlt)
    rw [L_msg_Bytes_0_eq, ifd (by omega), if_pos (by omega), Int.toNat_natCast, bind_at hlt, w64 (x := 2 + (l[i].data.length : Int)) (by omega) (by omega), w64 (x := acc + (2 + (l[i].data.length : Int))) (by omega) (by omega), w64 (x := (i : Int) + 1) (by omega) (by omega)]
    have := ih m (i + 1) (acc + (2 + (l[i].data.length : Int))) (by omega) (by omega) (by omega) (by omega)
    rw [show ((i + 1 : Nat) : Int) = (i : Int) + 1 by omega] at this
    rw [this, List.drop_eq_getElem_cons hlt, sumN, Int.add_assoc]
theorem bytes_is {l : List Sub} (hl : FewS l) : g_msg_Bytes (l, ()) = some ((sumN l, ()), ()) := by
  show h_msg_Bytes fuel _ = _
  have := hl.1
  rw [h_msg_Bytes_eq]
  have := bytes_loop (n := fuel) hl l.length fuel 0 0 (by omega) (fuel_ge (by omega)) (by omega) (by omega)
  simpa using this
def subB (lo hi : Int) (y : Sub) : Bool := decide (lo ≤ y.type_ ∧ y.type_ ≤ hi ∧ y.data.length ≤ 255)
theorem subs_loop {l : List Sub} {n : Nat} (h1 : l.length ≤ 1000000000) (lo hi : Int) : ∀ (d m i : Nat), i + d = l.length → d < m →
    L_msg_Subs_0 n m lo hi l i = some (((l.drop i).all (subB lo hi), ()), ()) := by
  intro d
  induction d with
  | zero =>
    intro m i hd hm
    obtain ⟨m, rfl⟩ : ∃ k, m = k + 1 := ⟨m - 1, by omega⟩
    rw [L_msg_Subs_0_eq, ifn (by omega), List.drop_eq_nil_of_le (by omega)]
    rfl
  | succ d ih =>
    intro m i hd hm
    obtain ⟨m, rfl⟩ : ∃ k, m = k + 1 := ⟨m - 1, by omega⟩
    have hlt : i < l.length := by omega
    have := ih m (i + 1) (by omega) (by omega)
    rw [show ((i + 1 : Nat) : Int) = (i : Int) + 1 by omega] at this
    rw [L_msg_Subs_0_eq, ifd (by omega), if_pos (by omega), Int.toNat_natCast, bind_at hlt, w64 (x := (i : Int) + 1) (by omega) (by omega), this, List.drop_eq_getElem_cons hlt, List.all_cons]
    by_cases a : l[i].type_ < lo
    · rw [ifd a, show subB lo hi l[i] = false by simp [subB]; omega]; rfl
    · rw [ifn a]
      by_cases b : hi < l[i].type_
      · rw [ifd b, show subB lo hi l[i] = false by simp [subB]; omega]; rfl
      · rw [ifn b]
        by_cases c : (255 : Int) < l[i].data.length
        · rw [ifd c, show subB lo hi l[i] = false by simp [subB]; omega]; rfl
        · rw [ifn c, show subB lo hi l[i] = true by simp [subB]; omega, Bool.true_and]
theorem subs_is {l : List Sub} (h1 : l.length ≤ 1000000000) (lo hi : Int) : g_msg_Subs (l, lo, hi, ()) = some ((l.all (subB lo hi), ()), ()) := by
  show h_msg_Subs fuel _ = _
  rw [h_msg_Subs_eq]
  exact subs_loop (n := fuel) h1 lo hi l.length fuel 0 (by omega) (fuel_ge (by omega))
def rightB (l : List Sub) : Bool := l.all (subB 2 127) && decide (sumN l ≤ 200)
theorem sright_is {l : List Sub} (hl : FewS l) : g_sub_Right (l, ()) = some ((rightB l, ()), ()) := by
  rw [g_sub_Right_eq, subs_is hl.1, Option.bind_some, bytes_is hl]
  unfold rightB
  dsimp only
  cases l.all (subB 2 127) <;> rfl
def encS : List Sub → Bs
  | [] => []
  | y :: l => u8of y.type_ :: u8of y.data.length :: (y.data ++ encS l)
def AllR (l : List Sub) : Prop := ∀ y ∈ l, 2 ≤ y.type_ ∧ y.type_ ≤ 127 ∧ y.data.length ≤ 255
theorem allR_iff {l : List Sub} : l.all (subB 2 127) = true ↔ AllR l := by simp [subB, AllR]
theorem tput_r {y : Sub} (h : 2 ≤ y.type_ ∧ y.type_ ≤ 127 ∧ y.data.length ≤ 255) : tput y.type_ y.data = (u8of y.type_ :: u8of y.data.length :: y.data, true) := by
  unfold tput; rw [if_pos (by omega)]
theorem encS_length : ∀ (l : List Sub), ((encS l).length : Int) = sumN l
  | [] => rfl
  | y :: l => by have := encS_length l; simp [encS, sumN]; omega
theorem sput_loop {l : List Sub} {n : Nat} (hr : AllR l) (h1 : l.length ≤ 1000000) : ∀ (d m i : Nat) (acc : Bs), i + d = l.length → d < m → acc.length ≤ 257 * i →
    L_sub_Put_0 n m l acc i = some ((acc ++ encS (l.drop i), true, ()), ()) := by
  intro d
  induction d with
  | zero =>
    intro m i acc hd hm ha
    obtain ⟨m, rfl⟩ : ∃ k, m = k + 1 := ⟨m - 1, by omega⟩
    rw [L_sub_Put_0_eq, ifn (by omega), List.drop_eq_nil_of_le (by omega), encS, List.append_nil]
  | succ d ih =>
    intro m i acc hd hm ha
    obtain ⟨m, rfl⟩ : ∃ k, m = k + 1 := ⟨m - 1, by omega⟩
    have hlt : i < l.length := by omega
    have hy := hr l[i] (List.getElem_mem hlt)
    have := ih m (i + 1) (acc ++ (u8of l[i].type_ :: u8of l[i].data.length :: l[i].data)) (by omega) (by omega) (by simp; omega)
    rw [show ((i + 1 : Nat) : Int) = (i : Int) + 1 by omega] at this
    rw [L_sub_Put_0_eq, ifd (by omega), if_pos (by omega), Int.toNat_natCast, bind_at hlt, tput_is, tput_r hy, Option.bind_some]
    dsimp only
    rw [if_pos (roomB_of (by simp; omega)), w64 (by omega) (by omega), this, List.drop_eq_getElem_cons hlt, encS]
    simp
def putS (l : List Sub) : Bs × Bool := if rightB l = true then (encS l, true) else ([], false)
theorem rightB_split {l : List Sub} (h : rightB l = true) : AllR l ∧ sumN l ≤ 200 := by
  simp only [rightB, Bool.and_eq_true, allR_iff, decide_eq_true_eq] at h; exact h
theorem sput_is {l : List Sub} (hl : FewS l) (h1 : l.length ≤ 1000000) : g_sub_Put (l, ()) = some (((putS l).1, (putS l).2, ()), ()) := by
  show h_sub_Put fuel _ = _
  rw [h_sub_Put_eq, sright_is hl, Option.bind_some]
  unfold putS
  dsimp only
  by_cases h : rightB l = true
  · have := sput_loop (n := fuel) (rightB_split h).1 h1 l.length fuel 0 [] (by omega) (fuel_ge (by omega)) (by simp)
    rw [show ((0 : Nat) : Int) = 0 from rfl] at this
    rw [h, ifnt, this, ift]
    simp
  · rw [Bool.not_eq_true] at h
    rw [h, ifnf, iff_]
def keep : List Tlv → List Sub
  | [] => []
  | t :: l => if 2 ≤ t.type_ ∧ t.type_ ≤ 127 then ⟨t.type_, t.data⟩ :: keep l else keep l
def free (l : List Tlv) : Bool := l.all fun t => decide (t.type_ ≤ 127)
theorem free_cons (t : Tlv) (l : List Tlv) : free (t :: l) = (decide (t.type_ ≤ 127) && free l) := rfl
theorem keep_length : ∀ (l : List Tlv), (keep l).length ≤ l.length
  | [] => Nat.le_refl _
  | t :: l => by have := keep_length l; simp only [keep]; split <;> simp <;> omega
def endS (acc : List Sub) (b : Bool) : List Sub × Bool × Int := if 200 < sumN acc then ([], false, 10) else (acc, b, 0)
def ShortT (l : List Tlv) : Prop := ∀ t ∈ l, t.data.length ≤ 255
theorem FewS.app {a b : List Sub} (h : ∀ y ∈ a, y.data.length ≤ 300) (h2 : ∀ y ∈ b, y.data.length ≤ 300) (h3 : a.length + b.length ≤ 1000000000) : FewS (a ++ b) :=
  ⟨by simpa using h3, fun y hy => (List.mem_append.1 hy).elim (h y) (h2 y)⟩
def getS (s : Bs) : List Sub × Bool × Int :=
  match spl 0 s with
  | .ok l => endS (keep l) (free l)
  | .error _ => ([], false, 2)
theorem spl_ok (s : Bs) : ∀ (p : Int) (l : List Tlv), spl p s = .ok l → ShortT l ∧ l.length ≤ s.length := by
  match s with
  | [] => intro p l h; rw [spl_nil] at h; injection h with h; subst h; exact ⟨fun t h => by simp at h, Nat.le_refl _⟩
  | t :: r =>
    intro p l h
    have go : ∀ (q : Int) (x : Tlv) (r' : Bs), r'.length < (t :: r).length → x.data.length ≤ 255 → (spl q r').map (x :: ·) = .ok l → ShortT l ∧ l.length ≤ (t :: r).length := by
      intro q x r' hr hx h
      cases hm : spl q r' with
      | error e => rw [hm] at h; cases h
      | ok l' =>
        rw [hm] at h
        injection h with h
        subst h
        obtain ⟨a, b⟩ := spl_ok r' q l' hm
        exact ⟨fun y hy => (List.mem_cons.1 hy).elim (fun h => by subst h; exact hx) (a y), by simp only [List.length_cons] at *; omega⟩
    by_cases ht : t = 0
    · subst ht
      rw [spl_zero] at h
      exact go _ _ _ (by simp) (by simp) h
    · match r with
      | [] => rw [spl_one ht] at h; cases h
      | n :: d =>
        by_cases hn : d.length < n.toNat
        · rw [spl_bad ht hn] at h; cases h
        · rw [spl_all ht (by omega)] at h
          have := n.toNat_lt
          exact go _ _ _ (by simp; omega) (by simp; omega) h
termination_by s.length
end Go.VP
set_option linter.unusedVariables false
set_option linter.unusedSimpArgs false
set_option maxRecDepth 100000
namespace Go.VP
open Go Go.VI
abbrev Msg := S_api_Msg
abbrev Dest := S_api_Dest
theorem ne_step {α R : Type} [BEq α] [LawfulBEq α] {x y : α} {f t r : R} (hne : x ≠ y → f = r) (heq : x = y → t = r) : (if (x != y) = true then f else t) = r := by
  by_cases h : x = y
  · rw [if_neg (by simp [h])]; exact heq h
  · rw [if_pos (by simp [h])]; exact hne h
theorem nq_step {α R : Type} [BEq α] [LawfulBEq α] {x y : α} {f t r : R} (hne : x ≠ y → f = r) (heq : x = y → t = r) : (if (!(x == y)) = true then f else t) = r := ne_step hne heq
open Classical in
noncomputable def eqB {α : Type} (a b : α) : Bool := decide (a = b)
theorem eqB_true {α : Type} {a b : α} : eqB a b = true ↔ a = b := by simp [eqB]
theorem eqB_refl {α : Type} (a : α) : eqB a a = true := eqB_true.2 rfl
structure Few (m : Msg) : Prop where
  list : m.list.length ≤ 300
  subs : m.subs.length ≤ 60
  ap : m.auth.length + m.prefix_.length ≤ 200
  ni : m.next.length + m.id.length ≤ 200
  ao : m.addr.length + m.orig.length ≤ 200
  data : m.data.length ≤ 300
  ds : ∀ d ∈ m.list, d.addr.length ≤ 50
  ss : ∀ s ∈ m.subs, s.data.length ≤ 300
structure Lite (m : Msg) : Prop where
  list : m.list.length ≤ 1000
  subs : m.subs.length ≤ 1000
  auth : m.auth.length ≤ 400
  pre : m.prefix_.length ≤ 400
  next : m.next.length ≤ 400
  id : m.id.length ≤ 400
  addr : m.addr.length ≤ 400
  orig : m.orig.length ≤ 400
  data : m.data.length ≤ 400
  ds : ∀ d ∈ m.list, d.addr.length ≤ 50
  ss : ∀ s ∈ m.subs, s.data.length ≤ 300
theorem Few.lite {m : Msg} (h : Few m) : Lite m := by
  have := h.list; have := h.subs; have := h.ap; have := h.ni; have := h.ao; have := h.data
  exact ⟨by omega, by omega, by omega, by omega, by omega, by omega, by omega, by omega, by omega, h.ds, h.ss⟩
theorem Lite.fewS {m : Msg} (h : Lite m) : FewS m.subs := ⟨by have := h.subs; omega, h.ss⟩
def GoodMsg (m : Msg) : Prop := m.auth.length ≤ 140737488351232 ∧ m.prefix_.length ≤ 140737488351232 ∧ m.next.length ≤ 140737488351232 ∧ m.id.length ≤ 140737488351232 ∧ m.addr.length ≤ 140737488351232 ∧ m.orig.length ≤ 140737488351232
theorem few1_loop {m0 : Msg} {n : Nat} (h1 : m0.subs.length ≤ 60) : ∀ (d m i : Nat), i + d = m0.subs.length → d < m → L_ref07_Few_1 n m m0 i = some (((m0.subs.drop i).all fun s => decide (s.data.length ≤ 300), ()), ()) := by
  intro d
  induction d with
  | zero =>
    intro m i hd hm
    obtain ⟨m, rfl⟩ : ∃ k, m = k + 1 := ⟨m - 1, by omega⟩
    rw [L_ref07_Few_1_eq, ifn (by omega), List.drop_eq_nil_of_le (by omega)]; rfl
  | succ d ih =>
    intro m i hd hm
    obtain ⟨m, rfl⟩ : ∃ k, m = k + 1 := ⟨m - 1, by omega⟩
    have ha : i < m0.subs.length := by omega
    have := ih m (i + 1) (by omega) (by omega)
    rw [show ((i + 1 : Nat) : Int) = (i : Int) + 1 by omega] at this
    rw [L_ref07_Few_1_eq, ifd (by omega), if_pos (by omega), Int.toNat_natCast, bind_at ha, w64 (by omega) (by omega), this, List.drop_eq_getElem_cons ha, List.all_cons]
    by_cases h : 300 < (m0.subs[i].data.length : Int)
    · rw [ifd h, decide_eq_false (by omega)]; rfl
    · rw [ifn h, decide_eq_true (by omega), Bool.true_and]
theorem few0_loop {m0 : Msg} {n : Nat} (h0 : m0.list.length ≤ 300) (h1 : m0.subs.length ≤ 60) (hn : 1000 ≤ n) : ∀ (d m i : Nat), i + d = m0.list.length → d < m → L_ref07_Few_0 n m m0 i = some (((m0.list.drop i).all (fun s => decide (s.addr.length ≤ 50)) && m0.subs.all fun s => decide (s.data.length ≤ 300), ()), ()) := by
  intro d
  induction d with
  | zero =>
    intro m i hd hm
    obtain ⟨m, rfl⟩ : ∃ k, m = k + 1 := ⟨m - 1, by omega⟩
    have := few1_loop (n := n) h1 m0.subs.length n 0 (by omega) (by omega)
    rw [show ((0 : Nat) : Int) = 0 from rfl, List.drop_zero] at this
    rw [L_ref07_Few_0_eq, ifn (by omega), List.drop_eq_nil_of_le (by omega), this]; rfl
  | succ d ih =>
    intro m i hd hm
    obtain ⟨m, rfl⟩ : ∃ k, m = k + 1 := ⟨m - 1, by omega⟩
    have ha : i < m0.list.length := by omega
    have := ih m (i + 1) (by omega) (by omega)
    rw [show ((i + 1 : Nat) : Int) = (i : Int) + 1 by omega] at this
    rw [L_ref07_Few_0_eq, ifd (by omega), if_pos (by omega), Int.toNat_natCast, bind_at ha, w64 (by omega) (by omega), this, List.drop_eq_getElem_cons ha, List.all_cons]
    by_cases h : 50 < (m0.list[i].addr.length : Int)
    · rw [ifd h, decide_eq_false (by omega)]; rfl
    · rw [ifn h, decide_eq_true (by omega), Bool.true_and]
theorem few_is {m : Msg} (g : GoodMsg m) : ∃ b, g_ref07_Few (m, ()) = some ((b, ()), ()) ∧ (b = true → Few m) := by
  obtain ⟨g1, g2, g3, g4, g5, g6⟩ := g
  show ∃ b, h_ref07_Few fuel _ = _ ∧ _
  rw [h_ref07_Few_eq, w64 (by omega) (by omega), w64 (by omega) (by omega), w64 (by omega) (by omega)]
  by_cases c1 : (300 : Int) < m.list.length
  · rw [ifd c1]; exact ⟨_, rfl, by simp⟩
  by_cases c2 : (60 : Int) < m.subs.length
  · rw [ifn c1, ifd c2]; exact ⟨_, rfl, by simp⟩
  by_cases c3 : (200 : Int) < m.auth.length + m.prefix_.length
  · rw [ifn c1, ifn c2, ifd c3]; exact ⟨_, rfl, by simp⟩
  by_cases c4 : (200 : Int) < m.next.length + m.id.length
  · rw [ifn c1, ifn c2, ifn c3, ifd c4]; exact ⟨_, rfl, by simp⟩
  by_cases c5 : (200 : Int) < m.addr.length + m.orig.length
  · rw [ifn c1, ifn c2, ifn c3, ifn c4, ifd c5]; exact ⟨_, rfl, by simp⟩
  by_cases c6 : (300 : Int) < m.data.length
  · rw [ifn c1, ifn c2, ifn c3, ifn c4, ifn c5, ifd c6]; exact ⟨_, rfl, by simp⟩
  have := few0_loop (m0 := m) (n := fuel) (by omega) (by omega) (Nat.le_of_lt (fuel_ge (by omega))) m.list.length fuel 0 (by omega) (fuel_ge (by omega))
  rw [show ((0 : Nat) : Int) = 0 from rfl, List.drop_zero] at this
  rw [ifn c1, ifn c2, ifn c3, ifn c4, ifn c5, ifn c6, this]
  refine ⟨_, rfl, fun h => ?_⟩
  simp only [Bool.and_eq_true, List.all_eq_true, decide_eq_true_eq] at h
  exact ⟨by omega, by omega, by omega, by omega, by omega, by omega, h.1, h.2⟩
def bareOf (m : Msg) : Option Msg :=
  if m.kind = 1 then some ⟨m.kind, m.cmd, m.ver, m.auth, m.family, 0, m.prefix_, m.plen, m.tag, m.next, m.metric, [], 0, 0, 0, 0, 0, 0, 0, [], [], [], 0, [], []⟩
  else if m.kind = 2 then some ⟨m.kind, m.cmd, 0, [], 0, 0, m.prefix_, m.plen, m.tag, m.next, m.metric, [], 0, 0, 0, 0, 0, 0, 0, [], [], [], 0, [], []⟩
  else if m.kind = 3 then some ⟨m.kind, 0, 0, [], 0, 0, [], 0, 0, [], 0, [], m.seq, m.seq2, 0, m.flags, m.hops, m.nonce, 0, m.addr, m.orig, [], 0, [], m.subs⟩
  else if m.kind = 4 then some ⟨m.kind, 0, 0, [], 0, 0, [], m.plen, 0, [], 0, [], m.seq, 0, m.interval, m.flags, m.hops, 0, 0, m.addr, m.orig, [], 0, [], m.subs⟩
  else if m.kind = 5 then some ⟨m.kind, 0, 0, [], 0, 0, [], 0, 0, [], 0, [], 0, 0, 0, m.flags, 0, 0, 0, [], [], m.list, 0, [], m.subs⟩
  else if m.kind = 6 then some ⟨m.kind, 0, 0, [], 0, 0, [], 0, 0, [], 0, [], 0, 0, 0, 0, 0, 0, 0, [], [], [], 0, [], m.subs⟩
  else if m.kind = 7 then some ⟨m.kind, 0, 0, [], 0, 0, [], 0, 0, [], 0, [], 0, 0, m.interval, 0, 0, m.nonce, 0, [], [], [], 0, [], m.subs⟩
  else if m.kind = 8 then some ⟨m.kind, 0, 0, [], 0, 0, [], 0, 0, [], 0, [], 0, 0, 0, 0, 0, m.nonce, 0, [], [], [], 0, [], m.subs⟩
  else if m.kind = 9 then some ⟨m.kind, 0, 0, [], 0, 0, [], 0, 0, [], 0, [], m.seq, 0, m.interval, m.flags, 0, 0, 0, [], [], [], 0, [], m.subs⟩
  else if m.kind = 10 then some ⟨m.kind, 0, 0, [], 0, m.ae, [], 0, 0, [], 0, [], 0, 0, m.interval, 0, 0, 0, m.cost, m.addr, [], [], 0, [], m.subs⟩
  else if m.kind = 11 then some ⟨m.kind, 0, 0, [], 0, m.ae, m.prefix_, m.plen, 0, m.next, m.metric, m.id, m.seq, 0, m.interval, 0, 0, 0, 0, [], [], [], 0, [], m.subs⟩
  else if m.kind = 12 then some ⟨m.kind, 0, 0, [], 0, m.ae, m.prefix_, m.plen, 0, [], 0, [], 0, 0, 0, 0, 0, 0, 0, [], [], [], 0, [], m.subs⟩
  else if m.kind = 13 then some ⟨m.kind, 0, 0, [], 0, m.ae, m.prefix_, m.plen, 0, [], 0, m.id, m.seq, 0, 0, 0, m.hops, 0, 0, [], [], [], 0, [], m.subs⟩
  else if m.kind = 14 then some ⟨m.kind, 0, 0, [], 0, 0, [], 0, 0, [], 0, [], 0, 0, 0, 0, 0, 0, 0, [], [], [], m.type_, m.data, []⟩
  else none
noncomputable def bareB (m : Msg) : Bool := match bareOf m with | some x => eqB x m | none => false
theorem bq_step {R : Type} {x y : Int} {f t r : R} (heq : x = y → t = r) (hne : x ≠ y → f = r) : (if (x == y) = true then t else f) = r := by
  by_cases h : x = y
  · rw [if_pos (by simp [h])]; exact heq h
  · rw [if_neg (by simp [h])]; exact hne h
theorem band3 {A B C S : Bool} (h : S = (A && B && C)) : (if A = true then (if B = true then (some ((C, ()), ()) : Option ((Bool × Unit) × Unit)) else some ((false, ()), ())) else some ((false, ()), ())) = some ((S, ()), ()) := by
  subst h; cases A <;> cases B <;> rfl
theorem band2 {A B S : Bool} (h : S = (A && B)) : (if A = true then (if B = true then (some ((true, ()), ()) : Option ((Bool × Unit) × Unit)) else some ((false, ()), ())) else some ((false, ()), ())) = some ((S, ()), ()) := by
  subst h; cases A <;> cases B <;> rfl
theorem band1 {A S : Bool} (h : S = A) : (if A = true then (some ((true, ()), ()) : Option ((Bool × Unit) × Unit)) else some ((false, ()), ())) = some ((S, ()), ()) := by
  subst h; cases S <;> rfl
theorem eqB_true' {α : Type} {a b : α} : eqB a b = true ↔ b = a := by rw [eqB_true]; exact eq_comm
theorem len_nil {α : Type} (l : List α) : ((l.length : Int) = 0) ↔ l = [] := by cases l <;> simp; omega
theorem bare_is {m : Msg} : g_msg_Bare (m, ()) = some ((bareB m, ()), ()) := by
  obtain ⟨kind, cmd, ver, auth, family, ae, pre, plen, tag, next, metric, id, seq, seq2, interval, flags, hops, nonce, cost, addr, orig, list, typ, data, subs⟩ := m
  rw [g_msg_Bare_eq, g_msg_strip_eq, Option.bind_some]
  dsimp only
  repeat' first | (exfalso; omega) | refine bq_step (fun h => ?_) (fun h => ?_)
  all_goals first | refine band3 ?_ | refine band2 ?_ | refine band1 ?_ | skip
  all_goals (try (subst kind))
  all_goals rw [bareB, bareOf]
  all_goals (try simp only [*, if_true, if_false])
  all_goals first | rfl | skip
  all_goals rw [Bool.eq_iff_iff]
  all_goals simp only [eqB_true', S_api_Msg.mk.injEq, Bool.and_eq_true, beq_iff_eq, len_nil]
  all_goals (simp only [true_and, and_true, and_self]; first | done | (constructor <;> (intro h; simp only [h, and_self])))
end Go.VP
set_option linter.unusedVariables false
set_option linter.unusedSimpArgs false
set_option maxRecDepth 100000
namespace Go.VP
open Go Go.VI
def Small (m : Msg) : Prop := m.list.length ≤ 1000000000 ∧ m.subs.length ≤ 1000000000
theorem goodMsgA {m : Msg} (g : Good_api_Msg m) : GoodMsg m := by
  obtain ⟨g1, g2, g3, g4, g5, g6, g7, g8, g9, g10, g11, g12, g13, g14, g15, g16, g17, g18, g19, g20, g21, _⟩ := g
  exact ⟨g4, g7, g10, g12, g20, g21⟩
theorem fewA_loop {a : List Msg} {n : Nat} (g : ∀ m ∈ a, GoodMsg m) (hl : a.length ≤ 1000) : ∀ (d m i : Nat), i + d = a.length → d < m → ∃ b, L_ref07_FewAll_0 n m a i = some ((b, ()), ()) ∧ (b = true → ∀ m ∈ a.drop i, Few m) := by
  intro d
  induction d with
  | zero =>
    intro m i hd hm
    obtain ⟨m, rfl⟩ : ∃ k, m = k + 1 := ⟨m - 1, by omega⟩
    rw [L_ref07_FewAll_0_eq, ifn (by omega)]
    exact ⟨true, rfl, fun _ m hm => by rw [List.drop_eq_nil_of_le (by omega)] at hm; cases hm⟩
  | succ d ih =>
    intro m i hd hm
    obtain ⟨m, rfl⟩ : ∃ k, m = k + 1 := ⟨m - 1, by omega⟩
    have hi : i < a.length := by omega
    obtain ⟨b, h1, h2⟩ := ih m (i + 1) (by omega) (by omega)
    rw [show ((i + 1 : Nat) : Int) = (i : Int) + 1 by omega] at h1
    obtain ⟨c, k1, k2⟩ := few_is (g _ (List.getElem_mem hi))
    rw [L_ref07_FewAll_0_eq, ifd (by omega), if_pos (by omega), Int.toNat_natCast, bind_at hi, k1, Option.bind_some, w64 (by omega) (by omega), h1]
    cases c with
    | false => exact ⟨false, rfl, fun h => by cases h⟩
    | true =>
      refine ⟨b, rfl, fun h m hm => ?_⟩
      rw [List.drop_eq_getElem_cons hi] at hm
      rcases List.mem_cons.1 hm with rfl | hm
      · exact k2 rfl
      · exact h2 h m hm
theorem fewA_is {a : List Msg} {k : Int} (hk : k ≤ 1000) (g : ∀ m ∈ a, GoodMsg m) : ∃ b, g_ref07_FewAll (a, k, ()) = some ((b, ()), ()) ∧ (b = true → a.length ≤ k ∧ ∀ m ∈ a, Few m) := by
  show ∃ b, h_ref07_FewAll fuel (a, k, ()) = _ ∧ _
  rw [h_ref07_FewAll_eq]
  by_cases h : k < (a.length : Int)
  · rw [ifd h]; exact ⟨false, rfl, fun h => by cases h⟩
  · rw [ifn h]
    obtain ⟨b, h1, h2⟩ := fewA_loop (n := fuel) g (by omega) a.length fuel 0 (by omega) (fuel_ge (by omega))
    exact ⟨b, h1, fun hb => ⟨by omega, fun m hm => h2 hb m (by simpa using hm)⟩⟩
end Go.VP
set_option linter.unusedVariables false
set_option linter.unusedSimpArgs false
set_option maxRecDepth 100000
namespace Go.VP
open Go Go.VI
def linkP : Bs := [254, 128, 0, 0, 0, 0, 0, 0]
def linkB (a : Bs) : Bool := decide (a.length = 16) && (a.take 8 == linkP)
theorem hasP_is (a p : Bs) : g_strings_HasPrefix (a, p, ()) = some ((decide (p.length ≤ a.length) && (a.take p.length == p), ()), ()) := by
  rw [g_strings_HasPrefix_eq, g_internal_stringslite_HasPrefix_eq]
  by_cases h : p.length ≤ a.length
  · rw [ifd (by omega), if_pos (by omega), Option.bind_some, Int.toNat_natCast, decide_eq_true h]; rfl
  · rw [ifn (by omega), Option.bind_some, decide_eq_false h]; rfl
theorem link_is (a : Bs) : g_addr_Link (a, ()) = some ((linkB a, ()), ()) := by
  rw [g_addr_Link_eq, hasP_is, Option.bind_some]
  unfold linkB
  by_cases h : a.length = 16
  · rw [if_pos (by simp; omega), decide_eq_true h]
    have : decide (([254, 128, 0, 0, 0, 0, 0, 0] : Bs).length ≤ a.length) = true := by simp; omega
    rw [this]; rfl
  · rw [if_neg (by simp; omega), decide_eq_false h]; rfl
theorem linkB_len {a : Bs} (h : linkB a = true) : a.length = 16 ∧ a.take 8 = linkP := by
  simpa [linkB] using h
def shortF (a : Bs) : Bs × Bool := if linkB a = true then (a.drop 8, true) else ([], false)
theorem short_is (a : Bs) : g_addr_Short (a, ()) = some (((shortF a).1, (shortF a).2, ()), ()) := by
  rw [g_addr_Short_eq, link_is, Option.bind_some]
  unfold shortF
  dsimp only
  by_cases h : linkB a = true
  · have := linkB_len h
    rw [h, ifnt, if_pos (by omega), ift]
  · rw [Bool.not_eq_true] at h
    rw [h, ifnf, iff_]
def longF (s : Bs) : Bs × Bool := if s.length = 8 then (linkP ++ s, true) else ([], false)
def famF (a : Bs) : Int := if a.length = 4 then 0 else if a.length = 16 then 1 else -1
theorem fam_is (a : Bs) : g_addr_Family (a, ()) = some ((famF a, ()), ()) := by
  rw [g_addr_Family_eq]
  unfold famF
  by_cases h : a.length = 4
  · rw [if_pos (by simp; omega), if_pos h]
  · rw [if_neg (by simp; omega), if_neg h]
    by_cases h2 : a.length = 16
    · rw [if_pos (by simp; omega), if_pos h2]
    · rw [if_neg (by simp; omega), if_neg h2]
theorem link_long {s : Bs} (h : s.length = 8) : linkB (linkP ++ s) = true := by
  unfold linkB
  have e : (linkP ++ s).take 8 = linkP := by rw [List.take_append_of_le_length (by decide)]; rfl
  rw [e]
  simp [linkP, h]
theorem link_parts {a : Bs} (h : linkB a = true) : linkP ++ a.drop 8 = a := by
  rw [← (linkB_len h).2, List.take_append_drop]
end Go.VP
set_option linter.unusedVariables false
set_option linter.unusedSimpArgs false
set_option maxRecDepth 100000
namespace Go.VP
open Go Go.VI
def maskN (b k : Nat) : Nat := b / 2 ^ (8 - k) * 2 ^ (8 - k)
def maskB (b : UInt8) (k : Int) : UInt8 := UInt8.ofNat (maskN b.toNat (min k.toNat 8))
theorem maskN_le (b k : Nat) : maskN b k ≤ b := Nat.div_mul_le_self ..
theorem maskB_toNat (b : UInt8) (k : Int) : (maskB b k).toNat = maskN b.toNat (min k.toNat 8) := by
  have := maskN_le b.toNat (min k.toNat 8); have := b.toNat_lt
  unfold maskB; rw [UInt8.toNat_ofNat']; omega
theorem maskB_all {b : UInt8} {k : Int} (h : 8 ≤ k) : maskB b k = b := by
  apply UInt8.toNat.inj
  rw [maskB_toNat, show min k.toNat 8 = 8 by omega]; simp [maskN]
theorem maskB_none {b : UInt8} {k : Int} (h : k ≤ 0) : maskB b k = 0 := by
  apply UInt8.toNat.inj
  have := b.toNat_lt
  rw [maskB_toNat, show min k.toNat 8 = 0 by omega]; simp [maskN]; omega
def keepF : Bs → Int → Bs
  | [], _ => []
  | b :: r, n => maskB b n :: keepF r (n - 8)
theorem keepF_length : ∀ (s : Bs) (n : Int), (keepF s n).length = s.length
  | [], _ => rfl
  | b :: r, n => by simp [keepF, keepF_length r]
theorem keepF_all : ∀ {s : Bs} {n : Int}, 8 * (s.length : Int) ≤ n → keepF s n = s
  | [], _, _ => rfl
  | b :: r, n, h => by simp only [List.length_cons] at h; rw [keepF, maskB_all (by omega), keepF_all (by omega)]
theorem keepF_none : ∀ {s : Bs} {n : Int}, n ≤ 0 → keepF s n = List.replicate s.length 0
  | [], _, _ => rfl
  | b :: r, n, h => by rw [keepF, maskB_none h, keepF_none (by omega), List.length_cons, List.replicate_succ]
theorem keepF_append : ∀ (a b : Bs) (n : Int), keepF (a ++ b) n = keepF a n ++ keepF b (n - 8 * a.length)
  | [], b, n => by simp [keepF]
  | x :: a, b, n => by simp only [List.cons_append, keepF, keepF_append a b, List.length_cons]; congr 3; omega
theorem keepF_mid {s : Bs} {n : Int} (h0 : 0 ≤ n) (h : n < 8 * s.length) : keepF s n = s.take (n / 8).toNat ++ maskB (s[(n / 8).toNat]'(by omega)) (n % 8) :: List.replicate (s.length - (n / 8).toNat - 1) 0 := by
  have hk : (n / 8).toNat < s.length := by omega
  have e : s = s.take (n / 8).toNat ++ (s[(n / 8).toNat] :: s.drop ((n / 8).toNat + 1)) := by rw [← List.drop_eq_getElem_cons hk, List.take_append_drop]
  have hl : (s.take (n / 8).toNat).length = (n / 8).toNat := by rw [List.length_take]; omega
  have := congrArg (fun x => keepF x n) e
  rw [this, keepF_append, hl, keepF_all (by omega), keepF, keepF_none (by omega), List.length_drop]
  congr 3
  all_goals omega
theorem andnot_all : ∀ y : Fin 256, ∀ j : Fin 8, (u8of (ibits .andNot .u8 (y.val : Int) (ishr .u8 255 (j.val : Int)))).toNat = maskN y.val j.val := by decide +kernel
theorem ib64_and7 {n : Int} (h0 : 0 ≤ n) (h : n ≤ 9223372036854775807) : ibits .and .i64 n 7 = n % 8 := by
  obtain ⟨a, rfl⟩ : ∃ a : Nat, n = a := ⟨n.toNat, by omega⟩
  unfold ibits
  show IntKind.wrap .i64 (((BitVec.ofInt 64 (a : Int) &&& BitVec.ofInt 64 ((7 : Nat) : Int)).toNat : Nat) : Int) = _
  have e : a &&& 7 = a % 8 := Nat.and_two_pow_sub_one_eq_mod a 3
  rw [BitVec.toNat_and, BitVec.ofInt_natCast, BitVec.ofInt_natCast, BitVec.toNat_ofNat, BitVec.toNat_ofNat, Nat.mod_eq_of_lt (by omega), Nat.mod_eq_of_lt (by omega), e, w64 (by omega) (by omega)]
  omega
theorem ishr3 {n : Int} (h0 : 0 ≤ n) : ishr .i64 n 3 = n / 8 := by
  unfold ishr
  rw [show ((2 : Int) ^ min (3 : Int).toNat IntKind.i64.bits) = 8 by decide]
  exact Int.fdiv_eq_ediv_of_nonneg _ (by decide)
theorem keep_is {s : Bs} {n : Int} (hs : s.length ≤ 1000000000) (hn : IntKind.has .i64 n) : g_bits_Keep (s, n, ()) = some ((keepF s n, ()), ()) := by
  rw [has64] at hn
  rw [g_bits_Keep_eq, w64 (x := 8 * (s.length : Int)) (by omega) (by omega)]
  by_cases h1 : 8 * (s.length : Int) ≤ n
  · rw [ifd h1, keepF_all h1]
  · rw [ifn h1, if_pos (show 0 ≤ (s.length : Int) ∧ (s.length : Int) ≤ roomI by unfold roomI; omega)]
    by_cases h2 : n ≤ 0
    · rw [ifd h2, keepF_none h2, Int.toNat_natCast]
    · rw [ifn h2, ishr3 (by omega), ib64_and7 (by omega) (by omega), wu64 (by omega) (by omega), if_pos (show 0 ≤ n / 8 ∧ n / 8 ≤ (s.length : Int) by omega), if_pos (show 0 ≤ n / 8 by omega)]
      have hk : (n / 8).toNat < s.length := by omega
      have hl : ((s.take (n / 8).toNat).take ((List.replicate (s.length : Int).toNat (0 : UInt8)).length) ++ (List.replicate (s.length : Int).toNat (0 : UInt8)).drop (s.take (n / 8).toNat).length).length = s.length := by
        simp; omega
      rw [bind_at hk, if_pos (show 0 ≤ n % 8 by omega), hl, if_pos (show 0 ≤ n / 8 ∧ n / 8 < (s.length : Int) by omega), if_pos hk, keepF_mid (by omega) (by omega)]
      have e1 : u8of (ibits .andNot .u8 ((s[(n / 8).toNat].toNat : Nat) : Int) (ishr .u8 255 (n % 8))) = maskB s[(n / 8).toNat] (n % 8) := by
        apply UInt8.toNat.inj
        have := andnot_all ⟨s[(n / 8).toNat].toNat, s[(n / 8).toNat].toNat_lt⟩ ⟨(n % 8).toNat, by omega⟩
        dsimp only at this
        rw [show (((n % 8).toNat : Nat) : Int) = n % 8 by omega] at this
        rw [this, maskB_toNat, show min (n % 8).toNat 8 = (n % 8).toNat by omega]
      have e2 : (s.take (n / 8).toNat).length = (n / 8).toNat := by rw [List.length_take]; omega
      have e3 : (s.take (n / 8).toNat).take ((List.replicate (s.length : Int).toNat (0 : UInt8)).length) = s.take (n / 8).toNat := List.take_of_length_le (by simp; omega)
      have e4 : (List.replicate (s.length : Int).toNat (0 : UInt8)).drop (n / 8).toNat = 0 :: List.replicate (s.length - (n / 8).toNat - 1) 0 := by
        rw [List.drop_replicate, Int.toNat_natCast, show s.length - (n / 8).toNat = (s.length - (n / 8).toNat - 1) + 1 by omega, List.replicate_succ]
        simp
      rw [e1, e3, e2, e4, List.set_append_right _ _ (by omega), e2, Nat.sub_self, List.set_cons_zero]
def cleanB (s : Bs) (n : Int) : Bool := keepF s n == s
theorem clean_is {s : Bs} {n : Int} (hs : s.length ≤ 1000000000) (hn : IntKind.has .i64 n) : g_bits_Clean (s, n, ()) = some ((cleanB s n, ()), ()) := by
  rw [g_bits_Clean_eq, keep_is hs hn]; rfl
def leastF (n : Int) : Int := if n < 0 then 0 else (n + 7) / 8
theorem least_is {n : Int} (h : n ≤ 9000000000000000000) : g_prefix_Least (n, ()) = some ((leastF n, ()), ()) := by
  rw [g_prefix_Least_eq]
  unfold leastF
  by_cases h0 : n < 0
  · rw [if_pos (show 0 > n from h0), if_pos h0]; rfl
  · rw [if_neg (show ¬ 0 > n from h0), if_neg h0, w64 (by omega) (by omega), ishr3 (by omega)]
def fillF (s : Bs) (n : Int) : Bs := s ++ List.replicate (n.toNat - s.length) 0
def cutF (a : Bs) (n : Int) : Bs := keepF (a.take (leastF n).toNat) n
theorem leastF_nn (n : Int) : 0 ≤ leastF n := by unfold leastF; split <;> omega
theorem min_toNat (a : Bs) (n : Int) (h : 0 ≤ n) : 0 ≤ (if (a.length : Int) < n then (a.length : Int) else n) ∧ (if (a.length : Int) < n then (a.length : Int) else n) ≤ (a.length : Int) ∧ a.take (if (a.length : Int) < n then (a.length : Int) else n).toNat = a.take n.toNat := by
  split
  · refine ⟨by omega, by omega, ?_⟩
    rw [Int.toNat_natCast, List.take_length, List.take_of_length_le (by omega)]
  · exact ⟨by omega, by omega, rfl⟩
theorem pcut_is {a : Bs} {n : Int} (ha : a.length ≤ 1000000000) (hn : IntKind.has .i64 n) (h : n ≤ 9000000000000000000) : g_prefix_Cut (a, n, ()) = some ((cutF a n, ()), ()) := by
  obtain ⟨m1, m2, m3⟩ := min_toNat a (leastF n) (leastF_nn n)
  rw [g_prefix_Cut_eq, least_is h, Option.bind_some]
  dsimp only
  rw [if_pos ⟨m1, m2⟩, m3, keep_is (by rw [List.length_take]; omega) hn]; rfl
theorem keepF_take (a : Bs) (n : Int) : ∀ k : Nat, (keepF a n).take k = keepF (a.take k) n := by
  intro k
  induction a generalizing n k with
  | nil => simp [keepF]
  | cons b r ih =>
    cases k with
    | zero => simp [keepF]
    | succ k => simp [keepF, ih]
end Go.VP
set_option linter.unusedVariables false
set_option linter.unusedSimpArgs false
set_option maxRecDepth 100000
namespace Go.VP
open Go Go.VI
def addrB (ae : Int) (a : Bs) : Bool := if ae = 0 then a == [] else if ae = 1 then decide (a.length = 4) else if ae = 2 then decide (a.length = 16) else if ae = 3 then linkB a else false
theorem addr_is (ae : Int) (a : Bs) : g_field_address (ae, a, ()) = some ((addrB ae a, ()), ()) := by
  rw [g_field_address_eq, fam_is, link_is]
  unfold addrB
  refine bq_step (fun h => ?_) (fun h => ?_)
  · rw [if_pos h]
  rw [if_neg h]
  refine bq_step (fun h => ?_) (fun h => ?_)
  · rw [if_pos h, Option.bind_some]
    unfold famF; split
    · simp [*]
    · split <;> simp [*]
  rw [if_neg h]
  refine bq_step (fun h => ?_) (fun h => ?_)
  · rw [if_pos h, Option.bind_some]
    unfold famF; split
    · simp [*]
    · split <;> simp [*]
  rw [if_neg h]
  refine bq_step (fun h => ?_) (fun h => ?_)
  · rw [if_pos h, Option.bind_some]
  rw [if_neg h]
def kindF (m : Msg) : Bool := if m.kind = 7 then true else if m.kind = 8 then true else if m.kind = 9 then (m.flags == 0 || m.flags == 1) else if m.kind = 10 then addrB m.ae m.addr else false
noncomputable def fieldB (m : Msg) : Bool := fitsB m.nonce 2 && (fitsB m.interval 2 && (fitsB m.seq 2 && (fitsB m.cost 2 && (bareB m && (rightB m.subs && kindF m)))))
structure GoodM (m : Msg) : Prop where
  few : Lite m
  nonce : IntKind.has .i64 m.nonce
  interval : IntKind.has .i64 m.interval
  seq : IntKind.has .i64 m.seq
  cost : IntKind.has .i64 m.cost
  kind : IntKind.has .i64 m.kind
  flags : IntKind.has .i64 m.flags
  ae : IntKind.has .i64 m.ae
  plen : IntKind.has .i64 m.plen
  hops : IntKind.has .i64 m.hops
theorem kindF_is {m : Msg} {c : Option ((Bool × Unit) × Unit)} (hc : c = some ((addrB m.ae m.addr, ()), ())) :
  (if (m.kind == 7) = true then (if (m.kind == 7) = true then some ((true, ()), ()) else (if (m.kind == 9) = true then (if (m.flags == 0) = true then some ((true, ()), ()) else some (((m.flags == 1), ()), ())) else (if (m.kind == 10) = true then (c.bind fun r5 => some ((r5.1.1, ()), ())) else some ((false, ()), ())))) else (if (m.kind == 8) = true then some ((true, ()), ()) else (if (m.kind == 9) = true then (if (m.flags == 0) = true then some ((true, ()), ()) else some (((m.flags == 1), ()), ())) else (if (m.kind == 10) = true then (c.bind fun r6 => some ((r6.1.1, ()), ())) else some ((false, ()), ()))))) = some ((kindF m, ()), ()) := by
  subst hc
  unfold kindF
  refine bq_step (fun h => ?_) (fun h => ?_)
  · rw [if_pos h, if_pos (by simp [h])]
  rw [if_neg h]
  refine bq_step (fun h => ?_) (fun h => ?_)
  · rw [if_pos h]
  rw [if_neg h]
  refine bq_step (fun h => ?_) (fun h => ?_)
  · rw [if_pos h]
    refine bq_step (fun h2 => ?_) (fun h2 => ?_)
    · simp [h2]
    · have : (m.flags == 0) = false := by simpa using h2
      rw [this, Bool.false_or]
  rw [if_neg h]
  refine bq_step (fun h => ?_) (fun h => ?_)
  · rw [if_pos h, Option.bind_some]
  rw [if_neg h]
theorem right_is {m : Msg} (g : GoodM m) : g_field_Right (m, ()) = some ((fieldB m, ()), ()) := by
  have f2 : ∀ {n : Int}, IntKind.has .i64 n → g_octet_Fits (n, 2, ()) = some ((fitsB n 2, ()), ()) := fun h => fits_is (k := 2) h (by omega) (by omega)
  obtain ⟨c, hc⟩ := fuel_pos
  show h_field_Right fuel _ = _
  rw [h_field_Right_eq, show ([m.nonce, m.interval, m.seq, m.cost] : List Int).length = 4 from rfl]
  have e0 : fuel = (c + 999999999995) + 5 := by omega
  have st : ∀ (k : Nat) (i : Nat) (x : Int), [m.nonce, m.interval, m.seq, m.cost][i]? = some x → i < 4 → IntKind.has .i64 x → L_field_Right_0 fuel (k + 1) m [m.nonce, m.interval, m.seq, m.cost] ((4 : Nat) : Int) i = (if (!fitsB x 2) = true then some ((false, ()), ()) else L_field_Right_0 fuel k m [m.nonce, m.interval, m.seq, m.cost] ((4 : Nat) : Int) ((i + 1 : Nat) : Int)) := by
    intro k i x hx hi hh
    rw [L_field_Right_0_eq, ifd (by omega), if_pos (by omega), Int.toNat_natCast, hx, Option.bind_some, f2 hh, Option.bind_some, w64 (by omega) (by omega)]
    rfl
  have last : ∀ k, L_field_Right_0 fuel (k + 1) m [m.nonce, m.interval, m.seq, m.cost] ((4 : Nat) : Int) ((4 : Nat) : Int) = some ((bareB m && (rightB m.subs && kindF m), ()), ()) := by
    intro k
    rw [L_field_Right_0_eq, ifn (by omega), bare_is, Option.bind_some, sright_is g.few.fewS, Option.bind_some]
    dsimp only
    rw [kindF_is (addr_is _ _)]
    cases bareB m
    · rfl
    · cases rightB m.subs <;> rfl
  have := st (c + 999999999999) 0 m.nonce rfl (by omega) g.nonce
  rw [show c + 999999999999 + 1 = fuel by omega] at this
  rw [show (0 : Int) = ((0 : Nat) : Int) from rfl, this]
  have := st (c + 999999999998) 1 m.interval rfl (by omega) g.interval
  rw [this]
  have := st (c + 999999999997) 2 m.seq rfl (by omega) g.seq
  rw [this]
  have := st (c + 999999999996) 3 m.cost rfl (by omega) g.cost
  rw [this]
  have := last (c + 999999999995)
  rw [this]
  unfold fieldB
  cases fitsB m.nonce 2
  · rfl
  · cases fitsB m.interval 2
    · rfl
    · cases fitsB m.seq 2
      · rfl
      · cases fitsB m.cost 2 <;> rfl
def fieldsF (m : Msg) : Bs :=
  if m.kind = 7 then be 2 0 ++ (be 2 m.nonce ++ be 2 m.interval)
  else if m.kind = 8 then be 2 m.nonce
  else if m.kind = 9 then be 2 (32768 * m.flags) ++ (be 2 m.seq ++ be 2 m.interval)
  else be 2 (256 * m.ae) ++ (be 2 m.cost ++ (be 2 m.interval ++ (if m.ae = 3 then m.addr.drop 8 else m.addr)))
noncomputable def fieldPut (m : Msg) : Bs × Bool := if fieldB m = true then tput (m.kind - 5) (fieldsF m ++ encS m.subs) else ([], false)
theorem be2 {n : Int} (h : 0 ≤ n ∧ n < 65536) : [u8of (IntKind.wrap .u8 (ishr .i64 n 8)), u8of (IntKind.wrap .u8 n)] = be 2 n := by
  have e : ishr .i64 n 8 = n / 256 := by
    unfold ishr
    rw [show ((2 : Int) ^ min (8 : Int).toNat IntKind.i64.bits) = 256 by decide]
    exact Int.fdiv_eq_ediv_of_nonneg _ (by decide)
  rw [e, wu8, wu8]; rfl
theorem two_loop {l : List Int} {n : Nat} (hl : l.length ≤ 10) (hr : ∀ x ∈ l, 0 ≤ x ∧ x < 65536) : ∀ (d m i : Nat) (b : Bs), i + d = l.length → d < m → b.length ≤ 1000 + 2 * i →
    L_field_writer_two_0 n m l i b = some ((), (⟨b ++ (l.drop i).flatMap (be 2)⟩, ())) := by
  intro d
  induction d with
  | zero =>
    intro m i b hd hm hb
    obtain ⟨m, rfl⟩ : ∃ k, m = k + 1 := ⟨m - 1, by omega⟩
    rw [L_field_writer_two_0_eq, ifn (by omega), List.drop_eq_nil_of_le (by omega)]
    simp
  | succ d ih =>
    intro m i b hd hm hb
    obtain ⟨m, rfl⟩ : ∃ k, m = k + 1 := ⟨m - 1, by omega⟩
    have hi : i < l.length := by omega
    have := ih m (i + 1) (b ++ be 2 l[i]) (by omega) (by omega) (by simp [be_length]; omega)
    rw [show ((i + 1 : Nat) : Int) = (i : Int) + 1 by omega] at this
    rw [L_field_writer_two_0_eq, ifd (by omega), if_pos (by omega), Int.toNat_natCast, bind_at hi, if_pos (roomB_of (by simp; omega)), be2 (hr _ (List.getElem_mem hi)), w64 (by omega) (by omega), this, List.drop_eq_getElem_cons hi]
    simp only [List.flatMap_cons, List.append_assoc]
theorem two_is {l : List Int} {b : Bs} (hl : l.length ≤ 10) (hr : ∀ x ∈ l, 0 ≤ x ∧ x < 65536) (hb : b.length ≤ 1000) : g_field_writer_two (⟨b⟩, l, ()) = some ((), (⟨b ++ l.flatMap (be 2)⟩, ())) := by
  show h_field_writer_two fuel _ = _
  rw [h_field_writer_two_eq]
  exact two_loop (n := fuel) hl hr l.length fuel 0 b (by omega) (fuel_ge (by omega)) (by omega)
structure FieldR (m : Msg) : Prop where
  nonce : 0 ≤ m.nonce ∧ m.nonce < 65536
  interval : 0 ≤ m.interval ∧ m.interval < 65536
  seq : 0 ≤ m.seq ∧ m.seq < 65536
  cost : 0 ≤ m.cost ∧ m.cost < 65536
  bare : bareB m = true
  subs : rightB m.subs = true
  kind : kindF m = true
theorem fitsB2 {n : Int} : fitsB n 2 = true ↔ 0 ≤ n ∧ n < 65536 := by simp [fitsB]
theorem fieldR_iff {m : Msg} : fieldB m = true ↔ FieldR m := by
  unfold fieldB
  simp only [Bool.and_eq_true, fitsB2]
  exact ⟨fun ⟨a, b, c, d, e, f, g⟩ => ⟨a, b, c, d, e, f, g⟩, fun h => ⟨h.1, h.2, h.3, h.4, h.5, h.6, h.7⟩⟩
theorem FieldR.kinds {m : Msg} (h : FieldR m) : m.kind = 7 ∨ m.kind = 8 ∨ (m.kind = 9 ∧ (m.flags = 0 ∨ m.flags = 1)) ∨ (m.kind = 10 ∧ addrB m.ae m.addr = true) := by
  have := h.kind
  unfold kindF at this
  split at this
  · omega
  · split at this
    · omega
    · split at this
      · simp at this; exact .inr (.inr (.inl ⟨by assumption, this⟩))
      · split at this
        · exact .inr (.inr (.inr ⟨by assumption, this⟩))
        · cases this
theorem addrB_cases {ae : Int} {a : Bs} (h : addrB ae a = true) : (ae = 0 ∧ a = []) ∨ (ae = 1 ∧ a.length = 4) ∨ (ae = 2 ∧ a.length = 16) ∨ (ae = 3 ∧ linkB a = true) := by
  unfold addrB at h
  split at h
  · simp at h; exact .inl ⟨by assumption, h⟩
  · split at h
    · simp at h; exact .inr (.inl ⟨by assumption, h⟩)
    · split at h
      · simp at h; exact .inr (.inr (.inl ⟨by assumption, h⟩))
      · split at h
        · exact .inr (.inr (.inr ⟨by assumption, h⟩))
        · cases h
theorem ishl_ok {x : Int} {k : Nat} (hx : 0 ≤ x ∧ x < 65536) (hk : k ≤ 15) : ishl .i64 x k = 2 ^ k * x := by
  unfold ishl
  rw [Int.mul_comm]
  have e : min (k : Int).toNat IntKind.i64.bits = k := by simp only [IntKind.bits]; omega
  rw [e]
  have hp : (2 : Int) ^ k ≤ 32768 ∧ 1 ≤ (2 : Int) ^ k := by
    match k, hk with
    | 0, _ | 1, _ | 2, _ | 3, _ | 4, _ | 5, _ | 6, _ | 7, _ | 8, _ | 9, _ | 10, _ | 11, _ | 12, _ | 13, _ | 14, _ | 15, _ => decide
  have h1 : x * 2 ^ k ≤ 65536 * 32768 := Int.mul_le_mul (by omega) hp.1 (by omega) (by omega)
  have h0 : 0 ≤ x * 2 ^ k := Int.mul_nonneg hx.1 (by omega)
  rw [w64 (by omega) (by omega), Int.mul_comm]
theorem putS_r {l : List Sub} (h : rightB l = true) : putS l = (encS l, true) := by unfold putS; rw [if_pos h]
theorem encS_small {l : List Sub} (h : rightB l = true) : (encS l).length ≤ 200 := by
  have := (rightB_split h).2; have := encS_length l; omega
theorem put_is {m : Msg} (g : GoodM m) : g_field_Put (m, ()) = some (((fieldPut m).1, (fieldPut m).2, ()), ()) := by
  rw [g_field_Put_eq, right_is g, Option.bind_some]
  unfold fieldPut
  dsimp only
  by_cases h : fieldB m = true
  · have r := fieldR_iff.1 h
    have hs := sput_is g.few.fewS (by have := g.few.subs; omega)
    rw [putS_r r.subs] at hs
    have hz := encS_small r.subs
    rw [if_neg (by simp [h]), if_pos h, hs]
    simp only [Option.bind_some]
    rcases r.kinds with hk | hk | ⟨hk, hf⟩ | ⟨hk, ha⟩
    · rw [if_pos (by simp [hk]), two_is (by simp) (by have := r.nonce; have := r.interval; simp; omega) (by simp), Option.bind_some]
      dsimp only
      rw [if_pos (maxB_of (by simp [be_length]; omega)), tput_is, w64 (x := m.kind - 7) (by omega) (by omega), w64 (by omega) (by omega)]
      simp [fieldsF, hk]
    · rw [if_neg (by simp [hk]), if_pos (by simp [hk]), two_is (by simp) (by have := r.nonce; simp; omega) (by simp), Option.bind_some]
      dsimp only
      rw [if_pos (maxB_of (by simp [be_length]; omega)), tput_is, w64 (x := m.kind - 7) (by omega) (by omega), w64 (by omega) (by omega)]
      simp [fieldsF, hk]
    · rw [if_neg (by simp [hk]), if_neg (by simp [hk]), if_pos (by simp [hk]), show (15 : Int) = ((15 : Nat) : Int) from rfl, ishl_ok (by omega) (by omega), two_is (by simp) (by have := r.seq; have := r.interval; simp; omega) (by simp), Option.bind_some]
      dsimp only
      rw [if_pos (maxB_of (by simp [be_length]; omega)), tput_is, w64 (x := m.kind - 7) (by omega) (by omega), w64 (by omega) (by omega)]
      simp [fieldsF, hk]
    · have hc := addrB_cases ha
      have hl : m.addr.length ≤ 16 := by rcases hc with ⟨_, h⟩ | ⟨_, h⟩ | ⟨_, h⟩ | ⟨_, h⟩ <;> first | (rw [h]; simp; done) | omega | (have := linkB_len h; omega)
      rw [if_neg (by simp [hk]), if_neg (by simp [hk]), if_neg (by simp [hk]), if_pos (by simp [hk]), show (8 : Int) = ((8 : Nat) : Int) from rfl, ishl_ok (by omega) (by omega), two_is (by simp) (by have := r.cost; have := r.interval; simp; omega) (by simp), Option.bind_some, short_is, Option.bind_some]
      dsimp only
      have fin : ∀ a : Bs, a.length ≤ 16 → fieldsF m = be 2 (256 * m.ae) ++ (be 2 m.cost ++ (be 2 m.interval ++ a)) → (if roomB (([] ++ [2 ^ 8 * m.ae, m.cost, m.interval].flatMap (be 2)).length + a.length) = true then (if maxB ((([] ++ [2 ^ 8 * m.ae, m.cost, m.interval].flatMap (be 2)) ++ a).length + (encS m.subs).length) = true then ((g_frame_Put ((IntKind.wrap .i64 ((IntKind.wrap .i64 (m.kind - 7)) + 2)), ((([] ++ [2 ^ 8 * m.ae, m.cost, m.interval].flatMap (be 2)) ++ a) ++ encS m.subs), ())).bind fun r14 => some ((r14.1.1, r14.1.2.1, ()), ())) else none) else none) = some (((tput (m.kind - 5) (fieldsF m ++ encS m.subs)).1, (tput (m.kind - 5) (fieldsF m ++ encS m.subs)).2, ()), ()) := by
        intro a ha he
        rw [if_pos (roomB_of (by simp [be_length]; omega)), if_pos (maxB_of (by simp [be_length]; omega)), tput_is, w64 (x := m.kind - 7) (by omega) (by omega), w64 (by omega) (by omega), he]
        simp [hk]
      unfold shortF
      by_cases hb : linkB m.addr = true
      · rw [hb, ift, ift]
        dsimp only
        refine bq_step (fun h3 => ?_) (fun h3 => ?_)
        · exact fin _ (by simp; omega) (by simp [fieldsF, hk, h3])
        · exact fin _ hl (by simp [fieldsF, hk, h3])
      · have h3 : m.ae ≠ 3 := fun h3 => by rcases hc with ⟨h, _⟩ | ⟨h, _⟩ | ⟨h, _⟩ | ⟨_, h⟩ <;> first | omega | exact hb h
        rw [Bool.not_eq_true] at hb
        rw [hb, iff_, iff_]
        exact fin _ hl (by simp [fieldsF, hk, h3])
  · rw [Bool.not_eq_true] at h
    rw [h, ifnf, iff_]
end Go.VP
set_option linter.unusedVariables false
set_option linter.unusedSimpArgs false
set_option maxRecDepth 100000
namespace Go.VP
open Go Go.VI
abbrev msg0 : Msg := ⟨0, 0, 0, [], 0, 0, [], 0, 0, [], 0, [], 0, 0, 0, 0, 0, 0, 0, [], [], [], 0, [], []⟩
def finG (F : List Sub → Msg) (x : List Sub × Bool × Int) : Msg × Bool × Int := if (x.2.2 != 0) = true then (msg0, false, x.2.2) else if (!x.2.1) = true then (msg0, false, x.2.2) else (F x.1, true, 0)
def lenA (ae : Int) : Int := if ae = 0 then 0 else if ae = 1 then 4 else if ae = 2 then 16 else 8
def fieldG (ty : Int) (d : Bs) : Msg × Bool × Int :=
  if ty = 2 then (if d.length < 6 then (msg0, false, 2) else finG (fun l => ⟨7, 0, 0, [], 0, 0, [], 0, 0, [], 0, [], 0, 0, num (cut_ d 4 2), 0, 0, num (cut_ d 2 2), 0, [], [], [], 0, [], l⟩) (getS (d.drop 6)))
  else if ty = 3 then (if d.length < 2 then (msg0, false, 2) else finG (fun l => ⟨8, 0, 0, [], 0, 0, [], 0, 0, [], 0, [], 0, 0, 0, 0, 0, num (cut_ d 0 2), 0, [], [], [], 0, [], l⟩) (getS (d.drop 2)))
  else if ty = 4 then (if d.length < 6 then (msg0, false, 2) else finG (fun l => ⟨9, 0, 0, [], 0, 0, [], 0, 0, [], 0, [], num (cut_ d 2 2), 0, num (cut_ d 4 2), bt d 0 / 128, 0, 0, 0, [], [], [], 0, [], l⟩) (getS (d.drop 6)))
  else if d.length < 6 then (msg0, false, 2)
  else if 3 < bt d 0 then (msg0, false, 0)
  else if (d.length : Int) < 6 + lenA (bt d 0) then (msg0, false, 2)
  else finG (fun l => ⟨10, 0, 0, [], 0, bt d 0, [], 0, 0, [], 0, [], 0, 0, num (cut_ d 4 2), 0, 0, 0, num (cut_ d 2 2), if bt d 0 = 3 then linkP ++ cut_ d 6 8 else cut_ d 6 (lenA (bt d 0)), [], [], 0, [], l⟩) (getS (d.drop (6 + lenA (bt d 0)).toNat))
theorem hi_lo (d : Bs) (h : 2 ≤ d.length) : num (cut_ d 0 2) = bt d 0 * 256 + bt d 1 := num2 (p := 0) (by omega)
theorem bt_lt2 (d : Bs) (h : 2 ≤ d.length) : num (cut_ d 0 2) / 256 = bt d 0 := by
  have := bt_rng d 0; have := bt_rng d 1; rw [hi_lo d h]; omega
theorem bt_128 (d : Bs) (h : 2 ≤ d.length) : num (cut_ d 0 2) / 32768 = bt d 0 / 128 := by
  have := bt_rng d 0; have := bt_rng d 1; rw [hi_lo d h]; omega
end Go.VP
set_option linter.unusedVariables false
set_option linter.unusedSimpArgs false
set_option maxRecDepth 100000
namespace Go.VP
open Go Go.VI
theorem keep_allR : ∀ {l : List Tlv}, ShortT l → AllR (keep l)
  | [], _ => fun y hy => by simp [keep] at hy
  | t :: l, h => by
    have ih := keep_allR (l := l) (fun z hz => h z (List.mem_cons_of_mem _ hz))
    intro y hy
    simp only [keep] at hy
    split at hy
    · rcases List.mem_cons.1 hy with rfl | hy
      · have := h t (List.mem_cons_self ..); dsimp only; omega
      · exact ih y hy
    · exact ih y hy
theorem spl_sum (s : Bs) : ∀ (p : Int) (l : List Tlv), spl p s = .ok l → sumN (keep l) ≤ s.length := by
  match s with
  | [] => intro p l h; rw [spl_nil] at h; injection h with h; subst h; simp [keep, sumN]
  | t :: r =>
    intro p l h
    have go : ∀ (q : Int) (x : Tlv) (r' : Bs), r'.length < (t :: r).length → (x.type_ = 0 ∨ r'.length + 2 + x.data.length ≤ (t :: r).length) → (spl q r').map (x :: ·) = .ok l → sumN (keep l) ≤ ((t :: r).length : Nat) := by
      intro q x r' hr hx h
      cases hm : spl q r' with
      | error e => rw [hm] at h; cases h
      | ok l' =>
        rw [hm] at h
        injection h with h
        subst h
        have := spl_sum r' q l' hm
        simp only [keep]
        split
        · simp only [sumN]; omega
        · omega
    by_cases ht : t = 0
    · subst ht
      rw [spl_zero] at h
      exact go _ _ _ (by simp) (.inl rfl) h
    · match r with
      | [] => rw [spl_one ht] at h; cases h
      | n :: d =>
        by_cases hn : d.length < n.toNat
        · rw [spl_bad ht hn] at h; cases h
        · rw [spl_all ht (by omega)] at h
          exact go _ _ _ (by simp; omega) (.inr (by simp; omega)) h
termination_by s.length
theorem getS_cases (s : Bs) : (∃ l, getS s = (l, true, 0) ∧ AllR l ∧ sumN l ≤ 200 ∧ sumN l ≤ s.length ∧ l.length ≤ s.length) ∨ (∃ l, getS s = (l, false, 0)) ∨ (∃ e, getS s = ([], false, e) ∧ e ≠ 0) := by
  unfold getS
  cases h : spl 0 s with
  | error e => exact .inr (.inr ⟨2, rfl, by decide⟩)
  | ok l =>
    obtain ⟨h1, h2⟩ := spl_ok s 0 l h
    have h3 := spl_sum s 0 l h
    have h4 := keep_length l
    dsimp only
    unfold endS
    split
    · exact .inr (.inr ⟨10, rfl, by decide⟩)
    · cases hb : free l with
      | true => exact .inl ⟨_, rfl, keep_allR h1, by omega, h3, by omega⟩
      | false => exact .inr (.inl ⟨_, rfl⟩)
theorem finG_cases (F : List Sub → Msg) (s : Bs) : (∃ l, finG F (getS s) = (F l, true, 0) ∧ AllR l ∧ sumN l ≤ 200 ∧ sumN l ≤ s.length ∧ l.length ≤ s.length) ∨ (∃ e, finG F (getS s) = (msg0, false, e)) := by
  rcases getS_cases s with ⟨l, h, h2⟩ | ⟨l, h⟩ | ⟨e, h, h2⟩
  · rw [h]; exact .inl ⟨l, rfl, h2⟩
  · rw [h]; exact .inr ⟨_, rfl⟩
  · rw [h]; refine .inr ⟨e, ?_⟩
    unfold finG
    rw [if_pos (by simpa using h2)]
theorem rightB_of {l : List Sub} (h : AllR l) (h2 : sumN l ≤ 200) : rightB l = true := by
  unfold rightB; rw [allR_iff.2 h, decide_eq_true h2]; rfl
theorem AllR.few {l : List Sub} (h : AllR l) : ∀ y ∈ l, y.data.length ≤ 300 := fun y hy => by have := h y hy; omega
theorem num_cut_rng {d : Bs} {p : Int} (h : 0 ≤ p) (h2 : p + 2 ≤ d.length) : 0 ≤ num (cut_ d p 2) ∧ num (cut_ d p 2) < 65536 := by
  have hl := cut_length (s := d) (p := p) (n := 2) h (by omega) h2
  have := num_rng (cut_ d p 2)
  rw [show (cut_ d p 2).length = 2 by omega] at this
  exact this
theorem lenSub {l : List Sub} : (encS l).length = sumN l := encS_length l
theorem sub_len : ∀ {l : List Sub}, (l.length : Int) * 2 ≤ sumN l
  | [] => by simp [sumN]
  | y :: l => by have := sub_len (l := l); simp only [sumN, List.length_cons]; omega
theorem fieldG_cases {ty : Int} {d : Bs} (ht : 2 ≤ ty ∧ ty ≤ 5) (hd : d.length ≤ 300) :
    (∃ m, fieldG ty d = (m, true, 0) ∧ FieldR m ∧ GoodM m ∧ (fieldsF m ++ encS m.subs).length ≤ d.length) ∨ (∃ e, fieldG ty d = (msg0, false, e)) := by
  have hb := bt_rng d 0
  unfold fieldG
  have good : ∀ m : Msg, Lite m → FieldR m → (0 ≤ m.kind ∧ m.kind < 100) → (0 ≤ m.flags ∧ m.flags < 100) → (0 ≤ m.ae ∧ m.ae < 100) → (0 ≤ m.plen ∧ m.plen < 100) → (0 ≤ m.hops ∧ m.hops < 100) → GoodM m := fun m hf r a b c d e => ⟨hf, has64.2 (by have := r.nonce; omega), has64.2 (by have := r.interval; omega), has64.2 (by have := r.seq; omega), has64.2 (by have := r.cost; omega), has64.2 (by omega), has64.2 (by omega), has64.2 (by omega), has64.2 (by omega), has64.2 (by omega)⟩
  have w0 : (0 : Int) ≤ 0 ∧ (0 : Int) < 65536 := by decide
  have z0 : (0 : Int) ≤ 0 ∧ (0 : Int) < 100 := by decide
  have z7 : (0 : Int) ≤ 7 ∧ (7 : Int) < 100 := by decide
  have z8 : (0 : Int) ≤ 8 ∧ (8 : Int) < 100 := by decide
  have z9 : (0 : Int) ≤ 9 ∧ (9 : Int) < 100 := by decide
  have z10 : (0 : Int) ≤ 10 ∧ (10 : Int) < 100 := by decide
  have n300 : ([] : List Dest).length ≤ 1000 := by decide
  have both : ∀ {m : Msg} {x : Msg × Bool × Int}, x = (m, true, 0) → FieldR m → (FieldR m → GoodM m) → (fieldsF m ++ encS m.subs).length ≤ d.length → ∃ m, x = (m, true, 0) ∧ FieldR m ∧ GoodM m ∧ (fieldsF m ++ encS m.subs).length ≤ d.length := fun h r g l => ⟨_, h, r, g r, l⟩
  have bare : ∀ m : Msg, bareOf m = some m → bareB m = true := fun m h => by rw [bareB, h]; exact eqB_refl m
  split
  · split
    · exact .inr ⟨_, rfl⟩
    · have n2 := num_cut_rng (d := d) (p := 2) (by omega) (by omega)
      have n4 := num_cut_rng (d := d) (p := 4) (by omega) (by omega)
      refine (finG_cases _ _).imp (fun ⟨l, h, h1, h2, h3, h4⟩ => both h ⟨n2, n4, w0, w0, bare _ rfl, rightB_of h1 h2, rfl⟩ (fun r => good _ ⟨n300, ?_, by simp, by simp, by simp, by simp, by simp, by simp, by simp, by simp, h1.few⟩ r z7 z0 z0 z0 z0) ?_) id
      · have := sub_len (l := l); simp at h4; dsimp only; omega
      · have := lenSub (l := l); simp [fieldsF, be_length] at h3 ⊢; omega
  · split
    · split
      · exact .inr ⟨_, rfl⟩
      · have n0 := num_cut_rng (d := d) (p := 0) (by omega) (by omega)
        refine (finG_cases _ _).imp (fun ⟨l, h, h1, h2, h3, h4⟩ => both h ⟨n0, w0, w0, w0, bare _ rfl, rightB_of h1 h2, rfl⟩ (fun r => good _ ⟨n300, ?_, by simp, by simp, by simp, by simp, by simp, by simp, by simp, by simp, h1.few⟩ r z8 z0 z0 z0 z0) ?_) id
        · have := sub_len (l := l); simp at h4; dsimp only; omega
        · have := lenSub (l := l); simp [fieldsF, be_length] at h3 ⊢; omega
    · split
      · split
        · exact .inr ⟨_, rfl⟩
        · have n2 := num_cut_rng (d := d) (p := 2) (by omega) (by omega)
          have n4 := num_cut_rng (d := d) (p := 4) (by omega) (by omega)
          have hf : bt d 0 / 128 = 0 ∨ bt d 0 / 128 = 1 := by omega
          refine (finG_cases _ _).imp (fun ⟨l, h, h1, h2, h3, h4⟩ => both h ⟨w0, n4, n2, w0, bare _ rfl, rightB_of h1 h2, ?_⟩ (fun r => good _ ⟨n300, ?_, by simp, by simp, by simp, by simp, by simp, by simp, by simp, by simp, h1.few⟩ r z9 (show 0 ≤ bt d 0 / 128 ∧ bt d 0 / 128 < 100 by omega) z0 z0 z0) ?_) id
          · simp only [kindF]; rcases hf with e | e <;> rw [e] <;> rfl
          · have := sub_len (l := l); simp at h4; dsimp only; omega
          · have := lenSub (l := l); simp [fieldsF, be_length] at h3 ⊢; omega
      · split
        · exact .inr ⟨_, rfl⟩
        · split
          · exact .inr ⟨_, rfl⟩
          · split
            · exact .inr ⟨_, rfl⟩
            · rename_i hx hl
              have n2 := num_cut_rng (d := d) (p := 2) (by omega) (by omega)
              have n4 := num_cut_rng (d := d) (p := 4) (by omega) (by omega)
              have hae : bt d 0 = 0 ∨ bt d 0 = 1 ∨ bt d 0 = 2 ∨ bt d 0 = 3 := by omega
              have hA : ∀ a, a = (if bt d 0 = 3 then linkP ++ cut_ d 6 8 else cut_ d 6 (lenA (bt d 0))) → addrB (bt d 0) a = true ∧ a.length ≤ 16 ∧ (((if bt d 0 = 3 then a.drop 8 else a).length : Nat) : Int) = lenA (bt d 0) := by
                intro a ha
                have hc : ∀ n : Int, 0 ≤ n → n = lenA (bt d 0) → ((cut_ d 6 n).length : Int) = n := fun n h0 hn => cut_length (by omega) h0 (by omega)
                rcases hae with e | e | e | e
                · rw [e] at ha hc ⊢
                  have := hc 0 (by omega) rfl
                  have e0 : a = [] := List.length_eq_zero_iff.1 (by rw [ha]; exact (by omega : (cut_ d 6 0).length = 0))
                  rw [e0]; exact ⟨rfl, by simp, rfl⟩
                · rw [e] at ha hc ⊢
                  have := hc 4 (by omega) rfl
                  have e0 : (a.length : Int) = 4 := by rw [ha]; exact this
                  exact ⟨by simp [addrB]; omega, by omega, e0⟩
                · rw [e] at ha hc ⊢
                  have := hc 16 (by omega) rfl
                  have e0 : (a.length : Int) = 16 := by rw [ha]; exact this
                  exact ⟨by simp [addrB]; omega, by omega, e0⟩
                · rw [e] at ha hc ⊢
                  have := hc 8 (by omega) rfl
                  rw [if_pos rfl] at ha
                  have e1 : linkB a = true := by rw [ha]; exact link_long (by omega)
                  have e0 := (linkB_len e1).1
                  rw [if_pos rfl]
                  exact ⟨by simp [addrB, e1], by omega, by simp [e0, lenA]⟩
              obtain ⟨A1, A2, A3⟩ := hA _ rfl
              refine (finG_cases _ _).imp (fun ⟨l, h, h1, h2, h3, h4⟩ => both h ⟨w0, n4, w0, n2, bare _ rfl, rightB_of h1 h2, A1⟩ (fun r => good _ ⟨n300, ?_, by simp, by simp, by simp, by simp, ?_, by simp, by simp, by simp, h1.few⟩ r z10 z0 (show 0 ≤ bt d 0 ∧ bt d 0 < 100 by omega) z0 z0) ?_) id
              · have := sub_len (l := l); simp at h4; dsimp only; omega
              · dsimp only; omega
              · have := lenSub (l := l)
                have hn : 0 ≤ lenA (bt d 0) := by unfold lenA; split <;> (try split) <;> (try split) <;> omega
                generalize hq : (if bt d 0 = 3 then linkP ++ cut_ d 6 8 else cut_ d 6 (lenA (bt d 0))) = a at A3 ⊢
                simp only [List.length_drop] at h3
                simp only [fieldsF, List.length_append, be_length]
                rw [if_neg (by decide), if_neg (by decide), if_neg (by decide)]
                simp only [List.length_append, be_length]
                omega
theorem getS_enc : ∀ {l : List Sub} (p : Int), AllR l → ∃ tl, spl p (encS l) = .ok tl ∧ keep tl = l ∧ free tl = true
  | [], p, _ => ⟨[], spl_nil p, rfl, rfl⟩
  | y :: l, p, h => by
    have hy := h y (List.mem_cons_self ..)
    have h1 : (u8of y.type_).toNat = y.type_.toNat := by have := u8of_int y.type_; rw [if_pos (by omega)] at this; omega
    have h2 : (u8of (y.data.length : Int)).toNat = y.data.length := by have := u8of_int (y.data.length : Int); rw [if_pos (by omega)] at this; omega
    have h0 : u8of y.type_ ≠ 0 := fun e => by rw [e] at h1; simp at h1; omega
    obtain ⟨tl, e1, e2, e3⟩ := getS_enc (l := l) (p + 2 + y.data.length) (fun z hz => h z (List.mem_cons_of_mem _ hz))
    refine ⟨⟨y.type_, p, y.data⟩ :: tl, ?_, ?_, ?_⟩
    · rw [encS, spl_all h0 (by rw [h2]; simp), h2, h1]
      simp only [List.drop_left, List.take_left]
      rw [e1, show ((y.type_.toNat : Nat) : Int) = y.type_ by omega]; rfl
    · rw [keep, if_pos ⟨hy.1, hy.2.1⟩, e2]
    · rw [free_cons, e3, decide_eq_true hy.2.1]; rfl
theorem getS_encS {l : List Sub} (h : AllR l) (h2 : sumN l ≤ 200) : getS (encS l) = (l, true, 0) := by
  obtain ⟨tl, e1, e2, e3⟩ := getS_enc 0 h
  unfold getS
  rw [e1]
  dsimp only
  rw [e2, e3, endS, if_neg (by omega)]
theorem cutL {x y : Bs} {n : Int} (h : (x.length : Int) = n) : cut_ (x ++ y) 0 n = x := by
  unfold cut_
  rw [show ((0 : Int) + n).toNat = x.length by omega]
  simp
theorem cutR {x y : Bs} {k : Nat} {p n : Int} (h : x.length = k) (hp : (k : Int) ≤ p) (hn : 0 ≤ n) : cut_ (x ++ y) p n = cut_ y (p - k) n := by
  unfold cut_
  obtain ⟨a, rfl⟩ : ∃ a : Nat, p = k + a := ⟨(p - k).toNat, by omega⟩
  obtain ⟨b, rfl⟩ : ∃ b : Nat, n = b := ⟨n.toNat, by omega⟩
  rw [show ((k : Int) + (a : Int) + (b : Int)).toNat = k + (a + b) by omega, show ((k : Int) + (a : Int)).toNat = k + a by omega, show ((k : Int) + (a : Int) - (k : Int) + (b : Int)).toNat = a + b by omega, show ((k : Int) + (a : Int) - (k : Int)).toNat = a by omega, ← h, List.take_length_add_append, List.drop_length_add_append]
theorem num_be2 {n : Int} (h : 0 ≤ n ∧ n < 65536) : num (be 2 n) = n := num_be 2 n h.1 h.2
theorem fieldG_back {m : Msg} (r : FieldR m) : fieldG (m.kind - 5) (fieldsF m ++ encS m.subs) = (m, true, 0) := by
  obtain ⟨hr, hs⟩ := rightB_split r.subs
  have hg := getS_encS hr hs
  have hbare := r.bare
  have l2 : ∀ n, (be 2 n).length = 2 := be_length 2
  have cat : ∀ (a b : Int) (x : Bs), (be 2 a ++ (be 2 b ++ x)).drop 4 = x := fun a b x => by
    rw [← List.append_assoc, List.drop_left' (by simp [l2])]
  have fin : ∀ F : List Sub → Msg, F m.subs = m → finG F (getS (encS m.subs)) = (m, true, 0) := fun F h => by rw [hg]; show (F m.subs, true, 0) = _; rw [h]
  have eqm : ∀ x, bareOf m = some x → x = m := fun x h => by rw [bareB, h] at hbare; exact eqB_true.1 hbare
  rcases r.kinds with hk | hk | ⟨hk, hf⟩ | ⟨hk, ha⟩
  · have hx := eqm _ (by unfold bareOf; rw [if_neg (by omega), if_neg (by omega), if_neg (by omega), if_neg (by omega), if_neg (by omega), if_neg (by omega), if_pos hk])
    have ef : fieldsF m = be 2 0 ++ (be 2 m.nonce ++ be 2 m.interval) := by unfold fieldsF; rw [if_pos hk]
    rw [ef, hk]
    have el : (be 2 0 ++ (be 2 m.nonce ++ be 2 m.interval) ++ encS m.subs).length = 6 + (encS m.subs).length := by simp [l2]; omega
    have e1 : cut_ (be 2 0 ++ (be 2 m.nonce ++ be 2 m.interval) ++ encS m.subs) 2 2 = be 2 m.nonce := by
      rw [List.append_assoc, cutR (l2 _) (by omega) (by omega), List.append_assoc]; exact cutL (by simp [l2])
    have e2 : cut_ (be 2 0 ++ (be 2 m.nonce ++ be 2 m.interval) ++ encS m.subs) 4 2 = be 2 m.interval := by
      rw [List.append_assoc, cutR (l2 _) (by omega) (by omega), List.append_assoc, cutR (l2 _) (by omega) (by omega)]; exact cutL (by simp [l2])
    have e3 : (be 2 0 ++ (be 2 m.nonce ++ be 2 m.interval) ++ encS m.subs).drop 6 = encS m.subs := List.drop_left' (by simp [l2])
    unfold fieldG
    rw [if_pos (by omega), if_neg (by omega), e1, e2, e3, num_be2 r.nonce, num_be2 r.interval]
    refine fin _ ?_
    rw [hk] at hx
    exact hx
  · have hx := eqm _ (by unfold bareOf; rw [if_neg (by omega), if_neg (by omega), if_neg (by omega), if_neg (by omega), if_neg (by omega), if_neg (by omega), if_neg (by omega), if_pos hk])
    have ef : fieldsF m = be 2 m.nonce := by unfold fieldsF; rw [if_neg (by omega), if_pos hk]
    rw [ef, hk]
    have el : (be 2 m.nonce ++ encS m.subs).length = 2 + (encS m.subs).length := by simp [l2]
    have e1 : cut_ (be 2 m.nonce ++ encS m.subs) 0 2 = be 2 m.nonce := cutL (by simp [l2])
    have e3 : (be 2 m.nonce ++ encS m.subs).drop 2 = encS m.subs := List.drop_left' (by simp [l2])
    unfold fieldG
    rw [if_neg (by omega), if_pos (by omega), if_neg (by omega), e1, e3, num_be2 r.nonce]
    refine fin _ ?_
    rw [hk] at hx
    exact hx
  · have hx := eqm _ (by unfold bareOf; rw [if_neg (by omega), if_neg (by omega), if_neg (by omega), if_neg (by omega), if_neg (by omega), if_neg (by omega), if_neg (by omega), if_neg (by omega), if_pos hk])
    have ef : fieldsF m = be 2 (32768 * m.flags) ++ (be 2 m.seq ++ be 2 m.interval) := by unfold fieldsF; rw [if_neg (by omega), if_neg (by omega), if_pos hk]
    rw [ef, hk]
    have el : (be 2 (32768 * m.flags) ++ (be 2 m.seq ++ be 2 m.interval) ++ encS m.subs).length = 6 + (encS m.subs).length := by simp [l2]; omega
    have e0 : bt (be 2 (32768 * m.flags) ++ (be 2 m.seq ++ be 2 m.interval) ++ encS m.subs) 0 / 128 = m.flags := by
      rw [← bt_128 _ (by omega), List.append_assoc, cutL (by simp [l2]), num_be2 (by omega)]; omega
    have e1 : cut_ (be 2 (32768 * m.flags) ++ (be 2 m.seq ++ be 2 m.interval) ++ encS m.subs) 2 2 = be 2 m.seq := by
      rw [List.append_assoc, cutR (l2 _) (by omega) (by omega), List.append_assoc]; exact cutL (by simp [l2])
    have e2 : cut_ (be 2 (32768 * m.flags) ++ (be 2 m.seq ++ be 2 m.interval) ++ encS m.subs) 4 2 = be 2 m.interval := by
      rw [List.append_assoc, cutR (l2 _) (by omega) (by omega), List.append_assoc, cutR (l2 _) (by omega) (by omega)]; exact cutL (by simp [l2])
    have e3 : (be 2 (32768 * m.flags) ++ (be 2 m.seq ++ be 2 m.interval) ++ encS m.subs).drop 6 = encS m.subs := List.drop_left' (by simp [l2])
    unfold fieldG
    rw [if_neg (by omega), if_neg (by omega), if_pos (by omega), if_neg (by omega), e0, e1, e2, e3, num_be2 r.seq, num_be2 r.interval]
    refine fin _ ?_
    rw [hk] at hx
    exact hx
  · have hx := eqm _ (by unfold bareOf; rw [if_neg (by omega), if_neg (by omega), if_neg (by omega), if_neg (by omega), if_neg (by omega), if_neg (by omega), if_neg (by omega), if_neg (by omega), if_neg (by omega), if_pos hk])
    obtain ⟨A, hA⟩ : ∃ A, A = (if m.ae = 3 then m.addr.drop 8 else m.addr) := ⟨_, rfl⟩
    have hc := addrB_cases ha
    have hae : 0 ≤ m.ae ∧ m.ae ≤ 3 := by rcases hc with ⟨h, _⟩ | ⟨h, _⟩ | ⟨h, _⟩ | ⟨h, _⟩ <;> omega
    have ef : fieldsF m = be 2 (256 * m.ae) ++ (be 2 m.cost ++ (be 2 m.interval ++ A)) := by unfold fieldsF; rw [if_neg (by omega), if_neg (by omega), if_neg (by omega), hA]
    have hAl : (A.length : Int) = lenA m.ae ∧ (if m.ae = 3 then linkP ++ A else A) = m.addr := by
      rcases hc with ⟨h, h2⟩ | ⟨h, h2⟩ | ⟨h, h2⟩ | ⟨h, h2⟩
      · rw [h] at hA ⊢; rw [if_neg (by omega)] at hA ⊢; rw [hA, h2]; exact ⟨rfl, rfl⟩
      · rw [h] at hA ⊢; rw [if_neg (by omega)] at hA ⊢; rw [hA]; exact ⟨by rw [h2]; rfl, rfl⟩
      · rw [h] at hA ⊢; rw [if_neg (by omega)] at hA ⊢; rw [hA]; exact ⟨by rw [h2]; rfl, rfl⟩
      · rw [h] at hA ⊢; rw [if_pos rfl] at hA ⊢; rw [hA]; exact ⟨by rw [List.length_drop, (linkB_len h2).1]; rfl, link_parts h2⟩
    rw [ef, hk]
    have el : (be 2 (256 * m.ae) ++ (be 2 m.cost ++ (be 2 m.interval ++ A)) ++ encS m.subs).length = 6 + A.length + (encS m.subs).length := by simp [l2]; omega
    have e0 : bt (be 2 (256 * m.ae) ++ (be 2 m.cost ++ (be 2 m.interval ++ A)) ++ encS m.subs) 0 = m.ae := by
      rw [← bt_lt2 _ (by omega), List.append_assoc, cutL (by simp [l2]), num_be2 (by omega)]; omega
    have e1 : cut_ (be 2 (256 * m.ae) ++ (be 2 m.cost ++ (be 2 m.interval ++ A)) ++ encS m.subs) 2 2 = be 2 m.cost := by
      rw [List.append_assoc, cutR (l2 _) (by omega) (by omega), List.append_assoc]; exact cutL (by simp [l2])
    have e2 : cut_ (be 2 (256 * m.ae) ++ (be 2 m.cost ++ (be 2 m.interval ++ A)) ++ encS m.subs) 4 2 = be 2 m.interval := by
      rw [List.append_assoc, cutR (l2 _) (by omega) (by omega), List.append_assoc, cutR (l2 _) (by omega) (by omega), List.append_assoc]; exact cutL (by simp [l2])
    have e4 : cut_ (be 2 (256 * m.ae) ++ (be 2 m.cost ++ (be 2 m.interval ++ A)) ++ encS m.subs) 6 (lenA m.ae) = A := by
      rw [List.append_assoc, cutR (l2 _) (by omega) (by omega), List.append_assoc, cutR (l2 _) (by omega) (by omega), List.append_assoc, cutR (l2 _) (by omega) (by omega)]; exact cutL hAl.1
    have e3 : (be 2 (256 * m.ae) ++ (be 2 m.cost ++ (be 2 m.interval ++ A)) ++ encS m.subs).drop (6 + lenA m.ae).toNat = encS m.subs := List.drop_left' (by simp [l2]; omega)
    unfold fieldG
    rw [if_neg (by omega), if_neg (by omega), if_neg (by omega), if_neg (by omega), e0, if_neg (by omega), if_neg (by omega), e1, e2, e3, num_be2 r.cost, num_be2 r.interval]
    refine fin _ ?_
    have e5 : (if m.ae = 3 then linkP ++ cut_ (be 2 (256 * m.ae) ++ (be 2 m.cost ++ (be 2 m.interval ++ A)) ++ encS m.subs) 6 8 else cut_ (be 2 (256 * m.ae) ++ (be 2 m.cost ++ (be 2 m.interval ++ A)) ++ encS m.subs) 6 (lenA m.ae)) = m.addr := by
      rw [e4]
      by_cases h3 : m.ae = 3
      · have h8 : lenA m.ae = 8 := by rw [h3]; rfl
        rw [h8] at e4
        rw [if_pos h3, e4]
        have := hAl.2; rw [if_pos h3] at this; exact this
      · have := hAl.2; rw [if_neg h3] at this ⊢; exact this
    rw [e5]
    rw [hk] at hx
    exact hx
theorem FieldR.small {m : Msg} (r : FieldR m) : (fieldsF m).length ≤ 22 := by
  unfold fieldsF; split
  · simp [be_length]
  · split
    · simp [be_length]
    · split
      · simp [be_length]
      · rcases r.kinds with hk | hk | ⟨hk, _⟩ | ⟨hk, ha⟩ <;> first | omega | skip
        rcases addrB_cases ha with ⟨h, h2⟩ | ⟨h, h2⟩ | ⟨h, h2⟩ | ⟨h, h2⟩
        · simp [be_length, h, h2]
        · simp [be_length, h, h2]
        · simp [be_length, h, h2]
        · have := (linkB_len h2).1
          simp [be_length, h, this]
theorem fieldPut_ok {m : Msg} (r : FieldR m) : fieldPut m = (u8of (m.kind - 5) :: u8of (fieldsF m ++ encS m.subs).length :: (fieldsF m ++ encS m.subs), true) ∧ (fieldsF m ++ encS m.subs).length ≤ 255 ∧ 2 ≤ m.kind - 5 ∧ m.kind - 5 ≤ 5 := by
  have h1 := r.small
  have h2 := encS_small r.subs
  have hk : 2 ≤ m.kind - 5 ∧ m.kind - 5 ≤ 5 := by rcases r.kinds with h | h | ⟨h, _⟩ | ⟨h, _⟩ <;> omega
  have hl : (fieldsF m ++ encS m.subs).length ≤ 255 := by simp; omega
  refine ⟨?_, hl, hk⟩
  unfold fieldPut
  rw [if_pos (fieldR_iff.2 r), tput, if_pos ⟨by omega, by omega, hl⟩]
theorem spl_tput {t p : Int} {d : Bs} (ht : 1 ≤ t ∧ t ≤ 255) (hd : d.length ≤ 255) : spl p (u8of t :: u8of d.length :: d) = .ok [⟨t, p, d⟩] := by
  have h1 : (u8of t).toNat = t.toNat := by have := u8of_int t; rw [if_pos (by omega)] at this; omega
  have h2 : (u8of (d.length : Int)).toNat = d.length := by have := u8of_int (d.length : Int); rw [if_pos (by omega)] at this; omega
  have h0 : u8of t ≠ 0 := fun e => by rw [e] at h1; simp at h1; omega
  rw [spl_all h0 (by omega), h2, List.drop_length, spl_nil, List.take_length, h1]
  simp only [Except.map]
  rw [show ((t.toNat : Nat) : Int) = t by omega]
theorem getS_nil : getS [] = ([], true, 0) := by unfold getS; rw [spl_nil]; rfl
end Go.VP
set_option linter.unusedVariables false
set_option linter.unusedSimpArgs false
set_option maxRecDepth 100000
namespace Go.VP
open Go Go.VI
def szA (ae : Int) : Int := if ae = 0 then 0 else (if ae = 1 then 4 else (if ae = 2 then 16 else 16))
def baseA (ae : Int) : Int := if ae = 0 then 0 else (if ae = 1 then 0 else (if ae = 2 then 0 else 8))
def lowA (ae : Int) : Int := if ae = 0 then 0 else (if ae = 1 then 0 else (if ae = 2 then 0 else 64))
def highA (ae : Int) : Int := if ae = 0 then 0 else (if ae = 1 then 32 else (if ae = 2 then 128 else 128))
theorem ae_cases {ae : Int} (h : 0 ≤ ae ∧ ae < 4) : ae = 0 ∨ ae = 1 ∨ ae = 2 ∨ ae = 3 := by omega
def inB (ae : Int) (a : Bs) (plen : Int) : Bool := decide (0 ≤ ae ∧ ae < 4) && (decide ((a.length : Int) = szA ae) && (decide (lowA ae ≤ plen ∧ plen ≤ highA ae) && (cleanB a plen && (decide (ae ≠ 3) || linkB a))))
theorem in_is {ae plen : Int} {a : Bs} (ha : a.length ≤ 1000000000) (hp : IntKind.has .i64 plen) : g_route_In (ae, a, plen, ()) = some ((inB ae a plen, ()), ()) := by
  rw [g_route_In_eq, g_route_shapes_eq, Option.bind_some]
  dsimp only
  unfold inB
  by_cases h0 : ae < 0
  · rw [ifd h0, decide_eq_false (by omega)]; rfl
  by_cases h3 : 3 < ae
  · rw [ifn h0, ifd h3, decide_eq_false (by omega)]; rfl
  have hae : 0 ≤ ae ∧ ae < 4 := by omega
  rw [ifn h0, ifn h3, if_pos hae, decide_eq_true hae, Bool.true_and]
  change (if ((a.length : Int) == szA ae) = true then (if decide (lowA ae ≤ plen) = true then (if decide (plen ≤ highA ae) = true then _ else _) else _) else _) = _
  by_cases h1 : (a.length : Int) = szA ae
  · rw [if_pos (by simp [h1]), decide_eq_true h1, Bool.true_and]
    by_cases h2 : lowA ae ≤ plen
    · rw [ifd h2]
      by_cases h4 : plen ≤ highA ae
      · rw [ifd h4, decide_eq_true ⟨h2, h4⟩, Bool.true_and, clean_is ha hp, Option.bind_some, link_is]
        dsimp only
        cases cleanB a plen
        · rfl
        · rw [ift, Bool.true_and]
          by_cases h5 : ae = 3
          · rw [if_neg (by simp [h5])]; simp [h5]
          · rw [if_pos (by simp [h5])]; simp [h5]
      · rw [ifn h4, decide_eq_false (by omega)]; rfl
    · rw [ifn h2, decide_eq_false (by omega)]; rfl
  · rw [if_neg (by simp [h1]), decide_eq_false h1]; rfl
def kindR (m : Msg) : Bool := if m.kind = 12 then true else if m.kind = 13 then (decide (0 < m.ae) && (fitsB m.seq 2 && (decide (1 ≤ m.hops ∧ m.hops ≤ 255) && decide (m.id.length = 8)))) else false
noncomputable def routeB (m : Msg) : Bool := bareB m && (rightB m.subs && (inB m.ae m.prefix_ m.plen && kindR m))
theorem len8 (l : Bs) : ((l.length : Int) == 8) = decide (l.length = 8) := by rw [Bool.eq_iff_iff]; simp; omega
theorem rtright_is {m : Msg} (g : GoodM m) : g_route_Right (m, ()) = some ((routeB m, ()), ()) := by
  have h2 : g_octet_Fits (m.seq, 2, ()) = some ((fitsB m.seq 2, ()), ()) := fits_is (k := 2) g.seq (by omega) (by omega)
  have h1 : g_octet_Fits (m.hops, 1, ()) = some ((fitsB m.hops 1, ()), ()) := fits_is (k := 1) g.hops (by omega) (by omega)
  rw [g_route_Right_eq, bare_is, Option.bind_some, sright_is g.few.fewS, Option.bind_some, in_is (by have := g.few.pre; omega) g.plen, Option.bind_some, h1, h2]
  dsimp only
  unfold routeB
  cases bareB m
  · rfl
  rw [ifnt, Bool.true_and]
  cases rightB m.subs
  · rfl
  rw [ifnt, Bool.true_and]
  cases inB m.ae m.prefix_ m.plen
  · rfl
  rw [ifnt, Bool.true_and]
  unfold kindR
  refine bq_step (fun h => ?_) (fun h => ?_)
  · rw [if_pos h]
  rw [if_neg h]
  refine bq_step (fun h => ?_) (fun h => ?_)
  · rw [if_pos h, Option.bind_some, Option.bind_some, len8]
    by_cases ha : 0 < m.ae
    · rw [ifd ha, decide_eq_true ha, Bool.true_and]
      cases fitsB m.seq 2
      · rfl
      rw [ift, Bool.true_and]
      by_cases hh : 0 < m.hops
      · rw [ifd hh]
        have : fitsB m.hops 1 = decide (1 ≤ m.hops ∧ m.hops ≤ 255) := by unfold fitsB; rw [Bool.eq_iff_iff]; simp; omega
        rw [this]
        cases decide (1 ≤ m.hops ∧ m.hops ≤ 255) <;> rfl
      · rw [ifn hh, decide_eq_false (by omega)]; rfl
    · rw [ifn ha, decide_eq_false ha]; rfl
  rw [if_neg h]
structure RouteR (m : Msg) : Prop where
  bare : bareB m = true
  subs : rightB m.subs = true
  ae : 0 ≤ m.ae ∧ m.ae < 4
  len : (m.prefix_.length : Int) = szA m.ae
  plen : lowA m.ae ≤ m.plen ∧ m.plen ≤ highA m.ae
  clean : keepF m.prefix_ m.plen = m.prefix_
  link : m.ae = 3 → linkB m.prefix_ = true
  kind : kindR m = true
theorem inB_iff {ae plen : Int} {a : Bs} : inB ae a plen = true ↔ (0 ≤ ae ∧ ae < 4) ∧ (a.length : Int) = szA ae ∧ (lowA ae ≤ plen ∧ plen ≤ highA ae) ∧ keepF a plen = a ∧ (ae = 3 → linkB a = true) := by
  unfold inB cleanB
  simp only [Bool.and_eq_true, decide_eq_true_eq, beq_iff_eq, Bool.or_eq_true]
  constructor
  · rintro ⟨a, b, c, d, e⟩; exact ⟨a, b, c, d, fun h => e.resolve_left (fun h2 => h2 h)⟩
  · rintro ⟨a, b, c, d, e⟩; exact ⟨a, b, c, d, by by_cases h : ae = 3 <;> simp [h, e]⟩
theorem routeR_iff {m : Msg} : routeB m = true ↔ RouteR m := by
  unfold routeB
  simp only [Bool.and_eq_true, inB_iff]
  exact ⟨fun ⟨a, b, ⟨c, d, e, f, g⟩, h⟩ => ⟨a, b, c, d, e, f, g, h⟩, fun h => ⟨h.1, h.2, ⟨h.3, h.4, h.5, h.6, h.7⟩, h.8⟩⟩
theorem RouteR.kinds {m : Msg} (h : RouteR m) : m.kind = 12 ∨ (m.kind = 13 ∧ 0 < m.ae ∧ (0 ≤ m.seq ∧ m.seq < 65536) ∧ (1 ≤ m.hops ∧ m.hops ≤ 255) ∧ m.id.length = 8) := by
  have := h.kind
  unfold kindR at this
  split at this
  · exact .inl (by assumption)
  · split at this
    · simp only [Bool.and_eq_true, decide_eq_true_eq, fitsB2] at this
      exact .inr ⟨by assumption, this⟩
    · cases this
def bytesP (m : Msg) : Bs := (cutF m.prefix_ m.plen).drop (baseA m.ae).toNat
theorem cutF_length (a : Bs) (n : Int) : (cutF a n).length = min (leastF n).toNat a.length := by unfold cutF; rw [keepF_length, List.length_take]
theorem least_base {ae plen : Int} (hae : 0 ≤ ae ∧ ae < 4) (hp : lowA ae ≤ plen ∧ plen ≤ highA ae) : 0 ≤ baseA ae ∧ baseA ae ≤ leastF plen ∧ leastF plen ≤ szA ae ∧ 0 ≤ plen ∧ plen ≤ 128 ∧ szA ae ≤ 16 := by
  have h8 : leastF plen = if plen < 0 then 0 else (plen + 7) / 8 := rfl
  rcases ae_cases hae with rfl | rfl | rfl | rfl
  · have : 0 ≤ plen ∧ plen ≤ 0 := hp
    rw [h8]; show 0 ≤ (0 : Int) ∧ (0 : Int) ≤ _ ∧ _ ≤ (0 : Int) ∧ _ ∧ _ ∧ (0 : Int) ≤ 16; rw [if_neg (by omega)]; omega
  · have : 0 ≤ plen ∧ plen ≤ 32 := hp
    rw [h8]; show 0 ≤ (0 : Int) ∧ (0 : Int) ≤ _ ∧ _ ≤ (4 : Int) ∧ _ ∧ _ ∧ (4 : Int) ≤ 16; rw [if_neg (by omega)]; omega
  · have : 0 ≤ plen ∧ plen ≤ 128 := hp
    rw [h8]; show 0 ≤ (0 : Int) ∧ (0 : Int) ≤ _ ∧ _ ≤ (16 : Int) ∧ _ ∧ _ ∧ (16 : Int) ≤ 16; rw [if_neg (by omega)]; omega
  · have : 64 ≤ plen ∧ plen ≤ 128 := hp
    rw [h8]; show 0 ≤ (8 : Int) ∧ (8 : Int) ≤ _ ∧ _ ≤ (16 : Int) ∧ _ ∧ _ ∧ (16 : Int) ≤ 16; rw [if_neg (by omega)]; omega
theorem RouteR.cut {m : Msg} (h : RouteR m) : ((cutF m.prefix_ m.plen).length : Int) = leastF m.plen ∧ ((bytesP m).length : Int) = leastF m.plen - baseA m.ae := by
  obtain ⟨h1, h2, h3, h4, h5, h6⟩ := least_base h.ae h.plen
  have := h.len
  have hc : ((cutF m.prefix_ m.plen).length : Int) = leastF m.plen := by rw [cutF_length]; omega
  exact ⟨hc, by unfold bytesP; rw [List.length_drop]; omega⟩
def headF (m : Msg) : Bs := if m.kind = 13 then u8of m.ae :: u8of m.plen :: (be 2 m.seq ++ (u8of m.hops :: 0 :: (m.id ++ bytesP m))) else u8of m.ae :: u8of m.plen :: bytesP m
noncomputable def routePut (m : Msg) : Bs × Bool := if routeB m = true then tput (if m.kind = 13 then 10 else 9) (headF m ++ encS m.subs) else ([], false)
theorem u8w {n : Int} (h : 0 ≤ n) : u8of (IntKind.wrap .u8 n) = u8of n := by rw [wu8, u8of_emod' h]
theorem be2' {n : Int} (h : 0 ≤ n ∧ n < 65536) : be 2 n = [u8of (IntKind.wrap .u8 (ishr .i64 n 8)), u8of (IntKind.wrap .u8 n)] := (be2 h).symm
theorem rtput_is' {m : Msg} (g : GoodM m) : g_route_Put (m, ()) = some (((routePut m).1, (routePut m).2, ()), ()) := by
  rw [g_route_Put_eq, rtright_is g, Option.bind_some]
  unfold routePut
  dsimp only
  by_cases h : routeB m = true
  · have r := routeR_iff.1 h
    have hs := sput_is g.few.fewS (by have := g.few.subs; omega)
    rw [putS_r r.subs] at hs
    have hz := encS_small r.subs
    obtain ⟨c1, c2⟩ := r.cut
    obtain ⟨l1, l2, l3, l4, l5, l6⟩ := least_base r.ae r.plen
    have hcut := pcut_is (a := m.prefix_) (n := m.plen) (by have := g.few.pre; omega) g.plen (by omega)
    rw [if_neg (by simp [h]), if_pos h, hs, Option.bind_some, hcut, g_route_shapes_eq, u8w r.ae.1, u8w l4]
    simp only [Option.bind_some]
    have hd : ((cutF m.prefix_ m.plen).drop (baseA m.ae).toNat) = bytesP m := rfl
    have hae : 0 ≤ m.ae ∧ m.ae < 4 := r.ae
    rcases r.kinds with hk | ⟨hk, _, hq, hh, hi⟩
    · rw [if_neg (show ¬ (m.kind == 13) = true by simp [hk]), if_pos hae]
      change (if 0 ≤ baseA m.ae ∧ baseA m.ae ≤ ((cutF m.prefix_ m.plen).length : Int) then (if roomB ([u8of m.ae, u8of m.plen].length + (bytesP m).length) = true then (if maxB (([u8of m.ae, u8of m.plen] ++ bytesP m).length + (encS m.subs).length) = true then ((g_frame_Put (9, (([u8of m.ae, u8of m.plen] ++ bytesP m) ++ encS m.subs), ())).bind _) else none) else none) else none) = _
      rw [if_pos (by omega), if_pos (roomB_of (by simp; omega)), if_pos (maxB_of (by simp; omega)), tput_is, Option.bind_some, if_neg (show ¬ m.kind = 13 by omega)]
      unfold headF
      rw [if_neg (show ¬ m.kind = 13 by omega)]; rfl
    · rw [if_pos (show (m.kind == 13) = true by simp [hk]), if_pos (roomB_of (by simp)), if_pos (roomB_of (by simp; omega)), if_pos hae, u8w (n := m.hops) (by omega)]
      change (if 0 ≤ baseA m.ae ∧ baseA m.ae ≤ ((cutF m.prefix_ m.plen).length : Int) then (if roomB ((([u8of m.ae, u8of m.plen] ++ [u8of (IntKind.wrap .u8 (ishr .i64 m.seq 8)), u8of (IntKind.wrap .u8 m.seq), u8of m.hops, 0]) ++ m.id).length + (bytesP m).length) = true then (if maxB (((([u8of m.ae, u8of m.plen] ++ [u8of (IntKind.wrap .u8 (ishr .i64 m.seq 8)), u8of (IntKind.wrap .u8 m.seq), u8of m.hops, 0]) ++ m.id) ++ bytesP m).length + (encS m.subs).length) = true then ((g_frame_Put (10, (((([u8of m.ae, u8of m.plen] ++ [u8of (IntKind.wrap .u8 (ishr .i64 m.seq 8)), u8of (IntKind.wrap .u8 m.seq), u8of m.hops, 0]) ++ m.id) ++ bytesP m) ++ encS m.subs), ())).bind _) else none) else none) else none) = _
      rw [if_pos (by omega), if_pos (roomB_of (by simp; omega)), if_pos (maxB_of (by simp; omega)), tput_is, Option.bind_some, if_pos hk]
      unfold headF
      rw [if_pos hk, be2' hq]
      simp
  · rw [Bool.not_eq_true] at h
    rw [h, ifnf, iff_]
end Go.VP
set_option linter.unusedVariables false
set_option linter.unusedSimpArgs false
set_option maxRecDepth 100000
namespace Go.VP
open Go Go.VI
abbrev Raw := S_api_Raw
abbrev raw0 : Raw := ⟨0, 0, 0, 0, 0, 0, 0, 0, [], []⟩
def greatB (ae plen : Int) : Bool := !decide (lowA ae ≤ plen ∧ plen ≤ highA ae)
def restN (ae plen om : Int) : Int := leastF plen - baseA ae - om
def preF (d : Bs) (p ae plen om : Int) : Bs × Int := if greatB ae plen = true ∨ restN ae plen om < 0 then ([], 6) else if (d.length : Int) < p + restN ae plen om then ([], 2) else (cut_ d p (restN ae plen om), 0)
theorem baseA_rng (ae : Int) : 0 ≤ baseA ae ∧ baseA ae ≤ 8 := by unfold baseA; split <;> (try split) <;> (try split) <;> omega
def wholeF (ae : Int) (b : Bs) (plen : Int) : Bs := keepF (if ae = 3 then linkP ++ fillF b 8 else fillF b (szA ae)) plen
theorem fillF_length (s : Bs) (n : Int) : (fillF s n).length = max s.length n.toNat := by unfold fillF; simp; omega
def routeG (ty : Int) (d : Bs) : Msg × Bool × Int :=
  if (d.length : Int) < (if ty = 10 then 14 else 2) then (msg0, false, 2)
  else if 3 < bt d 0 then (msg0, false, 0)
  else
    let p : Int := if ty = 10 then 14 else 2
    let b := preF d p (bt d 0) (bt d 1) 0
    if b.2 ≠ 0 then (msg0, false, b.2)
    else
      let x := getS (d.drop (p + restN (bt d 0) (bt d 1) 0).toNat)
      if x.2.2 ≠ 0 ∨ x.2.1 = false then (msg0, false, x.2.2)
      else if ty = 10 then (if bt d 0 = 0 ∨ bt d 4 = 0 then (msg0, false, 0) else (⟨13, 0, 0, [], 0, bt d 0, wholeF (bt d 0) b.1 (bt d 1), bt d 1, 0, [], 0, cut_ d 6 8, num (cut_ d 2 2), 0, 0, 0, bt d 4, 0, 0, [], [], [], 0, [], x.1⟩, true, 0))
      else (⟨12, 0, 0, [], 0, bt d 0, wholeF (bt d 0) b.1 (bt d 1), bt d 1, 0, [], 0, [], 0, 0, 0, 0, 0, 0, 0, [], [], [], 0, [], x.1⟩, true, 0)
theorem restN_len {ae plen : Int} (hae : 0 ≤ ae ∧ ae < 4) (hg : greatB ae plen = false) : 0 ≤ restN ae plen 0 ∧ restN ae plen 0 ≤ 16 ∧ (ae = 0 → restN ae plen 0 = 0) ∧ (ae = 3 → restN ae plen 0 ≤ 8) ∧ (0 ≤ plen ∧ plen ≤ 128) := by
  unfold greatB at hg
  have hp : lowA ae ≤ plen ∧ plen ≤ highA ae := by simpa using hg
  obtain ⟨h1, h2, h3, h4, h5, h6⟩ := least_base hae hp
  unfold restN
  refine ⟨by omega, by omega, fun h => ?_, fun h => ?_, h4, h5⟩
  · subst h; have : szA 0 = 0 := rfl; omega
  · subst h; have : szA 3 = 16 := rfl; have : baseA 3 = 8 := rfl; omega
theorem preF_ok {d : Bs} {p ae plen : Int} (hae : 0 ≤ ae ∧ ae < 4) (h0 : 0 ≤ p) (h : (preF d p ae plen 0).2 = 0) : (preF d p ae plen 0).1 = cut_ d p (restN ae plen 0) ∧ greatB ae plen = false ∧ p + restN ae plen 0 ≤ d.length ∧ ((preF d p ae plen 0).1.length : Int) = restN ae plen 0 := by
  unfold preF at h ⊢
  split at h
  · cases h
  · rename_i hg
    have hg' : greatB ae plen = false := by
      cases hx : greatB ae plen with
      | false => rfl
      | true => exact absurd (.inl hx) hg
    have := restN_len hae hg'
    split at h
    · cases h
    · rename_i hl
      rw [if_neg hg, if_neg hl]
      exact ⟨rfl, hg', by omega, cut_length h0 (by omega) (by omega)⟩
theorem preF_fine {d : Bs} {p ae plen om : Int} (h : greatB ae plen = false) (h0 : 0 ≤ restN ae plen om) (h2 : ¬ (d.length : Int) < p + restN ae plen om) : preF d p ae plen om = (cut_ d p (restN ae plen om), 0) := by
  unfold preF; rw [h, if_neg (by simp; omega), if_neg h2]
end Go.VP
set_option linter.unusedVariables false
set_option linter.unusedSimpArgs false
set_option maxRecDepth 100000
namespace Go.VP
open Go Go.VI
def takeG (d : Bs) : Raw × Bool × Int :=
  if (d.length : Int) < 10 then (raw0, false, 2)
  else if 3 < bt d 0 then (raw0, false, 0)
  else
    let b := preF d 10 (bt d 0) (bt d 2) (bt d 3)
    if b.2 ≠ 0 then (raw0, false, b.2)
    else
      let x := getS (d.drop (10 + restN (bt d 0) (bt d 2) (bt d 3)).toNat)
      if x.2.2 ≠ 0 then (raw0, false, x.2.2)
      else (⟨bt d 0, bt d 1, bt d 2, bt d 3, num (cut_ d 4 2), num (cut_ d 6 2), num (cut_ d 8 2), if x.2.1 = true then 1 else 0, b.1, x.1⟩, true, 0)
end Go.VP
set_option linter.unusedVariables false
set_option linter.unusedSimpArgs false
set_option maxRecDepth 100000
namespace Go.VP
open Go Go.VI
theorem maskN_idem (b k : Nat) : maskN (maskN b k) k = maskN b k := by
  unfold maskN; rw [Nat.mul_div_cancel _ (Nat.pow_pos (by decide))]
theorem maskB_idem (b : UInt8) (k : Int) : maskB (maskB b k) k = maskB b k := by
  apply UInt8.toNat.inj; rw [maskB_toNat, maskB_toNat, maskN_idem]
theorem keepF_idem : ∀ (s : Bs) (n : Int), keepF (keepF s n) n = keepF s n
  | [], _ => rfl
  | b :: r, n => by simp only [keepF, maskB_idem, keepF_idem r]
theorem linkP_len : linkP.length = 8 := rfl
theorem keep_link {x : Bs} {n : Int} (h : 64 ≤ n) (hx : x.length = 8) : linkB (keepF (linkP ++ x) n) = true := by
  rw [keepF_append, keepF_all (s := linkP) (by rw [linkP_len]; omega)]
  exact link_long (by rw [keepF_length]; exact hx)
theorem wholeF_len {ae plen : Int} {b : Bs} (hae : 0 ≤ ae ∧ ae < 4) (hb : (b.length : Int) ≤ szA ae - baseA ae) : ((wholeF ae b plen).length : Int) = szA ae := by
  unfold wholeF
  rw [keepF_length]
  rcases ae_cases hae with rfl | rfl | rfl | rfl
  · have : (b.length : Int) ≤ 0 - 0 := hb
    rw [if_neg (by decide), fillF_length]; show ((max b.length (0 : Int).toNat : Nat) : Int) = 0; omega
  · have : (b.length : Int) ≤ 4 - 0 := hb
    rw [if_neg (by decide), fillF_length]; show ((max b.length (4 : Int).toNat : Nat) : Int) = 4; omega
  · have : (b.length : Int) ≤ 16 - 0 := hb
    rw [if_neg (by decide), fillF_length]; show ((max b.length (16 : Int).toNat : Nat) : Int) = 16; omega
  · have : (b.length : Int) ≤ 16 - 8 := hb
    rw [if_pos rfl, List.length_append, fillF_length, linkP_len]; show ((8 + max b.length (8 : Int).toNat : Nat) : Int) = 16; omega
theorem wholeF_link {plen : Int} {b : Bs} (h : 64 ≤ plen) (hb : b.length ≤ 8) : linkB (wholeF 3 b plen) = true := by
  unfold wholeF
  rw [if_pos rfl]
  exact keep_link h (by rw [fillF_length]; show max b.length 8 = 8; omega)
theorem clean_parts {a : Bs} {n : Int} (h : keepF a n = a) (h0 : 0 ≤ n) : a = a.take (leastF n).toNat ++ List.replicate (a.length - (leastF n).toNat) 0 ∧ cutF a n = a.take (leastF n).toNat := by
  have hl : 8 * leastF n ≥ n := by unfold leastF; rw [if_neg (by omega)]; omega
  have hn := leastF_nn n
  have e1 : keepF (a.take (leastF n).toNat) n = a.take (leastF n).toNat := by rw [← keepF_take, h]
  refine ⟨?_, e1⟩
  by_cases hs : (leastF n).toNat ≤ a.length
  · have e2 : keepF (a.drop (leastF n).toNat) (n - 8 * (a.take (leastF n).toNat).length) = a.drop (leastF n).toNat := by
      have := h
      conv at this => lhs; rw [← List.take_append_drop (leastF n).toNat a]
      rw [keepF_append, e1] at this
      conv at this => rhs; rw [← List.take_append_drop (leastF n).toNat a]
      exact List.append_cancel_left this
    rw [keepF_none (by rw [List.length_take]; omega), List.length_drop] at e2
    conv => lhs; rw [← List.take_append_drop (leastF n).toNat a, ← e2]
  · rw [List.take_of_length_le (by omega), show a.length - (leastF n).toNat = 0 by omega]; simp
theorem wholeF_back {m : Msg} (r : RouteR m) : wholeF m.ae (bytesP m) m.plen = m.prefix_ := by
  obtain ⟨l1, l2, l3, l4, l5, l6⟩ := least_base r.ae r.plen
  obtain ⟨p1, p2⟩ := clean_parts r.clean l4
  have hlen := r.len
  have key : (if m.ae = 3 then linkP ++ fillF (bytesP m) 8 else fillF (bytesP m) (szA m.ae)) = m.prefix_ := by
    unfold bytesP
    rw [p2]
    by_cases h3 : m.ae = 3
    · have hb := r.link h3
      have h16 := linkB_len hb
      have e8 : baseA m.ae = 8 := by rw [h3]; rfl
      rw [e8] at l2
      rw [if_pos h3, e8, ← h16.2]
      have tl : (m.prefix_.take (leastF m.plen).toNat).length = (leastF m.plen).toNat := by rw [List.length_take]; omega
      have e1 : m.prefix_.take 8 = (m.prefix_.take (leastF m.plen).toNat).take 8 := by rw [List.take_take]; congr 1; omega
      unfold fillF
      rw [e1, ← List.append_assoc]
      show List.take 8 (m.prefix_.take (leastF m.plen).toNat) ++ List.drop 8 (m.prefix_.take (leastF m.plen).toNat) ++ List.replicate ((8 : Int).toNat - (List.drop 8 (m.prefix_.take (leastF m.plen).toNat)).length) 0 = _
      rw [List.take_append_drop, List.length_drop, tl]
      conv => rhs; rw [p1]
      congr 2
      rw [h16.1]
      show 8 - ((leastF m.plen).toNat - 8) = 16 - (leastF m.plen).toNat
      omega
    · have e0 : baseA m.ae = 0 := by
        rcases ae_cases r.ae with h | h | h | h
        · rw [h]; rfl
        · rw [h]; rfl
        · rw [h]; rfl
        · exact absurd h h3
      rw [if_neg h3, e0]
      unfold fillF
      have tl : (m.prefix_.take (leastF m.plen).toNat).length = (leastF m.plen).toNat := by rw [List.length_take]; omega
      show List.drop 0 (m.prefix_.take (leastF m.plen).toNat) ++ List.replicate ((szA m.ae).toNat - (List.drop 0 (m.prefix_.take (leastF m.plen).toNat)).length) 0 = _
      rw [List.drop_zero, tl]
      conv => rhs; rw [p1]
      congr 2
      omega
  unfold wholeF
  rw [key, r.clean]
theorem rest_eq {m : Msg} (r : RouteR m) : greatB m.ae m.plen = false ∧ restN m.ae m.plen 0 = (bytesP m).length := by
  have := r.cut.2
  refine ⟨by unfold greatB; rw [decide_eq_true r.plen]; rfl, ?_⟩
  unfold restN; omega
theorem routeG_back {m : Msg} (r : RouteR m) : routeG (if m.kind = 13 then 10 else 9) (headF m ++ encS m.subs) = (m, true, 0) := by
  obtain ⟨hr, hs⟩ := rightB_split r.subs
  have hg := getS_encS hr hs
  have hbare := r.bare
  obtain ⟨l1, l2, l3, l4, l5, l6⟩ := least_base r.ae r.plen
  obtain ⟨q1, q2⟩ := rest_eq r
  have eqm : ∀ x, bareOf m = some x → x = m := fun x h => by rw [bareB, h] at hbare; exact eqB_true.1 hbare
  have uA : ((u8of m.ae).toNat : Int) = m.ae := by rw [u8of_int, if_pos r.ae.1]; have := r.ae; omega
  have uP : ((u8of m.plen).toNat : Int) = m.plen := by rw [u8of_int, if_pos l4]; omega
  rcases r.kinds with hk | ⟨hk, ha, hq, hh, hi⟩
  · have hx := eqm _ (by unfold bareOf; rw [if_neg (by omega), if_neg (by omega), if_neg (by omega), if_neg (by omega), if_neg (by omega), if_neg (by omega), if_neg (by omega), if_neg (by omega), if_neg (by omega), if_neg (by omega), if_neg (by omega), if_pos hk])
    have eh : headF m = u8of m.ae :: u8of m.plen :: bytesP m := by unfold headF; rw [if_neg (by omega)]
    rw [if_neg (show ¬ m.kind = 13 by omega), eh]
    generalize hD : (u8of m.ae :: u8of m.plen :: bytesP m) ++ encS m.subs = D
    have hlen : D.length = 2 + (bytesP m).length + (encS m.subs).length := by rw [← hD]; simp; omega
    have t0 : bt D 0 = m.ae := by rw [← hD]; exact uA
    have t1 : bt D 1 = m.plen := by rw [← hD]; exact uP
    have hp : preF D 2 m.ae m.plen 0 = (bytesP m, 0) := by
      rw [preF_fine q1 (by omega) (by omega), q2]
      have : cut_ D 2 ((bytesP m).length : Int) = bytesP m := by
        rw [← hD]
        show cut_ ([u8of m.ae, u8of m.plen] ++ (bytesP m ++ encS m.subs)) 2 _ = _
        rw [cutR (k := 2) rfl (by omega) (by omega)]
        exact cutL rfl
      rw [this]
    have hdr : D.drop (2 + restN m.ae m.plen 0).toNat = encS m.subs := by
      rw [← hD, q2]
      exact List.drop_left' (by simp; omega)
    unfold routeG
    rw [if_neg (show ¬ (9 : Int) = 10 by decide), if_neg (by omega), t0, t1, if_neg (by have := r.ae; omega)]
    dsimp only
    rw [hp, hdr, hg]
    dsimp only
    rw [if_neg (show ¬ (0 : Int) ≠ 0 by decide), if_neg (show ¬ ((0 : Int) ≠ 0 ∨ true = false) by decide), if_neg (show ¬ (9 : Int) = 10 by decide), wholeF_back r]
    rw [hk] at hx
    rw [hx]
  · have hx := eqm _ (by unfold bareOf; rw [if_neg (by omega), if_neg (by omega), if_neg (by omega), if_neg (by omega), if_neg (by omega), if_neg (by omega), if_neg (by omega), if_neg (by omega), if_neg (by omega), if_neg (by omega), if_neg (by omega), if_neg (by omega), if_pos hk])
    have uH : ((u8of m.hops).toNat : Int) = m.hops := by rw [u8of_int, if_pos (by omega)]; omega
    have eh : headF m = u8of m.ae :: u8of m.plen :: (be 2 m.seq ++ (u8of m.hops :: 0 :: (m.id ++ bytesP m))) := by unfold headF; rw [if_pos hk]
    rw [if_pos hk, eh]
    generalize hD : (u8of m.ae :: u8of m.plen :: (be 2 m.seq ++ (u8of m.hops :: 0 :: (m.id ++ bytesP m)))) ++ encS m.subs = D
    have hlen : D.length = 14 + (bytesP m).length + (encS m.subs).length := by rw [← hD]; simp [be_length]; omega
    have t0 : bt D 0 = m.ae := by rw [← hD]; exact uA
    have t1 : bt D 1 = m.plen := by rw [← hD]; exact uP
    have t4 : bt D 4 = m.hops := by rw [← hD]; exact uH
    have e6 : D = [u8of m.ae, u8of m.plen] ++ (be 2 m.seq ++ ([u8of m.hops, 0] ++ (m.id ++ (bytesP m ++ encS m.subs)))) := by rw [← hD]; simp
    have cs : cut_ D 2 2 = be 2 m.seq := by
      rw [e6, cutR (k := 2) rfl (by omega) (by omega)]; exact cutL rfl
    have ci : cut_ D 6 8 = m.id := by
      rw [e6, cutR (k := 2) rfl (by omega) (by omega), cutR (k := 2) rfl (by omega) (by omega), cutR (k := 2) rfl (by omega) (by omega)]; exact cutL (by omega)
    have hp : preF D 14 m.ae m.plen 0 = (bytesP m, 0) := by
      rw [preF_fine q1 (by omega) (by omega), q2]
      have : cut_ D 14 ((bytesP m).length : Int) = bytesP m := by
        rw [e6, cutR (k := 2) rfl (by omega) (by omega), cutR (k := 2) rfl (by omega) (by omega), cutR (k := 2) rfl (by omega) (by omega), cutR (k := 8) hi (by omega) (by omega)]; exact cutL rfl
      rw [this]
    have hdr : D.drop (14 + restN m.ae m.plen 0).toNat = encS m.subs := by
      rw [← hD, q2]
      exact List.drop_left' (by simp [be_length]; omega)
    unfold routeG
    rw [if_pos (show (10 : Int) = 10 from rfl), if_neg (by omega), t0, t1, t4, if_neg (by have := r.ae; omega)]
    dsimp only
    rw [hp, hdr, hg, cs, ci, num_be2 hq]
    dsimp only
    rw [if_neg (show ¬ (0 : Int) ≠ 0 by decide), if_neg (show ¬ ((0 : Int) ≠ 0 ∨ true = false) by decide), if_pos (show (10 : Int) = 10 from rfl), if_neg (show ¬ (m.ae = 0 ∨ m.hops = 0) by omega), wholeF_back r]
    rw [hk] at hx
    rw [hx]
theorem routeG_cases {ty : Int} {d : Bs} (ht : ty = 9 ∨ ty = 10) (hd : d.length ≤ 300) :
    (∃ m, routeG ty d = (m, true, 0) ∧ RouteR m ∧ GoodM m ∧ (headF m ++ encS m.subs).length ≤ d.length ∧ m.kind = ty + 3) ∨ (∃ e, routeG ty d = (msg0, false, e)) := by
  have b0 := bt_rng d 0
  have b1 := bt_rng d 1
  have b4 := bt_rng d 4
  unfold routeG
  by_cases hl : (d.length : Int) < (if ty = 10 then 14 else 2)
  · rw [if_pos hl]; exact .inr ⟨_, rfl⟩
  rw [if_neg hl]
  by_cases ha : 3 < bt d 0
  · rw [if_pos ha]; exact .inr ⟨_, rfl⟩
  rw [if_neg ha]
  have hae : 0 ≤ bt d 0 ∧ bt d 0 < 4 := by omega
  dsimp only
  have hp0 : (0 : Int) ≤ (if ty = 10 then 14 else 2) ∧ (if ty = 10 then (14 : Int) else 2) ≤ 14 := by split <;> omega
  generalize hP : (if ty = 10 then (14 : Int) else 2) = P at *
  by_cases hb : (preF d P (bt d 0) (bt d 1) 0).2 ≠ 0
  · rw [if_pos hb]; exact .inr ⟨_, rfl⟩
  rw [if_neg hb]
  have hb : (preF d P (bt d 0) (bt d 1) 0).2 = 0 := by simpa using hb
  obtain ⟨f1, f2, f3, f4⟩ := preF_ok hae hp0.1 hb
  have f5 := restN_len hae f2
  have hpl : lowA (bt d 0) ≤ bt d 1 ∧ bt d 1 ≤ highA (bt d 0) := by unfold greatB at f2; simpa using f2
  obtain ⟨l1, l2, l3, l4, l5, l6⟩ := least_base hae hpl
  have hrn : restN (bt d 0) (bt d 1) 0 = leastF (bt d 1) - baseA (bt d 0) := by unfold restN; omega
  rcases getS_cases (d.drop (P + restN (bt d 0) (bt d 1) 0).toNat) with ⟨l, hg, hA, hS, hL, hN⟩ | ⟨l, hg⟩ | ⟨e, hg, _⟩
  · rw [hg]
    dsimp only
    rw [if_neg (show ¬ ((0 : Int) ≠ 0 ∨ true = false) by decide)]
    have wl := wholeF_len (plen := bt d 1) (b := (preF d P (bt d 0) (bt d 1) 0).1) hae (by omega)
    have wc : keepF (wholeF (bt d 0) (preF d P (bt d 0) (bt d 1) 0).1 (bt d 1)) (bt d 1) = wholeF (bt d 0) (preF d P (bt d 0) (bt d 1) 0).1 (bt d 1) := keepF_idem _ _
    have wk : bt d 0 = 3 → linkB (wholeF (bt d 0) (preF d P (bt d 0) (bt d 1) 0).1 (bt d 1)) = true := fun h => by
      rw [h] at hpl ⊢
      have h8 := f5.2.2.2.1 h
      rw [h] at f4 h8
      exact wholeF_link hpl.1 (by omega)
    have bare : ∀ m : Msg, bareOf m = some m → bareB m = true := fun m h => by rw [bareB, h]; exact eqB_refl m
    have sub2 := sub_len (l := l)
    have hle := encS_length l
    have n1000 : ([] : List Dest).length ≤ 1000 := by decide
    have e0 : ([] : Bs).length ≤ 400 := by decide
    have has0 : IntKind.has .i64 0 := has64.2 (by omega)
    have drl : ((d.drop (P + restN (bt d 0) (bt d 1) 0).toNat).length : Int) = d.length - (P + restN (bt d 0) (bt d 1) 0) := by rw [List.length_drop]; omega
    rcases ht with rfl | rfl
    · rw [if_neg (show ¬ (9 : Int) = 10 by decide)] at hP ⊢
      subst hP
      have r : RouteR ⟨12, 0, 0, [], 0, bt d 0, wholeF (bt d 0) (preF d 2 (bt d 0) (bt d 1) 0).1 (bt d 1), bt d 1, 0, [], 0, [], 0, 0, 0, 0, 0, 0, 0, [], [], [], 0, [], l⟩ := ⟨bare _ rfl, rightB_of hA hS, hae, wl, hpl, wc, wk, rfl⟩
      refine .inl ⟨_, rfl, r, ⟨⟨n1000, by dsimp only; omega, e0, by dsimp only; omega, e0, e0, e0, e0, e0, (fun d h => by cases h), hA.few⟩, has0, has0, has0, has0, has64.2 (by dsimp only; omega), has0, has64.2 (by dsimp only; omega), has64.2 (by dsimp only; omega), has0⟩, ?_, rfl⟩
      have hc := r.cut.2
      dsimp only at hc ⊢
      unfold headF
      rw [if_neg (show ¬ (12 : Int) = 13 by decide)]
      simp only [List.length_append, List.length_cons]
      omega
    · rw [if_pos (show (10 : Int) = 10 from rfl)] at hP ⊢
      subst hP
      split
      · exact .inr ⟨_, rfl⟩
      · rename_i h04
        have hq := num_cut_rng (d := d) (p := 2) (by omega) (by omega)
        have hi := cut_length (s := d) (p := 6) (n := 8) (by omega) (by omega) (by omega)
        have kr : kindR ⟨13, 0, 0, [], 0, bt d 0, wholeF (bt d 0) (preF d 14 (bt d 0) (bt d 1) 0).1 (bt d 1), bt d 1, 0, [], 0, cut_ d 6 8, num (cut_ d 2 2), 0, 0, 0, bt d 4, 0, 0, [], [], [], 0, [], l⟩ = true := by
          unfold kindR
          rw [if_neg (show ¬ (13 : Int) = 12 by decide), if_pos rfl]
          simp only [Bool.and_eq_true, decide_eq_true_eq, fitsB2]
          exact ⟨by omega, hq, by omega, by omega⟩
        have r : RouteR ⟨13, 0, 0, [], 0, bt d 0, wholeF (bt d 0) (preF d 14 (bt d 0) (bt d 1) 0).1 (bt d 1), bt d 1, 0, [], 0, cut_ d 6 8, num (cut_ d 2 2), 0, 0, 0, bt d 4, 0, 0, [], [], [], 0, [], l⟩ := ⟨bare _ rfl, rightB_of hA hS, hae, wl, hpl, wc, wk, kr⟩
        refine .inl ⟨_, rfl, r, ⟨⟨n1000, by dsimp only; omega, e0, by dsimp only; omega, e0, by dsimp only; omega, e0, e0, e0, (fun d h => by cases h), hA.few⟩, has0, has0, has64.2 (by dsimp only; omega), has0, has64.2 (by dsimp only; omega), has0, has64.2 (by dsimp only; omega), has64.2 (by dsimp only; omega), has64.2 (by dsimp only; omega)⟩, ?_, rfl⟩
        have hc := r.cut.2
        dsimp only at hc ⊢
        unfold headF
        rw [if_pos rfl]
        simp only [List.length_append, List.length_cons, be_length]
        omega
  · rw [hg]; exact .inr ⟨0, rfl⟩
  · rw [hg]
    refine .inr ⟨e, ?_⟩
    dsimp only
    rw [if_pos (.inr rfl)]
theorem headF_small {m : Msg} (r : RouteR m) : (headF m).length ≤ 30 := by
  obtain ⟨l1, l2, l3, l4, l5, l6⟩ := least_base r.ae r.plen
  have := r.cut.2
  unfold headF
  rcases r.kinds with hk | ⟨hk, _, _, _, hi⟩
  · rw [if_neg (by omega)]; simp only [List.length_cons]; omega
  · rw [if_pos hk]; simp only [List.length_cons, List.length_append, be_length]; omega
theorem routePut_ok {m : Msg} (r : RouteR m) : routePut m = (u8of (if m.kind = 13 then 10 else 9) :: u8of (headF m ++ encS m.subs).length :: (headF m ++ encS m.subs), true) ∧ (headF m ++ encS m.subs).length ≤ 255 := by
  have h1 := headF_small r
  have h2 := encS_small r.subs
  have hl : (headF m ++ encS m.subs).length ≤ 255 := by simp only [List.length_append]; omega
  refine ⟨?_, hl⟩
  unfold routePut
  have ht : 1 ≤ (if m.kind = 13 then (10 : Int) else 9) ∧ (if m.kind = 13 then (10 : Int) else 9) ≤ 255 := by split <;> omega
  rw [if_pos (routeR_iff.2 r), tput, if_pos ⟨ht.1, ht.2, hl⟩]
end Go.VP
set_option linter.unusedVariables false
set_option linter.unusedSimpArgs false
set_option maxRecDepth 100000
namespace Go.VP
open Go Go.VI
abbrev Ctx := S_api_Ctx
def famE (ae : Int) : Int := if ae = 1 then 0 else if ae = 2 then 1 else if ae = 3 then 1 else -1
theorem cfam_is (ae : Int) : g_ctx_Family (ae, ()) = some ((famE ae, ()), ()) := by
  rw [g_ctx_Family_eq]; unfold famE
  by_cases h1 : ae = 1
  · rw [if_pos (by simp [h1]), if_pos h1]
  rw [if_neg (by simp [h1]), if_neg h1]
  by_cases h2 : ae = 2
  · rw [if_pos (by simp [h2]), if_pos (by simp [h2]), if_pos h2]
  rw [if_neg (by simp [h2]), if_neg h2]
  by_cases h3 : ae = 3
  · rw [if_pos (by simp [h3]), if_pos h3]
  · rw [if_neg (by simp [h3]), if_neg h3]
theorem famE_rng {ae : Int} (h : 1 ≤ ae ∧ ae ≤ 3) : 0 ≤ famE ae ∧ famE ae < 2 := by
  unfold famE; split
  · omega
  split
  · omega
  split <;> omega
theorem getS_known {s : Bs} (h : (getS s).2.1 = true) : (getS s).2.2 = 0 := by
  unfold getS at h ⊢
  split at h
  · rename_i l e
    unfold endS at h ⊢
    split at h
    · cases h
    · rename_i h0; rw [if_neg h0]
  · cases h
def countF (d : Bs) (n : Int) : Bool × Int := if (d.length : Int) < n then (false, 2) else ((getS (d.drop n.toNat)).2.1, (getS (d.drop n.toNat)).2.2)
theorem countF_known {d : Bs} {n : Int} (h : (countF d n).1 = true) : (countF d n).2 = 0 ∧ n ≤ d.length := by
  unfold countF at h ⊢
  split at h
  · cases h
  · rename_i h0; rw [if_neg h0]; exact ⟨getS_known h, by omega⟩
def setId (c : Ctx) (i : Bs) : Ctx := ⟨c.prefix_c0, c.prefix_c1, c.prefix_c2, c.prefix_c3, c.next_c0, c.next_c1, i⟩
def setN (c : Ctx) (k : Int) (a : Bs) : Ctx := ⟨c.prefix_c0, c.prefix_c1, c.prefix_c2, c.prefix_c3, (if k = 0 then a else c.next_c0), (if k = 1 then a else c.next_c1), c.id⟩
def idF (c : Ctx) (d : Bs) : Ctx × Int := if (countF d 10).1 = true then (setId c (cut_ d 2 8), 0) else (c, (countF d 10).2)
def hopN (ae : Int) : Int := if ae = 0 then (0 : Int) else (if ae = 1 then (4 : Int) else (if ae = 2 then (16 : Int) else (8 : Int)))
theorem hopN_rng (ae : Int) : 0 ≤ hopN ae ∧ hopN ae ≤ 16 := by
  unfold hopN; split
  · omega
  split
  · omega
  split <;> omega
def hopA (d : Bs) : Bs := if bt d 0 = 3 then (longF (cut_ d 2 (hopN (bt d 0)))).1 else cut_ d 2 (hopN (bt d 0))
def hopF (c : Ctx) (d : Bs) : Ctx × Int :=
  if (d.length : Int) < 2 then (c, 2) else if bt d 0 < 1 ∨ 3 < bt d 0 then (c, 0)
  else if (countF d (2 + hopN (bt d 0))).1 = true then (setN c (famE (bt d 0)) (hopA d), 0)
  else (c, (countF d (2 + hopN (bt d 0))).2)
end Go.VP
set_option linter.unusedVariables false
set_option linter.unusedSimpArgs false
set_option maxRecDepth 100000
namespace Go.VP
open Go Go.VI
theorem dq_step' {R : Type} {p : Prop} [Decidable p] {t f r : R} (h : p → t = r) (h' : ¬ p → f = r) : (if decide p = true then t else f) = r := by
  by_cases hp : p
  · rw [ifd hp]; exact h hp
  · rw [ifn hp]; exact h' hp
theorem be_step {R : Type} {x y : Bs} {f t r : R} (heq : x = y → t = r) (hne : x ≠ y → f = r) : (if (x == y) = true then t else f) = r := by
  by_cases h : x = y
  · rw [if_pos (by simp [h])]; exact heq h
  · rw [if_neg (by simpa using h)]; exact hne h
def okC (c : Ctx) : Prop := c.prefix_c0 = [] ∧ (c.prefix_c1 = [] ∨ c.prefix_c1.length = 4) ∧ (c.prefix_c2 = [] ∨ c.prefix_c2.length = 16) ∧ (c.prefix_c3 = [] ∨ linkB c.prefix_c3 = true) ∧ (c.next_c0 = [] ∨ c.next_c0.length = 4) ∧ (c.next_c1 = [] ∨ c.next_c1.length = 16) ∧ (c.id = [] ∨ c.id.length = 8)
structure RawOk (r : Raw) : Prop where
  ae : 0 ≤ r.ae ∧ r.ae < 4
  om : 0 ≤ r.omitted
  plen : 0 ≤ r.plen ∧ r.plen ≤ 128
  len : r.omitted + r.bytes.length ≤ szA r.ae - baseA r.ae
  flags : 0 ≤ r.flags ∧ r.flags ≤ 255
  metric : 0 ≤ r.metric ∧ r.metric ≤ 65535
  have_ : r.have_ = 0 ∨ r.have_ = 1
  low : lowA r.ae ≤ r.plen
def preC (c : Ctx) (ae : Int) : Bs := if ae = 0 then c.prefix_c0 else (if ae = 1 then c.prefix_c1 else (if ae = 2 then c.prefix_c2 else c.prefix_c3))
theorem preC_len {c : Ctx} (h : okC c) {ae : Int} (ha : 0 ≤ ae ∧ ae < 4) (hn : preC c ae ≠ []) : ((preC c ae).length : Int) = szA ae := by
  obtain ⟨h0, h1, h2, h3, _⟩ := h
  rcases ae_cases ha with rfl | rfl | rfl | rfl
  · exact absurd h0 hn
  · rcases h1 with e | e
    · exact absurd e hn
    · show (c.prefix_c1.length : Int) = 4; omega
  · rcases h2 with e | e
    · exact absurd e hn
    · show (c.prefix_c2.length : Int) = 16; omega
  · rcases h3 with e | e
    · exact absurd e hn
    · have := (linkB_len e).1; show (c.prefix_c3.length : Int) = 16; omega
def addrF (c : Ctx) (r : Raw) : Bs × Bool :=
  if r.omitted = 0 then (wholeF r.ae r.bytes r.plen, true)
  else if preC c r.ae = [] then ([], false)
  else (wholeF r.ae (cut_ (preC c r.ae) (baseA r.ae) r.omitted ++ r.bytes) r.plen, true)
def flagsF (c : Ctx) (r : Raw) (a : Bs) : Ctx :=
  if r.ae = 0 then c else
    let i := if r.flags / 64 % 2 = 1 then (z4' ++ a).drop (a.length - 4) else c.id
    if 128 ≤ r.flags then ⟨(if r.ae = 0 then a else c.prefix_c0), (if r.ae = 1 then a else c.prefix_c1), (if r.ae = 2 then a else c.prefix_c2), (if r.ae = 3 then a else c.prefix_c3), c.next_c0, c.next_c1, i⟩ else setId c i
  where z4' : Bs := [0, 0, 0, 0]
def toldB (c : Ctx) (r : Raw) : Bool := decide (r.have_ = 1) && (decide (r.metric = 65535) || (decide (0 < r.ae) && !(c.id == [])))
end Go.VP
set_option linter.unusedVariables false
set_option linter.unusedSimpArgs false
set_option maxRecDepth 100000
namespace Go.VP
open Go Go.VI
theorem takeG_raw {d : Bs} (h : (takeG d).2.1 = true) : RawOk (takeG d).1 ∧ (takeG d).2.2 = 0 := by
  have b0 := bt_rng d 0
  have b1 := bt_rng d 1
  have b2 := bt_rng d 2
  have b3 := bt_rng d 3
  unfold takeG at h ⊢
  split at h
  · cases h
  rename_i h1
  split at h
  · cases h
  rename_i h2
  rw [if_neg h1, if_neg h2]
  dsimp only at h ⊢
  split at h
  · cases h
  rename_i h3
  split at h
  · cases h
  rename_i h4
  rw [if_neg h3, if_neg h4]
  have h3 : (preF d 10 (bt d 0) (bt d 2) (bt d 3)).2 = 0 := by simpa using h3
  have n8 := num_rng (cut_ d 8 2)
  have l8 : ((cut_ d 8 2).length : Int) = 2 := cut_length (by omega) (by omega) (by omega)
  have l8' : (cut_ d 8 2).length = 2 := by omega
  rw [l8'] at n8
  unfold preF at h3 ⊢
  split at h3
  · cases h3
  rename_i hg
  split at h3
  · cases h3
  rename_i hl
  rw [if_neg hg, if_neg hl]
  have hg1 : greatB (bt d 0) (bt d 2) = false := by
    cases e : greatB (bt d 0) (bt d 2) with
    | false => rfl
    | true => exact absurd (.inl e) hg
  have hg2 : 0 ≤ restN (bt d 0) (bt d 2) (bt d 3) := by omega
  obtain ⟨q1, q2, q3, q4, q5⟩ := restN_len (ae := bt d 0) (by omega) hg1
  have hcl := cut_length (s := d) (p := 10) (n := restN (bt d 0) (bt d 2) (bt d 3)) (by omega) hg2 (by omega)
  have hp : lowA (bt d 0) ≤ bt d 2 ∧ bt d 2 ≤ highA (bt d 0) := by unfold greatB at hg1; simpa using hg1
  obtain ⟨r1, r2, r3, r4, r5, r6⟩ := least_base (ae := bt d 0) (by omega) hp
  refine ⟨⟨by show 0 ≤ bt d 0 ∧ bt d 0 < 4; omega, b3.1, q5, ?_, by show 0 ≤ bt d 1 ∧ bt d 1 ≤ 255; omega, by show 0 ≤ num (cut_ d 8 2) ∧ num (cut_ d 8 2) ≤ 65535; omega, ?_, hp.1⟩, rfl⟩
  · show bt d 3 + ((cut_ d 10 (restN (bt d 0) (bt d 2) (bt d 3))).length : Int) ≤ szA (bt d 0) - baseA (bt d 0)
    rw [hcl]
    unfold restN
    omega
  · show (if _ = true then (1 : Int) else 0) = 0 ∨ (if _ = true then (1 : Int) else 0) = 1
    split
    · exact .inr rfl
    · exact .inl rfl
def updM (c : Ctx) (r : Raw) (a : Bs) : Msg := ⟨11, 0, 0, [], 0, r.ae, a, r.plen, 0, (if r.metric = 65535 then [] else (if famE r.ae = 0 then c.next_c0 else c.next_c1)), r.metric, (if r.metric = 65535 then [] else c.id), r.seq, 0, r.interval, 0, 0, 0, 0, [], [], [], 0, [], r.subs⟩
def updF (c : Ctx) (d : Bs) : Ctx × List Msg × Int :=
  if (takeG d).2.1 = true then
    (if (addrF c (takeG d).1).2 = true then
      (if toldB (flagsF c (takeG d).1 (addrF c (takeG d).1).1) (takeG d).1 = true then (flagsF c (takeG d).1 (addrF c (takeG d).1).1, [updM (flagsF c (takeG d).1 (addrF c (takeG d).1).1) (takeG d).1 (addrF c (takeG d).1).1], 0)
      else (flagsF c (takeG d).1 (addrF c (takeG d).1).1, [], 0))
    else (c, [], 9))
  else (c, [], (takeG d).2.2)
theorem addrF_len {c : Ctx} {r : Raw} (hc : okC c) (hr : RawOk r) (h : (addrF c r).2 = true) : ((addrF c r).1.length : Int) = szA r.ae := by
  have hl := hr.len
  have ho := hr.om
  have hbs := baseA_rng r.ae
  unfold addrF at h ⊢
  by_cases h0 : r.omitted = 0
  · rw [if_pos h0]; exact wholeF_len hr.ae (by omega)
  · rw [if_neg h0] at h ⊢
    by_cases he : preC c r.ae = []
    · rw [if_pos he] at h; cases h
    · rw [if_neg he]
      have hpl := preC_len hc hr.ae he
      have hcl : ((cut_ (preC c r.ae) (baseA r.ae) r.omitted).length : Int) = r.omitted := cut_length (by omega) ho (by omega)
      exact wholeF_len hr.ae (by rw [List.length_append]; omega)
end Go.VP
set_option linter.unusedVariables false
set_option linter.unusedSimpArgs false
set_option maxRecDepth 100000
namespace Go.VP
open Go Go.VI
theorem updF_eq {c : Ctx} {d : Bs} (h : (takeG d).2.1 = true) (h2 : (addrF c (takeG d).1).2 = true) : updF c d = (flagsF c (takeG d).1 (addrF c (takeG d).1).1, (if toldB (flagsF c (takeG d).1 (addrF c (takeG d).1).1) (takeG d).1 = true then [updM (flagsF c (takeG d).1 (addrF c (takeG d).1).1) (takeG d).1 (addrF c (takeG d).1).1] else []), 0) := by
  unfold updF
  rw [if_pos h, if_pos h2]
  split <;> rfl
def stepC (c : Ctx) (ty : Int) (d : Bs) : Ctx × List Msg × Int :=
  if ty = 6 then ((idF c d).1, [], (idF c d).2) else if ty = 7 then ((hopF c d).1, [], (hopF c d).2) else if ty = 8 then updF c d else (c, [], 0)
end Go.VP
set_option linter.unusedVariables false
set_option linter.unusedSimpArgs false
set_option maxRecDepth 100000
namespace Go.VP
open Go Go.VI
theorem okC_none : okC ⟨[], [], [], [], [], [], []⟩ := ⟨rfl, .inl rfl, .inl rfl, .inl rfl, .inl rfl, .inl rfl, .inl rfl⟩
theorem okC_id {c : Ctx} {d : Bs} (h : okC c) : okC (idF c d).1 := by
  unfold idF
  cases hk : (countF d 10).1 with
  | false => rw [if_neg (by simp)]; exact h
  | true =>
    have := countF_known hk
    rw [if_pos rfl]
    obtain ⟨h0, h1, h2, h3, h4, h5, h6⟩ := h
    refine ⟨h0, h1, h2, h3, h4, h5, .inr ?_⟩
    have hl := cut_length (s := d) (p := 2) (n := 8) (by omega) (by omega) (by omega)
    show (cut_ d 2 8).length = 8
    omega
theorem okC_hop {c : Ctx} {d : Bs} (h : okC c) : okC (hopF c d).1 := by
  unfold hopF
  split
  · exact h
  split
  · exact h
  rename_i h2 hr
  cases hk : (countF d (2 + hopN (bt d 0))).1 with
  | false => rw [if_neg (by simp)]; exact h
  | true =>
    have hl := countF_known hk
    rw [if_pos rfl]
    obtain ⟨h0, h1, h2, h3, h4, h5, h6⟩ := h
    have hn := hopN_rng (bt d 0)
    have hc := cut_length (s := d) (p := 2) (n := hopN (bt d 0)) (by omega) (by omega) (by omega)
    have hv : bt d 0 = 1 ∨ bt d 0 = 2 ∨ bt d 0 = 3 := by omega
    have hlong : bt d 0 = 3 → (longF (cut_ d 2 (hopN (bt d 0)))).1.length = 16 := fun e => by
      have h8 : hopN (bt d 0) = 8 := by rw [e]; rfl
      rw [h8] at hc ⊢
      unfold longF
      rw [if_pos (by omega), List.length_append]
      show 8 + (cut_ d 2 8).length = 16
      omega
    refine ⟨h0, h1, h2, h3, ?_, ?_, h6⟩
    · show (if famE (bt d 0) = 0 then hopA d else c.next_c0) = [] ∨ (if famE (bt d 0) = 0 then hopA d else c.next_c0).length = 4
      rcases hv with e | e | e
      · rw [if_pos (by rw [e]; rfl)]
        right
        unfold hopA
        rw [if_neg (by omega)]
        have : hopN (bt d 0) = 4 := by rw [e]; rfl
        omega
      · rw [if_neg (by rw [e]; decide)]; exact h4
      · rw [if_neg (by rw [e]; decide)]; exact h4
    · show (if famE (bt d 0) = 1 then hopA d else c.next_c1) = [] ∨ (if famE (bt d 0) = 1 then hopA d else c.next_c1).length = 16
      rcases hv with e | e | e
      · rw [if_neg (by rw [e]; decide)]; exact h5
      · rw [if_pos (by rw [e]; rfl)]
        right
        unfold hopA
        rw [if_neg (by omega)]
        have : hopN (bt d 0) = 16 := by rw [e]; rfl
        omega
      · rw [if_pos (by rw [e]; rfl)]
        right
        unfold hopA
        rw [if_pos e]
        exact hlong e
theorem addrF_link {c : Ctx} {r : Raw} (hc : okC c) (hr : RawOk r) (h : (addrF c r).2 = true) (h3 : r.ae = 3) : linkB (addrF c r).1 = true := by
  have hl := hr.len
  have ho := hr.om
  have hlow := hr.low
  have hbs := baseA_rng r.ae
  have s3 : szA r.ae - baseA r.ae = 8 := by rw [h3]; rfl
  have hp : 64 ≤ r.plen := by rw [h3] at hlow; exact hlow
  unfold addrF at h ⊢
  by_cases h0 : r.omitted = 0
  · rw [if_pos h0, h3]; exact wholeF_link hp (by omega)
  · rw [if_neg h0] at h ⊢
    by_cases he : preC c r.ae = []
    · rw [if_pos he] at h; cases h
    · rw [if_neg he]
      have hpl := preC_len hc hr.ae he
      have hcl : ((cut_ (preC c r.ae) (baseA r.ae) r.omitted).length : Int) = r.omitted := cut_length (by omega) ho (by omega)
      rw [h3] at hcl ⊢
      exact wholeF_link hp (by rw [List.length_append]; omega)
theorem okC_flags {c : Ctx} {r : Raw} {a : Bs} (h : okC c) (hr : RawOk r) (hl : (a.length : Int) = szA r.ae) (h3 : r.ae = 3 → linkB a = true) : okC (flagsF c r a) := by
  unfold flagsF
  split
  · exact h
  rename_i a0
  have hae := hr.ae
  have hid : okC (setId c (if r.flags / 64 % 2 = 1 then (flagsF.z4' ++ a).drop (a.length - 4) else c.id)) ∧ ((if r.flags / 64 % 2 = 1 then (flagsF.z4' ++ a).drop (a.length - 4) else c.id) = [] ∨ (if r.flags / 64 % 2 = 1 then (flagsF.z4' ++ a).drop (a.length - 4) else c.id).length = 8) := by
    have h4 : 4 ≤ a.length := by
      rcases ae_cases hae with e | e | e | e
      · exact absurd e a0
      · rw [e] at hl; have : szA 1 = 4 := rfl; omega
      · rw [e] at hl; have : szA 2 = 16 := rfl; omega
      · rw [e] at hl; have : szA 3 = 16 := rfl; omega
    have h8 : (if r.flags / 64 % 2 = 1 then (flagsF.z4' ++ a).drop (a.length - 4) else c.id) = [] ∨ (if r.flags / 64 % 2 = 1 then (flagsF.z4' ++ a).drop (a.length - 4) else c.id).length = 8 := by
      split
      · right; rw [List.length_drop, List.length_append]; show 4 + a.length - (a.length - 4) = 8; omega
      · exact h.2.2.2.2.2.2
    obtain ⟨h0, h1, h2, h3, h4, h5, h6⟩ := h
    exact ⟨⟨h0, h1, h2, h3, h4, h5, h8⟩, h8⟩
  obtain ⟨h0, h1, h2, h3', h4, h5, h6⟩ := h
  dsimp only
  split
  · refine ⟨?_, ?_, ?_, ?_, h4, h5, hid.2⟩
    · exact h0
    · show (if r.ae = 1 then a else c.prefix_c1) = [] ∨ (if r.ae = 1 then a else c.prefix_c1).length = 4
      split
      · rename_i e; rw [e] at hl; have : szA 1 = 4 := rfl; right; omega
      · exact h1
    · show (if r.ae = 2 then a else c.prefix_c2) = [] ∨ (if r.ae = 2 then a else c.prefix_c2).length = 16
      split
      · rename_i e; rw [e] at hl; have : szA 2 = 16 := rfl; right; omega
      · exact h2
    · show (if r.ae = 3 then a else c.prefix_c3) = [] ∨ linkB (if r.ae = 3 then a else c.prefix_c3) = true
      split
      · rename_i e; exact .inr (h3 e)
      · exact h3'
  · exact hid.1
theorem okC_upd {c : Ctx} {d : Bs} (h : okC c) : okC (updF c d).1 := by
  unfold updF
  split
  · rename_i ht
    obtain ⟨hr, _⟩ := takeG_raw ht
    split
    · rename_i ha
      have := okC_flags h hr (addrF_len h hr ha) (addrF_link h hr ha)
      split <;> exact this
    · exact h
  · exact h
theorem okC_step {c : Ctx} {ty : Int} {d : Bs} (h : okC c) : okC (stepC c ty d).1 := by
  unfold stepC
  split
  · exact okC_id h
  split
  · exact okC_hop h
  split
  · exact okC_upd h
  · exact h
end Go.VP
set_option linter.unusedVariables false
set_option linter.unusedSimpArgs false
set_option maxRecDepth 100000
namespace Go.VP
open Go Go.VI
def opaqueM (ty : Int) (d : Bs) : Msg := ⟨14, 0, 0, [], 0, 0, [], 0, 0, [], 0, [], 0, 0, 0, 0, 0, 0, 0, [], [], [], ty, d, []⟩
def resF (c : Ctx) (x : Msg × Bool × Int) : Ctx × List Msg × Int := if x.2.2 ≠ 0 then (c, [], x.2.2) else if x.2.1 = true then (c, [x.1], 0) else (c, [], 0)
def oneR (c : Ctx) (ty : Int) (d : Bs) : Ctx × List Msg × Int :=
  if ty = 0 ∨ ty = 1 then (c, [], 0) else if ty = 6 ∨ ty = 7 ∨ ty = 8 then stepC c ty d
  else if 2 ≤ ty ∧ ty ≤ 5 then resF c (fieldG ty d) else if ty = 9 ∨ ty = 10 then resF c (routeG ty d) else (c, [opaqueM ty d], 0)
end Go.VP
set_option linter.unusedVariables false
set_option linter.unusedSimpArgs false
set_option maxRecDepth 100000
namespace Go.VP
open Go Go.VI
theorem resF_cl (c : Ctx) (x : Msg × Bool × Int) : (resF c x).1 = c ∧ (resF c x).2.1.length ≤ 1 := by
  unfold resF; split
  · exact ⟨rfl, by simp⟩
  split <;> exact ⟨rfl, by simp⟩
theorem updF_len (c : Ctx) (d : Bs) : (updF c d).2.1.length ≤ 1 := by
  unfold updF; split
  · split
    · split <;> simp
    · simp
  · simp
theorem okC_one {c : Ctx} {ty : Int} {d : Bs} (h : okC c) : okC (oneR c ty d).1 ∧ (oneR c ty d).2.1.length ≤ 1 := by
  unfold oneR
  split
  · exact ⟨h, by simp⟩
  split
  · refine ⟨okC_step h, ?_⟩
    unfold stepC
    split
    · simp
    split
    · simp
    split
    · exact updF_len c d
    · simp
  split
  · have := resF_cl c (fieldG ty d); exact ⟨by rw [this.1]; exact h, this.2⟩
  split
  · have := resF_cl c (routeG ty d); exact ⟨by rw [this.1]; exact h, this.2⟩
  · exact ⟨h, by simp⟩
def c0 : Ctx := ⟨[], [], [], [], [], [], []⟩
def foldR : Ctx → List Tlv → List Msg → List Msg × Ctx × Int × Int
  | c, [], acc => (acc, c, 0, 0)
  | c, t :: r, acc => if (oneR c t.type_ t.data).2.2 ≠ 0 then ([], c0, t.at_, (oneR c t.type_ t.data).2.2) else foldR (oneR c t.type_ t.data).1 r (acc ++ (oneR c t.type_ t.data).2.1)
theorem okC_c0 : okC c0 := okC_none
end Go.VP
set_option linter.unusedVariables false
set_option linter.unusedSimpArgs false
set_option maxRecDepth 100000
namespace Go.VP
open Go Go.VI
theorem foldR_app : ∀ (a b : List Tlv) (c : Ctx) (acc : List Msg), (foldR c a acc).2.2.2 = 0 → foldR c (a ++ b) acc = foldR (foldR c a acc).2.1 b (foldR c a acc).1
  | [], b, c, acc, _ => rfl
  | t :: r, b, c, acc, h => by
    rw [List.cons_append, foldR, foldR]
    rw [foldR] at h
    by_cases he : (oneR c t.type_ t.data).2.2 ≠ 0
    · rw [if_pos he] at h; exact absurd h he
    · rw [if_neg he] at h ⊢
      rw [if_neg he]
      exact foldR_app r b _ _ h
theorem foldR_err : ∀ (a : List Tlv) (c : Ctx) (acc : List Msg), (foldR c a acc).2.2.2 ≠ 0 → (foldR c a acc).1 = [] ∧ (foldR c a acc).2.1 = c0
  | [], c, acc, h => absurd rfl h
  | t :: r, c, acc, h => by
    rw [foldR] at h ⊢
    by_cases he : (oneR c t.type_ t.data).2.2 ≠ 0
    · rw [if_pos he]; exact ⟨rfl, rfl⟩
    · rw [if_neg he] at h ⊢
      exact foldR_err r _ _ h
theorem foldR_fine : ∀ (a : List Tlv) (c : Ctx) (acc : List Msg), (foldR c a acc).2.2.2 = 0 → (foldR c a acc).2.2.1 = 0
  | [], c, acc, h => rfl
  | t :: r, c, acc, h => by
    rw [foldR] at h ⊢
    by_cases he : (oneR c t.type_ t.data).2.2 ≠ 0
    · rw [if_pos he] at h; exact absurd h he
    · rw [if_neg he] at h ⊢
      exact foldR_fine r _ _ h
theorem foldR_len : ∀ (a : List Tlv) (c : Ctx) (acc : List Msg), okC c → (foldR c a acc).1.length ≤ acc.length + a.length ∧ okC (foldR c a acc).2.1
  | [], c, acc, hc => ⟨by show acc.length ≤ _; omega, hc⟩
  | t :: r, c, acc, hc => by
    rw [foldR]
    obtain ⟨h1, h2⟩ := okC_one (ty := t.type_) (d := t.data) hc
    by_cases he : (oneR c t.type_ t.data).2.2 ≠ 0
    · rw [if_pos he]; exact ⟨by simp, okC_c0⟩
    · rw [if_neg he]
      obtain ⟨h3, h4⟩ := foldR_len r _ (acc ++ (oneR c t.type_ t.data).2.1) h1
      exact ⟨by simp only [List.length_append, List.length_cons] at h3 ⊢; omega, h4⟩
theorem foldR_all {P : Msg → Prop} {Q : Tlv → Prop} (hP : ∀ c t, okC c → Q t → ∀ m ∈ (oneR c t.type_ t.data).2.1, P m) : ∀ (a : List Tlv) (c : Ctx) (acc : List Msg), okC c → (∀ t ∈ a, Q t) → (∀ m ∈ acc, P m) → ∀ m ∈ (foldR c a acc).1, P m
  | [], c, acc, hc, hq, h => h
  | t :: r, c, acc, hc, hq, h => by
    rw [foldR]
    obtain ⟨h1, h2⟩ := okC_one (ty := t.type_) (d := t.data) hc
    by_cases he : (oneR c t.type_ t.data).2.2 ≠ 0
    · rw [if_pos he]; intro m hm; cases hm
    · rw [if_neg he]
      refine foldR_all hP r _ _ h1 (fun x hx => hq x (List.mem_cons_of_mem _ hx)) (fun m hm => ?_)
      rcases List.mem_append.1 hm with hm | hm
      · exact h m hm
      · exact hP _ _ hc (hq t (List.mem_cons_self ..)) m hm
def Except.app (x : Except Int (List Tlv)) (a : List Tlv) : Except Int (List Tlv) := x.map (a ++ ·)
theorem spl_append : ∀ (a : Bs) (p : Int) (la : List Tlv), spl p a = .ok la → ∀ b, spl p (a ++ b) = (spl (p + a.length) b).map (la ++ ·) := by
  intro a
  induction h : a.length using Nat.strongRecOn generalizing a with
  | ind n ih =>
    intro p la hs b
    subst h
    match a, hs with
    | [], hs =>
      rw [spl_nil] at hs
      cases hs
      rw [List.nil_append, show p + ((([] : Bs).length : Nat) : Int) = p by simp]
      cases spl p b <;> rfl
    | t :: r, hs =>
      by_cases ht : t = 0
      · subst ht
        rw [spl_zero] at hs
        cases hr : spl (p + 1) r with
        | error q => rw [hr] at hs; cases hs
        | ok lr =>
          rw [hr] at hs
          cases hs
          have := ih r.length (by simp) r rfl (p + 1) lr hr b
          rw [List.cons_append, spl_zero, this, show p + 1 + (r.length : Int) = p + ((((0 : UInt8) :: r).length : Nat) : Int) by simp; omega]
          cases spl (p + ((((0 : UInt8) :: r).length : Nat) : Int)) b <;> rfl
      · match r, hs with
        | [], hs => rw [spl_one ht] at hs; cases hs
        | n :: d, hs =>
          by_cases hn : d.length < n.toNat
          · rw [spl_bad ht hn] at hs; cases hs
          · rw [spl_all ht (by omega)] at hs
            cases hr : spl (p + 2 + n.toNat) (d.drop n.toNat) with
            | error q => rw [hr] at hs; cases hs
            | ok lr =>
              rw [hr] at hs
              cases hs
              have := ih (d.drop n.toNat).length (by simp; omega) (d.drop n.toNat) rfl _ lr hr b
              rw [List.cons_append, List.cons_append, spl_all ht (by rw [List.length_append]; omega), List.drop_append_of_le_length (by omega), this, List.take_append_of_le_length (by omega), show p + 2 + (n.toNat : Int) + ((d.drop n.toNat).length : Int) = p + (((t :: n :: d).length : Nat) : Int) by simp; omega]
              cases spl (p + (((t :: n :: d).length : Nat) : Int)) b <;> rfl
end Go.VP
set_option linter.unusedVariables false
set_option linter.unusedSimpArgs false
set_option maxRecDepth 100000
namespace Go.VP
open Go Go.VI
structure UpdR (m : Msg) : Prop where
  kind : m.kind = 11
  bare : bareB m = true
  subs : rightB m.subs = true
  inn : inB m.ae m.prefix_ m.plen = true
  iv : 0 ≤ m.interval ∧ m.interval < 65536
  sq : 0 ≤ m.seq ∧ m.seq < 65536
  me : 0 ≤ m.metric ∧ m.metric < 65536
  far : m.metric = 65535 → m.id = [] ∧ m.next = []
  near : m.metric ≠ 65535 → 0 < m.ae ∧ m.id.length = 8 ∧ (m.next = [] ∨ famF m.next = famE m.ae)
def tailB (m : Msg) : Bool := if m.metric = 65535 then (m.id == [] && m.next == []) else decide (0 < m.ae) && (decide (m.id.length = 8) && (m.next == [] || decide (famF m.next = famE m.ae)))
noncomputable def updB (m : Msg) : Bool := decide (m.kind = 11) && (bareB m && (rightB m.subs && (inB m.ae m.prefix_ m.plen && (fitsB m.interval 2 && (fitsB m.seq 2 && (fitsB m.metric 2 && tailB m))))))
theorem updR_iff {m : Msg} : updB m = true ↔ UpdR m := by
  unfold updB tailB
  simp only [Bool.and_eq_true, decide_eq_true_eq, fitsB2]
  constructor
  · rintro ⟨a, b, c, d, e, f, g, h⟩
    refine ⟨a, b, c, d, e, f, g, fun hm => ?_, fun hm => ?_⟩
    · rw [if_pos hm] at h; simpa using h
    · rw [if_neg hm] at h; simpa using h
  · intro h
    refine ⟨h.1, h.2, h.3, h.4, h.5, h.6, h.7, ?_⟩
    by_cases hm : m.metric = 65535
    · rw [if_pos hm]; simpa using h.far hm
    · rw [if_neg hm]; simpa using h.near hm
def mk12 (ae : Int) (a : Bs) (plen : Int) : Msg := ⟨12, 0, 0, [], 0, ae, a, plen, 0, [], 0, [], 0, 0, 0, 0, 0, 0, 0, [], [], [], 0, [], []⟩
theorem UpdR.asR {m : Msg} (h : UpdR m) : RouteR (mk12 m.ae m.prefix_ m.plen) := by
  obtain ⟨a, b, c, d, e⟩ := inB_iff.1 h.inn
  have hb : bareOf (mk12 m.ae m.prefix_ m.plen) = some (mk12 m.ae m.prefix_ m.plen) := rfl
  exact ⟨by rw [bareB, hb]; exact eqB_refl _, rfl, a, b, c, d, e, rfl⟩
def leadN : Bs → Bs → Nat
  | a :: x, b :: y => if a = b then leadN x y + 1 else 0
  | _, _ => 0
theorem leadN_le : ∀ x y : Bs, leadN x y ≤ x.length ∧ leadN x y ≤ y.length
  | [], y => by simp [leadN]
  | a :: x, [] => by simp [leadN]
  | a :: x, b :: y => by
    have := leadN_le x y
    rw [leadN]; split <;> simp <;> omega
theorem leadN_take : ∀ x y : Bs, x.take (leadN x y) = y.take (leadN x y)
  | [], y => by simp [leadN]
  | a :: x, [] => by simp [leadN]
  | a :: x, b :: y => by
    rw [leadN]; split
    · rename_i h; rw [List.take_succ_cons, List.take_succ_cons, leadN_take x y, h]
    · rfl
def flagU (ae : Int) : Int := if ae = 0 then 0 else 128
def updD (m : Msg) (n : Nat) : Bs := [u8of m.ae, u8of (flagU m.ae), u8of m.plen, u8of n] ++ (be 2 m.interval ++ (be 2 m.seq ++ (be 2 m.metric ++ ((bytesP m).drop n ++ encS m.subs))))
theorem UpdR.pre {m : Msg} (h : UpdR m) : (0 ≤ m.ae ∧ m.ae < 4) ∧ (0 ≤ m.plen ∧ m.plen ≤ 128) ∧ ((bytesP m).length : Int) = leastF m.plen - baseA m.ae ∧ (bytesP m).length ≤ 16 ∧ (0 ≤ baseA m.ae ∧ baseA m.ae ≤ 8) ∧ m.prefix_.length ≤ 16 := by
  have r := h.asR
  have hc : ((bytesP m).length : Int) = leastF m.plen - baseA m.ae := r.cut.2
  obtain ⟨l1, l2, l3, l4, l5, l6⟩ := least_base r.ae r.plen
  have hl : (m.prefix_.length : Int) = szA m.ae := r.len
  have hb := baseA_rng m.ae
  dsimp only [mk12] at l1 l2 l3 l4 l5 l6
  exact ⟨r.ae, ⟨l4, l5⟩, hc, by omega, hb, by omega⟩
theorem updD_len {m : Msg} (h : UpdR m) (n : Nat) : (updD m n).length = 10 + ((bytesP m).length - n) + (encS m.subs).length := by
  unfold updD
  simp [be_length]; omega
theorem takeG_upd {m : Msg} (h : UpdR m) {n : Nat} (hn : n ≤ (bytesP m).length) : takeG (updD m n) = (⟨m.ae, flagU m.ae, m.plen, n, m.interval, m.seq, m.metric, 1, (bytesP m).drop n, m.subs⟩, true, 0) := by
  obtain ⟨hae, hpl, hbl, h16, hbs, _⟩ := h.pre
  obtain ⟨hr, hs⟩ := rightB_split h.subs
  have hg := getS_encS hr hs
  have q1 : greatB m.ae m.plen = false := (rest_eq h.asR).1
  have hlen := updD_len h n
  have uA : ((u8of m.ae).toNat : Int) = m.ae := by rw [u8of_int, if_pos hae.1]; omega
  have uF : ((u8of (flagU m.ae)).toNat : Int) = flagU m.ae := by unfold flagU; split <;> rfl
  have uP : ((u8of m.plen).toNat : Int) = m.plen := by rw [u8of_int, if_pos hpl.1]; omega
  have uN : ((u8of (n : Int)).toNat : Int) = n := by rw [u8of_int, if_pos (by omega)]; omega
  generalize hD : updD m n = D at *
  have e : D = [u8of m.ae, u8of (flagU m.ae), u8of m.plen, u8of n] ++ (be 2 m.interval ++ (be 2 m.seq ++ (be 2 m.metric ++ ((bytesP m).drop n ++ encS m.subs)))) := by rw [← hD]; rfl
  have t0 : bt D 0 = m.ae := by rw [e]; exact uA
  have t1 : bt D 1 = flagU m.ae := by rw [e]; exact uF
  have t2 : bt D 2 = m.plen := by rw [e]; exact uP
  have t3 : bt D 3 = n := by rw [e]; exact uN
  have c4 : cut_ D 4 2 = be 2 m.interval := by
    rw [e, cutR (k := 4) rfl (by omega) (by omega)]; exact cutL rfl
  have c6 : cut_ D 6 2 = be 2 m.seq := by
    rw [e, cutR (k := 4) rfl (by omega) (by omega), cutR (k := 2) rfl (by omega) (by omega)]; exact cutL rfl
  have c8 : cut_ D 8 2 = be 2 m.metric := by
    rw [e, cutR (k := 4) rfl (by omega) (by omega), cutR (k := 2) rfl (by omega) (by omega), cutR (k := 2) rfl (by omega) (by omega)]; exact cutL rfl
  have hrn : restN m.ae m.plen n = (((bytesP m).drop n).length : Nat) := by unfold restN; rw [List.length_drop]; omega
  have c10 : cut_ D 10 (((bytesP m).drop n).length : Nat) = (bytesP m).drop n := by
    rw [e, cutR (k := 4) rfl (by omega) (by omega), cutR (k := 2) rfl (by omega) (by omega), cutR (k := 2) rfl (by omega) (by omega), cutR (k := 2) rfl (by omega) (by omega)]; exact cutL rfl
  have hp : preF D 10 m.ae m.plen n = ((bytesP m).drop n, 0) := by
    rw [preF_fine q1 (by omega) (by rw [hrn, List.length_drop]; omega), hrn, c10]
  have hdr : D.drop (10 + restN m.ae m.plen n).toNat = encS m.subs := by
    rw [hrn, e, ← List.append_assoc, ← List.append_assoc, ← List.append_assoc, ← List.append_assoc]
    exact List.drop_left' (by simp [be_length]; omega)
  unfold takeG
  rw [if_neg (by omega), t0, if_neg (by omega)]
  dsimp only
  rw [t2, t3, t1, hp, hdr, hg]
  dsimp only
  rw [if_neg (show ¬ (0 : Int) ≠ 0 by decide), if_neg (show ¬ (0 : Int) ≠ 0 by decide), c4, c6, c8, num_be2 h.iv, num_be2 h.sq, num_be2 h.me, if_pos rfl]
def nextC (c : Ctx) (f : Int) : Bs := if f = 0 then c.next_c0 else c.next_c1
def setP (c : Ctx) (ae : Int) (a : Bs) : Ctx := if ae = 0 then c else ⟨c.prefix_c0, (if ae = 1 then a else c.prefix_c1), (if ae = 2 then a else c.prefix_c2), (if ae = 3 then a else c.prefix_c3), c.next_c0, c.next_c1, c.id⟩
theorem setP_id (c : Ctx) (ae : Int) (a : Bs) : (setP c ae a).id = c.id := by unfold setP; split <;> rfl
theorem setP_next (c : Ctx) (ae : Int) (a : Bs) (f : Int) : nextC (setP c ae a) f = nextC c f := by unfold setP; split <;> rfl
theorem bare11 {m : Msg} (hk : m.kind = 11) (hb : bareB m = true) : (⟨11, 0, 0, [], 0, m.ae, m.prefix_, m.plen, 0, m.next, m.metric, m.id, m.seq, 0, m.interval, 0, 0, 0, 0, [], [], [], 0, [], m.subs⟩ : Msg) = m := by
  have hx : bareOf m = some ⟨m.kind, 0, 0, [], 0, m.ae, m.prefix_, m.plen, 0, m.next, m.metric, m.id, m.seq, 0, m.interval, 0, 0, 0, 0, [], [], [], 0, [], m.subs⟩ := by
    unfold bareOf; rw [if_neg (by omega), if_neg (by omega), if_neg (by omega), if_neg (by omega), if_neg (by omega), if_neg (by omega), if_neg (by omega), if_neg (by omega), if_neg (by omega), if_neg (by omega), if_pos hk]
  rw [bareB, hx] at hb
  have := eqB_true.1 hb
  rw [hk] at this
  exact this
theorem updF_upd {c : Ctx} {m : Msg} {n : Nat} (hc : okC c) (h : UpdR m) (hn : n ≤ (bytesP m).length)
    (hk : n ≠ 0 → preC c m.ae ≠ [] ∧ ((preC c m.ae).drop (baseA m.ae).toNat).take n = (bytesP m).take n)
    (hf : m.metric ≠ 65535 → c.id = m.id ∧ nextC c (famE m.ae) = m.next) : updF c (updD m n) = (setP c m.ae m.prefix_, [m], 0) := by
  obtain ⟨hae, hpl, hbl, h16, hbs, _⟩ := h.pre
  have hw : wholeF m.ae (bytesP m) m.plen = m.prefix_ := wholeF_back (m := mk12 m.ae m.prefix_ m.plen) h.asR
  have ht := takeG_upd h hn
  have ha : addrF c (takeG (updD m n)).1 = (m.prefix_, true) := by
    rw [ht]; unfold addrF
    dsimp only
    by_cases h0 : n = 0
    · rw [if_pos (by omega), h0, List.drop_zero, hw]
    · obtain ⟨k1, k2⟩ := hk h0
      have hcut : cut_ (preC c m.ae) (baseA m.ae) (n : Int) = (bytesP m).take n := by
        rw [← k2]; unfold cut_
        rw [List.drop_take, show (baseA m.ae + (n : Int)).toNat - (baseA m.ae).toNat = n by omega]
      rw [if_neg (by omega), if_neg k1, hcut, List.take_append_drop, hw]
  have hfl : flagsF c (takeG (updD m n)).1 m.prefix_ = setP c m.ae m.prefix_ := by
    rw [ht]; unfold flagsF setP flagU
    dsimp only
    by_cases a0 : m.ae = 0
    · rw [if_pos a0, if_pos a0]
    · simp only [if_neg a0]
      rw [if_pos (show (128 : Int) ≤ 128 by decide), if_neg (show ¬ ((128 : Int) / 64 % 2 = 1) by decide)]
  have hto : toldB (setP c m.ae m.prefix_) (takeG (updD m n)).1 = true := by
    rw [ht]; unfold toldB
    dsimp only
    rw [setP_id]
    by_cases hm : m.metric = 65535
    · simp [hm]
    · have hn := h.near hm
      have hi : c.id ≠ [] := by
        rw [(hf hm).1]; intro e; rw [e] at hn; exact absurd hn.2.1 (by decide)
      simp [hi]; omega
  have hu : updM (setP c m.ae m.prefix_) (takeG (updD m n)).1 m.prefix_ = m := by
    rw [ht]; unfold updM
    dsimp only
    have hx := bare11 h.kind h.bare
    by_cases hm : m.metric = 65535
    · obtain ⟨f1, f2⟩ := h.far hm
      rw [if_pos hm, if_pos hm]
      rw [f1, f2] at hx
      exact hx
    · obtain ⟨f1, f2⟩ := hf hm
      rw [if_neg hm, if_neg hm, setP_id, f1]
      have : (if famE m.ae = 0 then (setP c m.ae m.prefix_).next_c0 else (setP c m.ae m.prefix_).next_c1) = m.next := by
        rw [← f2]; exact setP_next c m.ae m.prefix_ (famE m.ae)
      rw [this]
      exact hx
  rw [updF_eq (by rw [ht]) (by rw [ha]), ha, hfl, if_pos hto, hu]
def idD (s : Bs) : Bs := 0 :: 0 :: s
def hopD (a : Bs) : Bs := if linkB a = true then 3 :: 0 :: a.drop 8 else if a.length = 4 then 1 :: 0 :: a else 2 :: 0 :: a
theorem countF_all {d : Bs} {n : Int} (h : (d.length : Int) = n) : countF d n = (true, 0) := by
  unfold countF
  rw [if_neg (by omega), List.drop_eq_nil_of_le (by omega), getS_nil]
theorem idF_back {c : Ctx} {s : Bs} (h : s.length = 8) : idF c (idD s) = (setId c s, 0) := by
  unfold idF idD
  rw [countF_all (by simp [h]), if_pos rfl]
  have : cut_ (0 :: 0 :: s) 2 8 = s := by
    show cut_ ([0, 0] ++ s) 2 8 = s
    rw [cutR (k := 2) rfl (by omega) (by omega)]
    have := cutL (x := s) (y := []) (n := 8) (by omega)
    rwa [List.append_nil] at this
  rw [this]
theorem famF_cases {a : Bs} {f : Int} (hf : famF a = f) (h : f = 0 ∨ f = 1) : (f = 0 ∧ a.length = 4) ∨ (f = 1 ∧ a.length = 16) := by
  unfold famF at hf
  split at hf
  · exact .inl ⟨hf.symm, by assumption⟩
  split at hf
  · exact .inr ⟨hf.symm, by assumption⟩
  · omega
theorem hopF_back {c : Ctx} {a : Bs} {f : Int} (h : (f = 0 ∧ a.length = 4) ∨ (f = 1 ∧ a.length = 16)) : hopF c (hopD a) = (setN c f a, 0) := by
  have ca : ∀ (x y : UInt8) (s : Bs) (n : Int), (s.length : Int) = n → cut_ (x :: y :: s) 2 n = s := fun x y s n hs => by
    show cut_ ([x, y] ++ s) 2 n = s
    rw [cutR (k := 2) rfl (by omega) (by omega)]
    have := cutL (x := s) (y := []) (n := n) hs
    rwa [List.append_nil] at this
  unfold hopD
  by_cases hl : linkB a = true
  · have h16 := linkB_len hl
    have h8 : (a.drop 8).length = 8 := by rw [List.length_drop]; omega
    have b0 : bt (3 :: 0 :: a.drop 8) 0 = 3 := rfl
    have n3 : hopN 3 = 8 := rfl
    have f3 : famE 3 = 1 := rfl
    rw [if_pos hl]
    unfold hopF hopA
    rw [b0, n3, if_neg (by simp; omega), if_neg (by omega), countF_all (by simp [h8]), if_pos rfl, if_pos rfl, ca _ _ _ 8 (by omega), f3]
    have : (longF (a.drop 8)).1 = a := by unfold longF; rw [if_pos h8]; exact link_parts hl
    rw [this]
    rcases h with ⟨rfl, h⟩ | ⟨rfl, h⟩
    · omega
    · rfl
  · rw [if_neg hl]
    rcases h with ⟨rfl, h⟩ | ⟨rfl, h⟩
    · have b0 : bt (1 :: 0 :: a) 0 = 1 := rfl
      have n3 : hopN 1 = 4 := rfl
      have f3 : famE 1 = 0 := rfl
      rw [if_pos h]
      unfold hopF hopA
      rw [b0, n3, if_neg (by simp; omega), if_neg (by omega), countF_all (by simp [h]), if_pos rfl, if_neg (by omega), ca _ _ _ 4 (by omega), f3]
    · have b0 : bt (2 :: 0 :: a) 0 = 2 := rfl
      have n3 : hopN 2 = 16 := rfl
      have f3 : famE 2 = 1 := rfl
      rw [if_neg (by omega)]
      unfold hopF hopA
      rw [b0, n3, if_neg (by simp; omega), if_neg (by omega), countF_all (by simp [h]), if_pos rfl, if_neg (by omega), ca _ _ _ 16 (by omega), f3]
end Go.VP
