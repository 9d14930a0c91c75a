/- Cursors: what is read, and what is left. -/
import Derived.Test.YtnccbadmlgfmgaaGreatPBase
set_option linter.unusedVariables false
set_option linter.unusedSimpArgs false
set_option maxRecDepth 100000
namespace Go.VP
open Go Go.VI
structure WfC (s : Bs) (p q : Int) : Prop where
  lo : 0 ≤ p
  hi : p ≤ q
  top : q ≤ s.length
  sz : s.length ≤ 1000000000000000
theorem WfC.fwd {s : Bs} {p q n : Int} (w : WfC s p q) (h : 0 ≤ n) (h2 : p + n ≤ q) : WfC s (p + n) q := ⟨by have := w.lo; omega, h2, w.top, w.sz⟩
theorem WfC.whole {s : Bs} (h : s.length ≤ 1000000000000000) : WfC s 0 s.length := ⟨by omega, by omega, by omega, h⟩
theorem num1 {s : Bs} {p : Nat} (h : p + 1 ≤ s.length) : num (cut_ s p 1) = bt s p := by
  have e : cut_ s p 1 = [s[p]] := by
    unfold cut_
    rw [show ((p : Int) + 1).toNat = p + 1 by omega, Int.toNat_natCast, List.take_succ_eq_append_getElem (by omega), List.drop_append_of_le_length (by simp; omega)]
    simp [List.drop_take]
  rw [e]; simp [num, bt, List.getElem?_eq_getElem (show p < s.length by omega)]
theorem cut_succ {s : Bs} {p n : Nat} (h : p + n + 1 ≤ s.length) : cut_ s p (n + 1 : Nat) = cut_ s p n ++ [s[p + n]'(by omega)] := by
  unfold cut_
  rw [show ((p : Int) + ((n + 1 : Nat) : Int)).toNat = p + n + 1 by omega, show ((p : Int) + (n : Int)).toNat = p + n by omega, Int.toNat_natCast, List.take_succ_eq_append_getElem (by omega), List.drop_append_of_le_length (by simp; omega)]
theorem num_cut_succ {s : Bs} {p n : Nat} (h : p + n + 1 ≤ s.length) : num (cut_ s p (n + 1 : Nat)) = num (cut_ s p n) * 256 + bt s (p + n) := by
  rw [cut_succ h, num_append]
  simp [bt, List.getElem?_eq_getElem (show p + n < s.length by omega)]
theorem num2 {s : Bs} {p : Nat} (h : p + 2 ≤ s.length) : num (cut_ s p 2) = bt s p * 256 + bt s (p + 1) := by
  have := num_cut_succ (s := s) (p := p) (n := 1) (by omega)
  rw [show ((1 : Nat) : Int) = 1 from rfl, num1 (by omega)] at this
  exact this
end Go.VP
