/- Cursors: what is read, and what is left. -/
import Derived.Test.YtngoadonappnnaaFQ8
import Derived.Test.YtngoadonappnnaaPBase
set_option linter.unusedVariables false
set_option linter.unusedSimpArgs false
set_option maxRecDepth 100000
namespace Go.VP
open Go Go.VI
/-- The cursor at place p of s, up to q. -/
abbrev cu (s : Bs) (p q : Int) (b : Bool) : S_api_Cur := ⟨s, p, q, b⟩
structure WfC (s : Bs) (p q : Int) : Prop where
  lo : 0 ≤ p
  hi : p ≤ q
  top : q ≤ s.length
  sz : s.length ≤ 1000000000000000
theorem new_is (s : Bs) : g_cursor_New (s, ()) = some ((cu s 0 s.length false, ()), ()) := g_cursor_New_eq s
theorem step_ok {s : Bs} {p q n : Int} (w : WfC s p q) (h : 0 ≤ n) (h2 : p + n ≤ q) : g_cursor_step (cu s p q false, n, ()) = some ((cu s (p + n) q false, true, ()), ()) := by
  have := w.lo; have := w.hi; have := w.top; have := w.sz
  rw [g_cursor_step_eq]; dsimp only
  rw [if_neg (by decide), if_neg (by simpa using h), w64 (by omega) (by omega), if_neg (by simp; omega), w64 (by omega) (by omega)]
theorem step_bad {s : Bs} {p q n : Int} {b : Bool} (w : WfC s p q) (h : b = true ∨ n < 0 ∨ q - p < n) : g_cursor_step (cu s p q b, n, ()) = some ((cu s p q true, false, ()), ()) := by
  have := w.lo; have := w.hi; have := w.top; have := w.sz
  rw [g_cursor_step_eq]; dsimp only
  rw [w64 (x := q - p) (by omega) (by omega)]
  simp only [decide_eq_true_eq]
  split
  · rfl
  · split
    · rfl
    · rw [if_pos]
      simp_all
theorem num_loop {n : Nat} {r : (S_api_Cur × Bool × Unit) × Unit} {l : Bs} (hl : l.length ≤ 7) : ∀ (d i m : Nat) (x : Int), i + d = l.length → d < m → x = num (l.take i) → L_cursor_Num_0 n m r x l l.length i = some ((num l, r.1.1, ()), ())
  | 0, i, m, x, h, hm, hx => by
    obtain ⟨m, rfl⟩ : ∃ k, m = k + 1 := ⟨m - 1, by omega⟩
    rw [L_cursor_Num_0_eq, if_neg (by simp; omega), hx, List.take_of_length_le (by omega)]
  | d + 1, i, m, x, h, hm, hx => by
    obtain ⟨m, rfl⟩ : ∃ k, m = k + 1 := ⟨m - 1, by omega⟩
    have hi : i < l.length := by omega
    have hp := num_rng (l.take i)
    have hp2 : (256 : Int) ^ (l.take i).length ≤ 256 ^ 6 := by
      have : (l.take i).length ≤ 6 := by simp; omega
      generalize (l.take i).length = z at this
      match z, this with
      | 0, _ | 1, _ | 2, _ | 3, _ | 4, _ | 5, _ | 6, _ => decide
    have hp3 : (256 : Int) ^ 6 = 281474976710656 := by decide
    have hb := (l[i]).toNat_lt
    rw [L_cursor_Num_0_eq, if_pos (by simp; omega), if_pos (by omega), Int.toNat_natCast, bind_at hi, w64n, hx, ib_or (by omega) (by omega), w64 (by omega) (by omega)]
    have := num_loop (r := r) (n := n) hl d (i + 1) m (num (l.take i) * 256 + (l[i].toNat : Int)) (by omega) (by omega) (by rw [List.take_succ_eq_append_getElem hi, num_append])
    rw [show ((i + 1 : Nat) : Int) = (i : Int) + 1 by omega] at this
    exact this
theorem num_ok {s : Bs} {p q n : Int} (w : WfC s p q) (h : 1 ≤ n) (h7 : n ≤ 7) (h2 : p + n ≤ q) : g_cursor_Num (cu s p q false, n, ()) = some ((num (cut_ s p n), cu s (p + n) q false, ()), ()) := by
  have := w.lo; have := w.hi; have := w.top; have := w.sz
  have hl := cut_length (s := s) (p := p) (n := n) (by omega) (by omega) (by omega)
  show h_cursor_Num fuel _ = _
  rw [h_cursor_Num_eq, if_neg (by simp; omega), if_neg (by simp; omega), step_ok w (by omega) h2]
  rw [Option.bind_some]; dsimp only
  rw [if_neg (by decide), if_pos (by omega)]
  have := num_loop (n := fuel) (r := ((cu s (p + n) q false, true, ()), ())) (l := cut_ s p n) (by omega) (cut_ s p n).length 0 fuel 0 (by omega) (fuel_ge (by omega)) rfl
  exact this
theorem num_bad {s : Bs} {p q n : Int} {b : Bool} (w : WfC s p q) (h : 1 ≤ n) (h7 : n ≤ 7) (h2 : b = true ∨ q < p + n) : g_cursor_Num (cu s p q b, n, ()) = some ((0, cu s p q true, ()), ()) := by
  show h_cursor_Num fuel _ = _
  rw [h_cursor_Num_eq, if_neg (by simp; omega), if_neg (by simp; omega), step_bad w (h2.imp id fun h => .inr (by omega))]
  rfl
theorem text_ok {s : Bs} {p q n : Int} (w : WfC s p q) (h : 0 ≤ n) (h2 : p + n ≤ q) : g_cursor_Text (cu s p q false, n, ()) = some ((cut_ s p n, cu s (p + n) q false, ()), ()) := by
  have := w.lo; have := w.hi; have := w.top; have := w.sz
  rw [g_cursor_Text_eq, step_ok w (by omega) h2]
  rw [Option.bind_some]; dsimp only
  rw [if_neg (by decide), if_pos (by omega)]
  rfl
theorem text_bad {s : Bs} {p q n : Int} {b : Bool} (w : WfC s p q) (h : b = true ∨ n < 0 ∨ q < p + n) : g_cursor_Text (cu s p q b, n, ()) = some (([], cu s p q true, ()), ()) := by
  rw [g_cursor_Text_eq, step_bad w (h.imp id fun h => h.imp id fun h => by omega)]
  rfl
theorem left_is {s : Bs} {p q : Int} (w : WfC s p q) : g_cursor_Left (cu s p q false, ()) = some ((q - p, ()), ()) := by
  have := w.lo; have := w.hi; have := w.top; have := w.sz
  rw [g_cursor_Left_eq]; dsimp only
  rw [w64 (by omega) (by omega)]
  rfl
theorem left_bad {s : Bs} {p q : Int} : g_cursor_Left (cu s p q true, ()) = some ((0, ()), ()) := by
  rw [g_cursor_Left_eq]; rfl
theorem WfC.fwd {s : Bs} {p q n : Int} (w : WfC s p q) (h : 0 ≤ n) (h2 : p + n ≤ q) : WfC s (p + n) q := ⟨by have := w.lo; omega, h2, w.top, w.sz⟩
theorem WfC.whole {s : Bs} (h : s.length ≤ 1000000000000000) : WfC s 0 s.length := ⟨by omega, by omega, by omega, h⟩
theorem num1 {s : Bs} {p : Nat} (h : p + 1 ≤ s.length) : num (cut_ s p 1) = bt s p := by
  have e : cut_ s p 1 = [s[p]] := by
    unfold cut_
    rw [show ((p : Int) + 1).toNat = p + 1 by omega, Int.toNat_natCast, List.take_succ_eq_append_getElem (by omega), List.drop_append_of_le_length (by simp; omega)]
    simp [List.drop_take]
  rw [e]; simp [num, bt, List.getElem?_eq_getElem (show p < s.length by omega)]
theorem cut_succ {s : Bs} {p n : Nat} (h : p + n + 1 ≤ s.length) : cut_ s p (n + 1 : Nat) = cut_ s p n ++ [s[p + n]'(by omega)] := by
  unfold cut_
  rw [show ((p : Int) + ((n + 1 : Nat) : Int)).toNat = p + n + 1 by omega, show ((p : Int) + (n : Int)).toNat = p + n by omega, Int.toNat_natCast, List.take_succ_eq_append_getElem (by omega), List.drop_append_of_le_length (by simp; omega)]
theorem num_cut_succ {s : Bs} {p n : Nat} (h : p + n + 1 ≤ s.length) : num (cut_ s p (n + 1 : Nat)) = num (cut_ s p n) * 256 + bt s (p + n) := by
  rw [cut_succ h, num_append]
  simp [bt, List.getElem?_eq_getElem (show p + n < s.length by omega)]
theorem num2 {s : Bs} {p : Nat} (h : p + 2 ≤ s.length) : num (cut_ s p 2) = bt s p * 256 + bt s (p + 1) := by
  have := num_cut_succ (s := s) (p := p) (n := 1) (by omega)
  rw [show ((1 : Nat) : Int) = 1 from rfl, num1 (by omega)] at this
  exact this
end Go.VP
