/- TLVs and Subs: what the program and the document make of them. -/
import Derived.Test.YtnjhhopdiopbfaaPBase
import Derived.Test.YtnjhhopdiopbfaaPCur
set_option linter.unusedVariables false
set_option linter.unusedSimpArgs false
set_option maxRecDepth 100000
namespace Go.VP
open Go Go.VI
abbrev Sub := S_api_Sub
theorem room_mul {a b : Nat} (h : a ≤ 300000000000) (hb : b ≤ 100) : roomB (a * b) = true := by
  refine roomB_of ?_
  have : a * b ≤ 300000000000 * 100 := Nat.mul_le_mul h hb
  omega
/-- The bytes of a TLV. -/
def tput (t : Int) (d : Bs) : Bs × Bool := if 1 ≤ t ∧ t ≤ 255 ∧ d.length ≤ 255 then (u8of t :: u8of d.length :: d, true) else ([], false)
theorem u8of_emod (n : Int) (h : 0 ≤ n) : u8of (n % 256) = u8of n := by
  apply u8_eq; rw [u8of_int, u8of_int, if_pos (by omega), if_pos h]; omega
abbrev trip {α β γ : Type} (x : α × β × γ) : α × β × γ × Unit := (x.1, x.2.1, x.2.2, ())
theorem next_end {s : Bs} {p q : Int} (w : WfC s p q) (h : p < q) : True := trivial
theorem drop2 {s : Bs} {p : Nat} (h : p + 1 < s.length) : s.drop p = s[p] :: s[p + 1] :: s.drop (p + 2) := by
  rw [List.drop_eq_getElem_cons (by omega), List.drop_eq_getElem_cons (i := p + 1) (by omega)]
end Go.VP
