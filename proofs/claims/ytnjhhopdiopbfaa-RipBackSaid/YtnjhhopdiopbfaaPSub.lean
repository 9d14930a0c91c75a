/- Subs: whether they may be, their bytes, those of bytes. -/
import Derived.Test.YtnjhhopdiopbfaaPBase
import Derived.Test.YtnjhhopdiopbfaaPCur
import Derived.Test.YtnjhhopdiopbfaaPOct
import Derived.Test.YtnjhhopdiopbfaaPTlv
set_option linter.unusedVariables false
set_option linter.unusedSimpArgs false
set_option maxRecDepth 100000
namespace Go.VP
open Go Go.VI
def sumN : List Sub → Int
  | [] => 0
  | y :: l => 2 + (y.data.length : Int) + sumN l
/-- Subs that are few and short enough for all that is reckoned here. -/
def FewS (l : List Sub) : Prop := l.length ≤ 1000000000 ∧ ∀ y ∈ l, y.data.length ≤ 300
theorem FewS.tail {y : Sub} {l : List Sub} (h : FewS (y :: l)) : FewS l := ⟨by have := h.1; simp at this; omega, fun z hz => h.2 z (List.mem_cons_of_mem _ hz)⟩
theorem FewS.drop {l : List Sub} (h : FewS l) (i : Nat) : FewS (l.drop i) := ⟨by have := h.1; simp; omega, fun y hy => h.2 y (List.mem_of_mem_drop hy)⟩
theorem sumN_rng : ∀ {l : List Sub}, FewS l → 0 ≤ sumN l ∧ sumN l ≤ 302 * l.length
  | [], _ => by simp [sumN]
  | y :: l, h => by
    have := sumN_rng h.tail
    have hy := h.2 y (List.mem_cons_self ..)
    simp only [sumN, List.length_cons]
    omega
theorem sumN_append : ∀ (a b : List Sub), sumN (a ++ b) = sumN a + sumN b
  | [], b => by simp [sumN]
  | y :: l, b => by simp only [List.cons_append, sumN, sumN_append l b]; omega
def subB (lo hi : Int) (y : Sub) : Bool := decide (lo ≤ y.type_ ∧ y.type_ ≤ hi ∧ y.data.length ≤ 255)
/-- Whether Subs may be. -/
def rightB (l : List Sub) : Bool := l.all (subB 2 127) && decide (sumN l ≤ 200)
/-- The bytes of Subs. -/
def encS : List Sub → Bs
  | [] => []
  | y :: l => u8of y.type_ :: u8of y.data.length :: (y.data ++ encS l)
def AllR (l : List Sub) : Prop := ∀ y ∈ l, 2 ≤ y.type_ ∧ y.type_ ≤ 127 ∧ y.data.length ≤ 255
theorem allR_iff {l : List Sub} : l.all (subB 2 127) = true ↔ AllR l := by simp [subB, AllR]
theorem tput_r {y : Sub} (h : 2 ≤ y.type_ ∧ y.type_ ≤ 127 ∧ y.data.length ≤ 255) : tput y.type_ y.data = (u8of y.type_ :: u8of y.data.length :: y.data, true) := by
  unfold tput; rw [if_pos (by omega)]
theorem encS_append : ∀ (a b : List Sub), encS (a ++ b) = encS a ++ encS b
  | [], b => rfl
  | y :: l, b => by simp [encS, encS_append l b]
theorem encS_length : ∀ (l : List Sub), ((encS l).length : Int) = sumN l
  | [] => rfl
  | y :: l => by have := encS_length l; simp [encS, sumN]; omega
def putS (l : List Sub) : Bs × Bool := if rightB l = true then (encS l, true) else ([], false)
theorem rightB_split {l : List Sub} (h : rightB l = true) : AllR l ∧ sumN l ≤ 200 := by
  simp only [rightB, Bool.and_eq_true, allR_iff, decide_eq_true_eq] at h; exact h
def endS (acc : List Sub) (b : Bool) : List Sub × Bool × Int := if 200 < sumN acc then ([], false, 10) else (acc, b, 0)
theorem FewS.app {a b : List Sub} (h : ∀ y ∈ a, y.data.length ≤ 300) (h2 : ∀ y ∈ b, y.data.length ≤ 300) (h3 : a.length + b.length ≤ 1000000000) : FewS (a ++ b) :=
  ⟨by simpa using h3, fun y hy => (List.mem_append.1 hy).elim (h y) (h2 y)⟩
end Go.VP
