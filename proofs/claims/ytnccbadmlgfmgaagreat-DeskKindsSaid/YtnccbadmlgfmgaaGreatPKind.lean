/- The words of the Kinds: text.Word, the document's Word, and its Kind of a word. -/
import Derived.Test.YtnccbadmlgfmgaaGreatFQ0
import Derived.Test.YtnccbadmlgfmgaaGreatPBase
import Derived.Test.YtnccbadmlgfmgaaGreatPCur
import Derived.Test.YtnccbadmlgfmgaaGreatPOct
import Derived.Test.YtnccbadmlgfmgaaGreatFQ0
set_option linter.unusedVariables false
set_option linter.unusedSimpArgs false
set_option maxRecDepth 100000
namespace Go.VP
open Go Go.VI
def wordsK : List (List UInt8) := [[], [114, 105, 112], [110, 103], [114, 114, 101, 113], [114, 114, 101, 112], [114, 101, 114, 114], [114, 114, 101, 112, 97, 99, 107], [97, 99, 107, 114, 101, 113], [97, 99, 107], [104, 101, 108, 108, 111], [105, 104, 117], [117, 112, 100, 97, 116, 101], [114, 111, 117, 116, 101, 114, 101, 113], [115, 101, 113, 110, 111, 114, 101, 113], [111, 112, 97, 113, 117, 101]]
def wordM (k : Int) : List UInt8 := if 1 ≤ k ∧ k ≤ 14 then wordsK.getD k.toNat [] else []
/-- The first number from k on (r more are looked at) whose word it is; 0 if there is none. -/
def kindN (s : List UInt8) : Nat → Nat → Int
  | 0, _ => 0
  | r + 1, k => if wordM (k : Int) = s then (k : Int) else kindN s r (k + 1)
def kindW (s : List UInt8) : Int := kindN s 14 1
theorem kword_is (k : Int) : g_text_Word (k, ()) = some ((wordM k, ()), ()) := by
  rw [g_text_Word_eq]
  unfold wordM
  by_cases h0 : k < 1
  · rw [ifd h0, if_neg (by omega)]
  · rw [ifn h0]
    by_cases h1 : 14 < k
    · rw [ifd h1, if_neg (by omega)]
    · rw [ifn h1, g_text_words_eq, Option.bind_some, if_pos (show 0 ≤ k ∧ k < 15 by omega), if_pos (show 1 ≤ k ∧ k ≤ 14 by omega)]
      have : k = 1 ∨ k = 2 ∨ k = 3 ∨ k = 4 ∨ k = 5 ∨ k = 6 ∨ k = 7 ∨ k = 8 ∨ k = 9 ∨ k = 10 ∨ k = 11 ∨ k = 12 ∨ k = 13 ∨ k = 14 := by omega
      rcases this with rfl | rfl | rfl | rfl | rfl | rfl | rfl | rfl | rfl | rfl | rfl | rfl | rfl | rfl <;> rfl
theorem kword29_is (k : Int) : g_ref29_Word (k, ()) = some ((wordM k, ()), ()) := by
  rw [g_ref29_Word_eq]
  unfold wordM
  by_cases h0 : k < 1
  · rw [ifd h0, if_neg (by omega)]
  · rw [ifn h0]
    by_cases h1 : 14 < k
    · rw [ifd h1, if_neg (by omega)]
    · rw [ifn h1, g_ref29_words_eq, Option.bind_some, if_pos (show 0 ≤ k by omega), if_pos (show 1 ≤ k ∧ k ≤ 14 by omega)]
      have : k = 1 ∨ k = 2 ∨ k = 3 ∨ k = 4 ∨ k = 5 ∨ k = 6 ∨ k = 7 ∨ k = 8 ∨ k = 9 ∨ k = 10 ∨ k = 11 ∨ k = 12 ∨ k = 13 ∨ k = 14 := by omega
      rcases this with rfl | rfl | rfl | rfl | rfl | rfl | rfl | rfl | rfl | rfl | rfl | rfl | rfl | rfl <;> rfl
theorem kind_loop (n : Nat) (s : List UInt8) : ∀ (r k m : Nat), k + r = 15 → r < m → L_ref30_Kind_0 n m s (k : Int) = some ((kindN s r k, ()), ()) := by
  intro r
  induction r with
  | zero =>
    intro k m hk hm
    obtain ⟨m, rfl⟩ : ∃ j, m = j + 1 := ⟨m - 1, by omega⟩
    rw [L_ref30_Kind_0_eq, ifn (by omega)]
    rfl
  | succ r ih =>
    intro k m hk hm
    obtain ⟨m, rfl⟩ : ∃ j, m = j + 1 := ⟨m - 1, by omega⟩
    rw [L_ref30_Kind_0_eq, ifd (by omega), kword29_is, Option.bind_some]
    show (if (wordM (k : Int) == s) = true then _ else _) = _
    unfold kindN
    by_cases h : wordM (k : Int) = s
    · rw [if_pos (by simpa using h), if_pos h]
    · rw [if_neg (by simpa using h), if_neg h, w64 (by omega) (by omega), show ((k : Int) + 1) = ((k + 1 : Nat) : Int) by omega]
      exact ih (k + 1) m (by omega) (by omega)
theorem kind30_is (s : List UInt8) : g_ref30_Kind (s, ()) = some ((kindW s, ()), ()) := by
  show h_ref30_Kind fuel (s, ()) = _
  rw [h_ref30_Kind_eq]
  exact kind_loop fuel s 14 1 fuel rfl (fuel_ge (by omega))
theorem kindN_is (s : List UInt8) : ∀ (r k : Nat), k + r = 15 → 0 < k → (∃ j : Nat, k ≤ j ∧ j ≤ 14 ∧ wordM (j : Int) = s ∧ kindN s r k = (j : Int)) ∨ ((∀ j : Nat, k ≤ j → j ≤ 14 → wordM (j : Int) ≠ s) ∧ kindN s r k = 0)
  | 0, k, h, _ => .inr ⟨fun j h1 h2 => by omega, rfl⟩
  | r + 1, k, h, h0 => by
    unfold kindN
    by_cases hw : wordM (k : Int) = s
    · rw [if_pos hw]; exact .inl ⟨k, Nat.le_refl _, by omega, hw, rfl⟩
    · rw [if_neg hw]
      rcases kindN_is s r (k + 1) (by omega) (by omega) with ⟨j, h1, h2, h3, h4⟩ | ⟨h1, h2⟩
      · exact .inl ⟨j, by omega, h2, h3, h4⟩
      · refine .inr ⟨fun j h3 h4 => ?_, h2⟩
        by_cases hj : j = k
        · subst hj; exact hw
        · exact h1 j (by omega) h4
theorem words_apart : ∀ i : Fin 15, ∀ j : Fin 15, wordsK.getD i.1 [] = wordsK.getD j.1 [] → i = j := by decide
theorem wordM_apart {i j : Nat} (hi : 1 ≤ i ∧ i ≤ 14) (hj : 1 ≤ j ∧ j ≤ 14) (h : wordM (i : Int) = wordM (j : Int)) : i = j := by
  unfold wordM at h
  rw [if_pos (by omega), if_pos (by omega)] at h
  have := words_apart ⟨i, by omega⟩ ⟨j, by omega⟩ h
  exact congrArg Fin.val this
theorem wordM_size : ∀ i : Fin 15, (wordsK.getD i.1 []).length ≤ 9 := by decide
theorem wordM_len (k : Int) : (wordM k).length ≤ 9 := by
  unfold wordM
  split
  · have := wordM_size ⟨k.toNat, by omega⟩; exact this
  · simp
theorem kindW_ack : kindW [97, 99, 107] = 8 := by decide
/-- What a table holds at s into which the numbers 1 to n were put, each at its word. -/
def kindT (s : List UInt8) : Nat → Int
  | 0 => 0
  | n + 1 => if wordM ((n + 1 : Nat) : Int) = s then ((n + 1 : Nat) : Int) else kindT s n
theorem kindT_is (s : List UInt8) : ∀ n : Nat, n ≤ 14 → (∃ j : Nat, 1 ≤ j ∧ j ≤ n ∧ wordM (j : Int) = s ∧ kindT s n = (j : Int)) ∨ ((∀ j : Nat, 1 ≤ j → j ≤ n → wordM (j : Int) ≠ s) ∧ kindT s n = 0)
  | 0, _ => .inr ⟨fun j h1 h2 => by omega, rfl⟩
  | n + 1, h => by
    unfold kindT
    by_cases hw : wordM ((n + 1 : Nat) : Int) = s
    · rw [if_pos hw]; exact .inl ⟨n + 1, by omega, Nat.le_refl _, hw, rfl⟩
    · rw [if_neg hw]
      rcases kindT_is s n (by omega) with ⟨j, h1, h2, h3, h4⟩ | ⟨h1, h2⟩
      · exact .inl ⟨j, h1, by omega, h3, h4⟩
      · refine .inr ⟨fun j h3 h4 => ?_, h2⟩
        by_cases hj : j = n + 1
        · subst hj; exact hw
        · exact h1 j h3 (by omega)
theorem kindT_W (s : List UInt8) : kindT s 14 = kindW s := by
  unfold kindW
  rcases kindT_is s 14 (Nat.le_refl _) with ⟨j, h1, h2, h3, h4⟩ | ⟨h1, h2⟩
  · rcases kindN_is s 14 1 rfl (by omega) with ⟨i, k1, k2, k3, k4⟩ | ⟨k1, k2⟩
    · rw [h4, k4, wordM_apart ⟨h1, h2⟩ ⟨k1, k2⟩ (h3.trans k3.symm)]
    · exact absurd h3 (k1 j h1 h2)
  · rcases kindN_is s 14 1 rfl (by omega) with ⟨i, k1, k2, k3, k4⟩ | ⟨k1, k2⟩
    · exact absurd k3 (h1 i k1 k2)
    · rw [h2, k2]
end Go.VP
