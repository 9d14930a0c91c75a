/- Each Kind's word alone is the line of a message of that Kind without fields; no two Kinds have one word: for all arguments. -/
import Derived.Test.YtojlppofmjkmhaaDoorFQ1
import Derived.Test.YtojlppofmjkmhaaDoorPAll
import Derived.Test.YtojlppofmjkmhaaDoorFGood
set_option linter.unusedVariables false
set_option linter.unusedSimpArgs false
set_option maxRecDepth 100000
namespace Go.VP
open Go Go.VI
theorem word_inj {a b : Int} (ha : 1 ≤ a ∧ a ≤ 14) (hb : 1 ≤ b ∧ b ≤ 14) (h : wordM a = wordM b) : a = b := by
  rw [← kind_word ha, ← kind_word hb, h]
theorem textWords_pure (x0 : Int) (g0 : Good_uint8 x0) (x1 : Int) (g1 : Good_uint8 x1) : g_law29_TextWords (x0, x1, ()) = some ((true, ()), ()) := by
  have h0 : 0 ≤ x0 ∧ x0 ≤ 255 := g0.1
  have h1 : 0 ≤ x1 ∧ x1 ≤ 255 := g1.1
  rw [g_law29_TextWords_eq, Int.tmod_eq_emod_of_nonneg h0.1, Int.tmod_eq_emod_of_nonneg h1.1, w64 (x := x0 % 14) (by omega) (by omega), w64 (x := x1 % 14) (by omega) (by omega), w64 (x := 1 + x0 % 14) (by omega) (by omega), w64 (x := 1 + x1 % 14) (by omega) (by omega)]
  obtain ⟨a, ha⟩ : ∃ a, a = 1 + x0 % 14 := ⟨_, rfl⟩
  obtain ⟨b, hb⟩ : ∃ b, b = 1 + x1 % 14 := ⟨_, rfl⟩
  rw [← ha, ← hb]
  have hA : 1 ≤ a ∧ a ≤ 14 := by omega
  have hB : 1 ≤ b ∧ b ≤ 14 := by omega
  have hr := readT_is (s := wordM a) (by have := word_len a; omega)
  rw [read_print (zero_print hA)] at hr
  have hr : g_text_Read (wordM a, ()) = some ((zeroM a, true, ()), ()) := hr
  rw [word_is, Option.bind_some, hr, Option.bind_some, awake29, Option.bind_some, ift]
  dsimp only
  rw [ift]
  have hs := same_is (a := zeroM a) (b := zeroM a) (by simp [zeroM]) (by simp [zeroM])
  rw [eqB_refl] at hs
  have hs : g_ref07_Same (zeroM a, (S_api_Msg.mk a 0 0 ([] : List UInt8) 0 0 ([] : List UInt8) 0 0 ([] : List UInt8) 0 ([] : List UInt8) 0 0 0 0 0 0 0 ([] : List UInt8) ([] : List UInt8) [] 0 ([] : List UInt8) []), ()) = some ((true, ()), ()) := hs
  rw [hs, Option.bind_some, ift, Option.bind_some, word_is, Option.bind_some]
  dsimp only
  have hne : (wordM a == ([] : Bs)) = false := by
    have : a = 1 ∨ a = 2 ∨ a = 3 ∨ a = 4 ∨ a = 5 ∨ a = 6 ∨ a = 7 ∨ a = 8 ∨ a = 9 ∨ a = 10 ∨ a = 11 ∨ a = 12 ∨ a = 13 ∨ a = 14 := by omega
    rcases this with h | h | h | h | h | h | h | h | h | h | h | h | h | h <;> (rw [h]; rfl)
  by_cases e : a = b
  · subst e
    rw [if_pos (by simp), Option.bind_some, hne]
    rfl
  · have hw : ¬ wordM a = wordM b := fun h => e (word_inj hA hB h)
    rw [if_pos (by rw [beq_false_of_ne hw, beq_false_of_ne e]; rfl), Option.bind_some, hne]
    rfl
end Go.VP
