/- An address's text is read as that address; what is read is written as it stood: for all arguments. -/
import Derived.Test.YtblajikhleocpaaDoorFQ0
import Derived.Test.YtblajikhleocpaaDoorPBase
import Derived.Test.YtblajikhleocpaaDoorPCur
import Derived.Test.YtblajikhleocpaaDoorPOct
import Derived.Test.YtblajikhleocpaaDoorPAddr
import Derived.Test.YtblajikhleocpaaDoorPMap
import Derived.Test.YtblajikhleocpaaDoorPNumR
import Derived.Test.YtblajikhleocpaaDoorPReadA
import Derived.Test.YtblajikhleocpaaDoorPTextR
import Derived.Test.YtblajikhleocpaaDoorFGood
set_option linter.unusedVariables false
set_option linter.unusedSimpArgs false
set_option maxRecDepth 100000
namespace Go.VP
open Go Go.VI
theorem text_is (a : Bs) : g_addr_Text (a, ()) = some (((textA a).1, (textA a).2, ()), ()) := rfl
theorem tail_texts {x1 : Bs} (h : x1.length ≤ 100) (r : Option Bs) (hr : r = readM x1) : ((g_addr_Text ((pairB r).1.1, ())).bind fun r6 => (g_law06_awake ()).bind fun r7 => if r7.1.1 = true then (if (!(pairB r).1.2.1) = true then (if (pairB r).1.2.1 = true then some ((true, ()), ()) else some ((((pairB r).1.1 == ([] : List UInt8)), ()), ())) else (if (r6.1.1 == x1) = true then (if (pairB r).1.2.1 = true then some ((true, ()), ()) else some ((((pairB r).1.1 == ([] : List UInt8)), ()), ())) else some ((false, ()), ()))) else some ((false, ()), ())) = some ((true, ()), ()) := by
  rw [text_is, Option.bind_some, awake06, Option.bind_some, ift]
  cases r with
  | none => rfl
  | some a =>
    have := text_read hr.symm
    unfold pairB
    dsimp only
    rw [this]
    simp
theorem addrTexts_pure (x0 : List UInt8) (g0 : Good_string x0) (x1 : List UInt8) (g1 : Good_string x1) : g_law06_AddrTexts (x0, x1, ()) = some ((true, ()), ()) := by
  rw [g_law06_AddrTexts_eq]
  by_cases h0 : (100 : Int) < (x0.length : Int)
  · rw [ifd h0, awake06]; rfl
  rw [ifn h0]
  by_cases h1 : (100 : Int) < (x1.length : Int)
  · rw [ifd h1, awake06]; rfl
  rw [ifn h1, text_is, Option.bind_some]
  have r1 := a6read_is (s := x1) (by omega)
  have rt := a6read_is (text_len x0)
  dsimp only
  rw [r1, rt, Option.bind_some, Option.bind_some]
  have T := tail_texts (x1 := x1) (by omega) _ rfl
  by_cases h4 : x0.length = 4
  · have e : textA x0 = (pre4 x0 4, true) := by unfold textA; rw [if_pos h4]
    have e2 := read_text4 h4
    rw [if_pos (by simp [h4]), e]
    dsimp only
    rw [e2, if_neg (by decide), ift]
    unfold pairB at T ⊢
    dsimp only
    rw [if_neg (by decide), if_neg (by simp)]
    exact T
  · by_cases h16 : x0.length = 16
    · have e : textA x0 = (pre16 x0 8, true) := by unfold textA; rw [if_neg h4, if_pos h16]
      have e2 := read_text16 h16
      rw [if_neg (by simp; omega), e]
      dsimp only
      rw [e2, if_neg (by simp [h16]), ift]
      unfold pairB at T ⊢
      dsimp only
      rw [if_neg (by decide), if_neg (by simp)]
      exact T
    · have e : textA x0 = ([], false) := by unfold textA; rw [if_neg h4, if_neg h16]
      rw [if_neg (by simp; omega), e]
      dsimp only
      rw [if_neg (by simp; omega), iff_]
      exact T
end Go.VP
