/- The line of any message, or that it has none, and any Kind's word, are the document's: for all arguments. -/
import Derived.Test.YtojlppofmjkmhaaDoorFQ1
import Derived.Test.YtojlppofmjkmhaaDoorPAll
import Derived.Test.YtojlppofmjkmhaaDoorFGood
set_option linter.unusedVariables false
set_option linter.unusedSimpArgs false
set_option maxRecDepth 100000
namespace Go.VP
open Go Go.VI
theorem goodMsg28 {m : Msg} (g : Good_api_Msg m) : GoodMsg m := by
  obtain ⟨g1, g2, g3, g4, g5, g6, g7, g8, g9, g10, g11, g12, g13, g14, g15, g16, g17, g18, g19, g20, g21, _⟩ := g
  exact ⟨g4, g7, g10, g12, g20, g21⟩
theorem textPrints_pure (x0 : S_api_Msg) (g0 : Good_api_Msg x0) : g_law29_TextPrints (x0, ()) = some ((true, ()), ()) := by
  rw [g_law29_TextPrints_eq]
  obtain ⟨fb, hf, hfew⟩ := few_is (goodMsg28 g0)
  rw [hf, Option.bind_some]
  cases fb with
  | false => dsimp only; rw [ifnf, awake29]; rfl
  | true =>
    have hS := small_of (hfew rfl).lite
    dsimp only
    rw [ifnt, printT_is hS, Option.bind_some, rprint_is hS, Option.bind_some, awake29, Option.bind_some, ift]
    dsimp only
    rw [if_pos (by simp), if_pos (by simp), word_is, Option.bind_some, rword_is, Option.bind_some]
    dsimp only
    rw [show (wordM x0.kind == wordM x0.kind) = true by simp]
end Go.VP
