/- What is known of laws' arguments, in the words of the pure texts. -/
import Derived.Test.YtpapfbpefhcobaaPBase
import Derived.Test.YtpapfbpefhcobaaPMsg
import Derived.Test.YtpapfbpefhcobaaPField
import Derived.Test.YtpapfbpefhcobaaFGood
set_option linter.unusedVariables false
set_option linter.unusedSimpArgs false
set_option maxRecDepth 100000
namespace Go.VP
open Go Go.VI
theorem goodMsg {m : Msg} (g : Good_api_Msg m) : GoodMsg m := by
  obtain ⟨g1, g2, g3, g4, g5, g6, g7, g8, g9, g10, g11, g12, g13, g14, g15, g16, g17, g18, g19, g20, g21, _⟩ := g
  exact ⟨g4, g7, g10, g12, g20, g21⟩
theorem goodM {m : Msg} (g : Good_api_Msg m) (h : Lite m) : GoodM m := by
  obtain ⟨g1, g2, g3, g4, g5, g6, g7, g8, g9, g10, g11, g12, g13, g14, g15, g16, g17, g18, g19, g20, g21, _⟩ := g
  exact ⟨h, g18, g15, g13, g19, g1, g16, g6, g8, g17⟩
end Go.VP
