/- Lists of messages: whether they are the same, are few. -/
import Derived.Test.YtngoadonappnnaaQFH
import Derived.Test.YtngoadonappnnaaQPBase
import Derived.Test.YtngoadonappnnaaQPCur
import Derived.Test.YtngoadonappnnaaQPOct
import Derived.Test.YtngoadonappnnaaQPTlv
import Derived.Test.YtngoadonappnnaaQPSub
import Derived.Test.YtngoadonappnnaaQPMsg
import Derived.Test.YtngoadonappnnaaQFGood
set_option linter.unusedVariables false
set_option linter.unusedSimpArgs false
set_option maxRecDepth 100000
namespace Go.VP
open Go Go.VI
def Small (m : Msg) : Prop := m.list.length ≤ 1000000000 ∧ m.subs.length ≤ 1000000000
theorem goodMsgA {m : Msg} (g : Good_api_Msg m) : GoodMsg m := by
  obtain ⟨g1, g2, g3, g4, g5, g6, g7, g8, g9, g10, g11, g12, g13, g14, g15, g16, g17, g18, g19, g20, g21, _⟩ := g
  exact ⟨g4, g7, g10, g12, g20, g21⟩
end Go.VP
