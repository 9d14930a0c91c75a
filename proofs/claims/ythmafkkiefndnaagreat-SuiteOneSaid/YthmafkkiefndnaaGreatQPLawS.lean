/- What the suite's laws share. -/
import Derived.Test.YthmafkkiefndnaaGreatQPBase
import Derived.Test.YthmafkkiefndnaaGreatQFGood
set_option linter.unusedVariables false
set_option linter.unusedSimpArgs false
set_option maxRecDepth 100000
namespace Go.VP
open Go Go.VI
theorem awake26 : g_law26_awake () = some ((true, ()), ()) := by kernel_rfl
theorem awb26 {α : Type} (f : (Bool × Unit) × Unit → Option α) : (g_law26_awake ()).bind f = f ((true, ()), ()) := by rw [awake26]; rfl
end Go.VP
