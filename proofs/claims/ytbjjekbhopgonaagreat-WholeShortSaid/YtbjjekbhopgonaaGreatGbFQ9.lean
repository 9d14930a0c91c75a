import Derived.Test.YtbjjekbhopgonaaGreatGbFH
set_option linter.unusedVariables false
set_option linter.unusedSimpArgs false
set_option maxRecDepth 1000000
set_option maxHeartbeats 4000000
namespace Go.VI
open Go Go.Proofs
theorem g_ref04_Least_eq (a0 : Int) : g_ref04_Least (a0, ()) =
  if (decide (a0 < 0)) = true then some ((0, ()), ()) else some (((IntKind.wrap .i64 ((IntKind.wrap .i64 (a0 + 7)).tdiv 8)), ()), ()) := by kernel_rfl
theorem g_ref21_Base_eq (a0 : Int) : g_ref21_Base (a0, ()) =
  if (a0 == 3) = true then some ((8, ()), ()) else some ((0, ()), ()) := by kernel_rfl
end Go.VI
