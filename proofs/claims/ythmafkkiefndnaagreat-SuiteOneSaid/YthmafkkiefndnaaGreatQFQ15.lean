import Derived.Test.YthmafkkiefndnaaGreatQFH
set_option linter.unusedVariables false
set_option linter.unusedSimpArgs false
set_option maxRecDepth 1000000
set_option maxHeartbeats 4000000
namespace Go.VI
open Go Go.Proofs
theorem h_law26_SuiteOne_eq (n : Nat) (a0 : S_api_Msg) : h_law26_SuiteOne n (a0, ()) =
  (g_ref07_Few (a0, ())).bind fun r1 => (if (!r1.1.1) = true then ((g_law26_awake ()).bind fun r2 => some ((r2.1.1, ()), ())) else (L_law26_SuiteOne_0 n n a0 0 (-1))) := by kernel_rfl
theorem L_law26_SuiteOne_0_eq (n m : Nat) (a0 : S_api_Msg) (x3 : Int) (x4 : Int) : L_law26_SuiteOne_0 n (m + 1) a0 x3 x4 =
  if (decide (x4 ≤ 6)) = true then ((g_suite_Right (x4, a0, ())).bind fun r3 => (if r3.1.1 = true then (if (decide (x4 < 1)) = true then some ((false, ()), ()) else (if (decide (4 < x4)) = true then some ((false, ()), ()) else (L_law26_SuiteOne_0 n m a0 (IntKind.wrap .i64 (x3 + 1)) (IntKind.wrap .i64 (x4 + 1))))) else (L_law26_SuiteOne_0 n m a0 x3 (IntKind.wrap .i64 (x4 + 1))))) else ((g_law26_awake ()).bind fun r4 => (if r4.1.1 = true then some (((decide (x3 ≤ 1)), ()), ()) else some ((false, ()), ()))) := by kernel_rfl
end Go.VI
