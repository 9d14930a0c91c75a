import Derived.Test.YtbjjekbhopgonaaGreatG3FH
set_option linter.unusedVariables false
set_option linter.unusedSimpArgs false
set_option maxRecDepth 1000000
set_option maxHeartbeats 4000000
namespace Go.VI
open Go Go.Proofs
theorem h_top_WholeTotal_eq (n : Nat) (a0 : Int) (a1 : List UInt8) : h_top_WholeTotal n (a0, a1, ()) =
  if (decide (1500 < (a1.length : Int))) = true then ((g_top_awake ()).bind fun r1 => some ((r1.1.1, ()), ())) else ((g_suite_Parse ((IntKind.wrap .i64 (1 + (IntKind.wrap .i64 (a0.tmod 4)))), a1, ())).bind fun r2 => (if (r2.1.2.2.1 != 0) = true then ((g_top_awake ()).bind fun r3 => (if r3.1.1 = true then (if ((r2.1.1.length : Int) == 0) = true then (if (decide (0 ≤ r2.1.2.1)) = true then some (((decide (r2.1.2.1 ≤ (a1.length : Int))), ()), ()) else some ((false, ()), ())) else some ((false, ()), ())) else some ((false, ()), ()))) else (L_top_WholeTotal_0 n n r2 (IntKind.wrap .i64 (1 + (IntKind.wrap .i64 (a0.tmod 4)))) 0))) := by kernel_rfl
theorem L_top_WholeTotal_0_eq (n m : Nat) (r2 : ((List S_api_Msg) × Int × Int × Unit) × Unit) (x5 : Int) (x9 : Int) : L_top_WholeTotal_0 n (m + 1) r2 x5 x9 =
  if (decide (x9 < (r2.1.1.length : Int))) = true then (if 0 ≤ x9 then (r2.1.1[x9.toNat]?.bind fun (y4 : S_api_Msg) => ((g_ref26_Right (x5, y4, ())).bind fun r5 => (if (!r5.1.1) = true then some ((false, ()), ()) else (L_top_WholeTotal_0 n m r2 x5 (IntKind.wrap .i64 (x9 + 1)))))) else none) else ((g_top_awake ()).bind fun r6 => (if r6.1.1 = true then some (((r2.1.2.1 == 0), ()), ()) else some ((false, ()), ()))) := by kernel_rfl
end Go.VI
