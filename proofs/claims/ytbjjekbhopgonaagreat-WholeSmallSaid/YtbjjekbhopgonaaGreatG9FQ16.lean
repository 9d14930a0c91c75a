import Derived.Test.YtbjjekbhopgonaaGreatG9FH
set_option linter.unusedVariables false
set_option linter.unusedSimpArgs false
set_option maxRecDepth 1000000
set_option maxHeartbeats 4000000
namespace Go.VI
open Go Go.Proofs
theorem h_top_WholeSmall_eq (n : Nat) (a0 : Int) (a1 : List S_api_Msg) (a2 : Int) : h_top_WholeSmall n (a0, a1, a2, ()) =
  (g_ref07_FewAll (a1, 20, ())).bind fun r1 => (if (!r1.1.1) = true then ((g_top_awake ()).bind fun r2 => some ((r2.1.1, ()), ())) else (L_top_WholeSmall_0 n n a1 a2 (IntKind.wrap .i64 (1 + (IntKind.wrap .i64 (a0.tmod 4)))) (-1) (IntKind.wrap .i64 ((a1.length : Int) - 1)))) := by kernel_rfl
theorem L_top_WholeSmall_0_eq (n m : Nat) (a1 : List S_api_Msg) (a2 : Int) (x7 : Int) (x8 : Int) (x9 : Int) : L_top_WholeSmall_0 n (m + 1) a1 a2 x7 x8 x9 =
  if (decide (0 ≤ x9)) = true then (if 0 ≤ x9 then (a1[x9.toNat]?.bind fun (y3 : S_api_Msg) => ((g_ref26_Right (x7, y3, ())).bind fun r4 => (if (!r4.1.1) = true then ((g_top_awake ()).bind fun r5 => some ((r5.1.1, ()), ())) else (if 0 ≤ x9 ∧ x9 ≤ (IntKind.wrap .i64 (x9 + 1)) ∧ (IntKind.wrap .i64 (x9 + 1)) ≤ (a1.length : Int) then ((g_suite_Encode (x7, ((a1.take (IntKind.wrap .i64 (x9 + 1)).toNat).drop x9.toNat), ())).bind fun r6 => (if (r6.1.2.2.1 != 0) = true then some ((false, ()), ()) else (if (decide ((IntKind.wrap .i64 a2) < (r6.1.1.length : Int))) = true then (L_top_WholeSmall_0 n m a1 a2 x7 x9 (IntKind.wrap .i64 (x9 - 1))) else (L_top_WholeSmall_0 n m a1 a2 x7 x8 (IntKind.wrap .i64 (x9 - 1)))))) else none)))) else none) else ((g_pack_Pack (x7, a1, (IntKind.wrap .i64 a2), ())).bind fun r7 => ((g_top_awake ()).bind fun r8 => (if r8.1.1 = true then (if ((r7.1.2.2.1 == 11) == (decide (0 ≤ x8))) = true then (if ((r7.1.2.2.1 == 0) == (decide (x8 < 0))) = true then (if (decide (x8 < 0)) = true then some ((true, ()), ()) else some (((r7.1.2.1 == x8), ()), ())) else some ((false, ()), ())) else some ((false, ()), ())) else some ((false, ()), ())))) := by kernel_rfl
end Go.VI
