import Derived.Test.YtbjjekbhopgonaaGreatGaFH
set_option linter.unusedVariables false
set_option linter.unusedSimpArgs false
set_option maxRecDepth 1000000
set_option maxHeartbeats 4000000
namespace Go.VI
open Go Go.Proofs
theorem h_top_WholeAtOnce_eq (n : Nat) (a0 : Int) (a1 : List S_api_Msg) (a2 : Int) : h_top_WholeAtOnce n (a0, a1, a2, ()) =
  (g_ref07_FewAll (a1, 20, ())).bind fun r1 => (if (!r1.1.1) = true then ((g_top_awake ()).bind fun r2 => some ((r2.1.1, ()), ())) else (if ((a1.length : Int) == 0) = true then ((g_top_awake ()).bind fun r3 => some ((r3.1.1, ()), ())) else ((g_suite_Encode ((IntKind.wrap .i64 (1 + (IntKind.wrap .i64 (a0.tmod 4)))), a1, ())).bind fun r4 => (if (r4.1.2.2.1 != 0) = true then ((g_top_awake ()).bind fun r5 => some ((r5.1.1, ()), ())) else (L_top_WholeAtOnce_0 n n a1 a2 r4 (IntKind.wrap .i64 (1 + (IntKind.wrap .i64 (a0.tmod 4)))) 0))))) := by kernel_rfl
theorem L_top_WholeAtOnce_0_eq (n m : Nat) (a1 : List S_api_Msg) (a2 : Int) (r4 : ((List UInt8) × Int × Int × Unit) × Unit) (x7 : Int) (x11 : Int) : L_top_WholeAtOnce_0 n (m + 1) a1 a2 r4 x7 x11 =
  if (decide (x11 < (a1.length : Int))) = true then (if 0 ≤ x11 ∧ x11 ≤ (IntKind.wrap .i64 (x11 + 1)) ∧ (IntKind.wrap .i64 (x11 + 1)) ≤ (a1.length : Int) then ((g_suite_Encode (x7, ((a1.take (IntKind.wrap .i64 (x11 + 1)).toNat).drop x11.toNat), ())).bind fun r6 => (if (r6.1.2.2.1 != 0) = true then some ((false, ()), ()) else (if (decide ((IntKind.wrap .i64 ((r4.1.1.length : Int) + (IntKind.wrap .i64 a2))) < (r6.1.1.length : Int))) = true then ((g_top_awake ()).bind fun r7 => some ((r7.1.1, ()), ())) else (L_top_WholeAtOnce_0 n m a1 a2 r4 x7 (IntKind.wrap .i64 (x11 + 1)))))) else none) else ((g_pack_Pack (x7, a1, (IntKind.wrap .i64 ((r4.1.1.length : Int) + (IntKind.wrap .i64 a2))), ())).bind fun r8 => ((g_top_awake ()).bind fun r9 => (if r9.1.1 = true then (if (r8.1.2.2.1 == 0) = true then (if ((r8.1.1.length : Int) == 1) = true then (r8.1.1[0]?.bind fun (y10 : List UInt8) => some (((y10 == r4.1.1), ()), ())) else some ((false, ()), ())) else some ((false, ()), ())) else some ((false, ()), ())))) := by kernel_rfl
end Go.VI
