import Derived.Test.YtbjjekbhopgonaaGreatGbFH
set_option linter.unusedVariables false
set_option linter.unusedSimpArgs false
set_option maxRecDepth 1000000
set_option maxHeartbeats 4000000
namespace Go.VI
open Go Go.Proofs
theorem g_ref18_Wrap_eq (a0 : List UInt8) : g_ref18_Wrap (a0, ()) =
  if (decide (65531 < (a0.length : Int))) = true then some ((([] : List UInt8), false, ()), ()) else ((g_ref02_Of ((a0.length : Int), 2, ())).bind fun r1 => (if maxB (2 + r1.1.1.length) = true then (if maxB ((([42, 2] : List UInt8) ++ r1.1.1).length + a0.length) = true then some ((((([42, 2] : List UInt8) ++ r1.1.1) ++ a0), true, ()), ()) else none) else none)) := by kernel_rfl
theorem h_ref07_SameAll_eq (n : Nat) (a0 : List S_api_Msg) (a1 : List S_api_Msg) : h_ref07_SameAll n (a0, a1, ()) =
  if ((a0.length : Int) != (a1.length : Int)) = true then some ((false, ()), ()) else (L_ref07_SameAll_0 n n a0 a1 0) := by kernel_rfl
theorem L_ref07_SameAll_0_eq (n m : Nat) (a0 : List S_api_Msg) (a1 : List S_api_Msg) (x5 : Int) : L_ref07_SameAll_0 n (m + 1) a0 a1 x5 =
  if (decide (x5 < (a0.length : Int))) = true then (if 0 ≤ x5 then (a0[x5.toNat]?.bind fun (y1 : S_api_Msg) => (if 0 ≤ x5 then (a1[x5.toNat]?.bind fun (y2 : S_api_Msg) => ((g_ref07_Same (y1, y2, ())).bind fun r3 => (if (!r3.1.1) = true then some ((false, ()), ()) else (L_ref07_SameAll_0 n m a0 a1 (IntKind.wrap .i64 (x5 + 1)))))) else none)) else none) else some ((true, ()), ()) := by kernel_rfl
end Go.VI
