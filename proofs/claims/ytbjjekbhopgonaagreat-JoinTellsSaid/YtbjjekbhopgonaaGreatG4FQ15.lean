import Derived.Test.YtbjjekbhopgonaaGreatG4FH
set_option linter.unusedVariables false
set_option linter.unusedSimpArgs false
set_option maxRecDepth 1000000
set_option maxHeartbeats 4000000
namespace Go.VI
open Go Go.Proofs
theorem h_ref07_SameAll_eq (n : Nat) (a0 : List S_api_Msg) (a1 : List S_api_Msg) : h_ref07_SameAll n (a0, a1, ()) =
  if ((a0.length : Int) != (a1.length : Int)) = true then some ((false, ()), ()) else (L_ref07_SameAll_0 n n a0 a1 0) := by kernel_rfl
theorem L_ref07_SameAll_0_eq (n m : Nat) (a0 : List S_api_Msg) (a1 : List S_api_Msg) (x5 : Int) : L_ref07_SameAll_0 n (m + 1) a0 a1 x5 =
  if (decide (x5 < (a0.length : Int))) = true then (if 0 ≤ x5 then (a0[x5.toNat]?.bind fun (y1 : S_api_Msg) => (if 0 ≤ x5 then (a1[x5.toNat]?.bind fun (y2 : S_api_Msg) => ((g_ref07_Same (y1, y2, ())).bind fun r3 => (if (!r3.1.1) = true then some ((false, ()), ()) else (L_ref07_SameAll_0 n m a0 a1 (IntKind.wrap .i64 (x5 + 1)))))) else none)) else none) else some ((true, ()), ()) := by kernel_rfl
theorem h_law28_few_eq (n : Nat) (a0 : List (List UInt8)) : h_law28_few n (a0, ()) =
  if (decide (12 < (a0.length : Int))) = true then some ((false, ()), ()) else (L_law28_few_0 n n a0 0) := by kernel_rfl
theorem L_law28_few_0_eq (n m : Nat) (a0 : List (List UInt8)) (x3 : Int) : L_law28_few_0 n (m + 1) a0 x3 =
  if (decide (x3 < (a0.length : Int))) = true then (if 0 ≤ x3 then (a0[x3.toNat]?.bind fun (y1 : List UInt8) => (if (decide (1000 < (y1.length : Int))) = true then some ((false, ()), ()) else (L_law28_few_0 n m a0 (IntKind.wrap .i64 (x3 + 1))))) else none) else some ((true, ()), ()) := by kernel_rfl
theorem h_join_Join_eq (n : Nat) (a0 : Int) (a1 : List (List UInt8)) : h_join_Join n (a0, a1, ()) =
  if (decide (a0 < 1)) = true then some (([], 0, 0, 1, ()), ()) else (if (decide (4 < a0)) = true then some (([], 0, 0, 1, ()), ()) else (L_join_Join_0 n n a0 a1 [] 0)) := by kernel_rfl
theorem L_join_Join_0_eq (n m : Nat) (a0 : Int) (a1 : List (List UInt8)) (x8 : List S_api_Msg) (x21 : Int) : L_join_Join_0 n (m + 1) a0 a1 x8 x21 =
  if (decide (x21 < (a1.length : Int))) = true then (if 0 ≤ x21 then (a1[x21.toNat]?.bind fun (y1 : List UInt8) => ((g_suite_Parse (a0, y1, ())).bind fun r2 => (if (r2.1.2.2.1 != 0) = true then some (([], x21, r2.1.2.1, r2.1.2.2.1, ()), ()) else (if roomB ((x8.length + r2.1.1.length) * bo_api_Msg) = true then (L_join_Join_0 n m a0 a1 (x8 ++ r2.1.1) (IntKind.wrap .i64 (x21 + 1))) else none)))) else none) else some ((x8, 0, 0, 0, ()), ()) := by kernel_rfl
theorem h_ref28_Join_eq (n : Nat) (a0 : Int) (a1 : List (List UInt8)) : h_ref28_Join n (a0, a1, ()) =
  if (decide (a0 < 1)) = true then some (([], 0, 0, 1, ()), ()) else (if (decide (4 < a0)) = true then some (([], 0, 0, 1, ()), ()) else (L_ref28_Join_0 n n a0 a1 [] 0)) := by kernel_rfl
theorem L_ref28_Join_0_eq (n m : Nat) (a0 : Int) (a1 : List (List UInt8)) (x8 : List S_api_Msg) (x9 : Int) : L_ref28_Join_0 n (m + 1) a0 a1 x8 x9 =
  if (decide (x9 < (a1.length : Int))) = true then (if 0 ≤ x9 then (a1[x9.toNat]?.bind fun (y1 : List UInt8) => ((g_ref26_Parse (a0, y1, ())).bind fun r2 => (if (r2.1.2.2.1 != 0) = true then some (([], x9, r2.1.2.1, r2.1.2.2.1, ()), ()) else (if roomB ((x8.length + r2.1.1.length) * bo_api_Msg) = true then (L_ref28_Join_0 n m a0 a1 (x8 ++ r2.1.1) (IntKind.wrap .i64 (x9 + 1))) else none)))) else none) else some ((x8, 0, 0, 0, ()), ()) := by kernel_rfl
theorem g_law28_JoinTells_eq (a0 : Int) (a1 : List (List UInt8)) : g_law28_JoinTells (a0, a1, ()) =
  (g_law28_few (a1, ())).bind fun r1 => (if (!r1.1.1) = true then ((g_law28_awake ()).bind fun r2 => some ((r2.1.1, ()), ())) else ((g_join_Join (a0, a1, ())).bind fun r3 => ((g_ref28_Join (a0, a1, ())).bind fun r4 => ((g_law28_awake ()).bind fun r5 => (if r5.1.1 = true then ((g_ref07_SameAll (r3.1.1, r4.1.1, ())).bind fun r6 => (if r6.1.1 = true then (if (r3.1.2.1 == r4.1.2.1) = true then (if (r3.1.2.2.1 == r4.1.2.2.1) = true then some (((r3.1.2.2.2.1 == r4.1.2.2.2.1), ()), ()) else some ((false, ()), ())) else some ((false, ()), ())) else some ((false, ()), ()))) else some ((false, ()), ())))))) := by kernel_rfl
end Go.VI
