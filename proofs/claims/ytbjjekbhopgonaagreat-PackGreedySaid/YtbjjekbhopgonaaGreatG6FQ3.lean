import Derived.Test.YtbjjekbhopgonaaGreatG6FH
set_option linter.unusedVariables false
set_option linter.unusedSimpArgs false
set_option maxRecDepth 1000000
set_option maxHeartbeats 4000000
namespace Go.VI
open Go Go.Proofs
theorem h_msg_Bytes_eq (n : Nat) (a0 : List S_api_Sub) : h_msg_Bytes n (a0, ()) =
  L_msg_Bytes_0 n n a0 0 0 := by kernel_rfl
theorem L_msg_Bytes_0_eq (n m : Nat) (a0 : List S_api_Sub) (x3 : Int) (x8 : Int) : L_msg_Bytes_0 n (m + 1) a0 x3 x8 =
  if (decide (x8 < (a0.length : Int))) = true then (if 0 ≤ x8 then (a0[x8.toNat]?.bind fun (y1 : S_api_Sub) => (L_msg_Bytes_0 n m a0 (IntKind.wrap .i64 (x3 + (IntKind.wrap .i64 (2 + (y1.data.length : Int))))) (IntKind.wrap .i64 (x8 + 1)))) else none) else some ((x3, ()), ()) := by kernel_rfl
theorem g_ctx_Family_eq (a0 : Int) : g_ctx_Family (a0, ()) =
  if (a0 == 1) = true then some ((0, ()), ()) else (if (a0 == 2) = true then (if (a0 == 2) = true then some ((1, ()), ()) else some (((-1), ()), ())) else (if (a0 == 3) = true then some ((1, ()), ()) else some (((-1), ()), ()))) := by kernel_rfl
theorem g_route_shapes_eq : g_route_shapes () =
  some (((S_4_route_shape.mk 0 0 0 0 4 0 0 32 16 0 0 128 16 8 64 128), ()), ()) := by kernel_rfl
theorem g_prefix_Least_eq (a0 : Int) : g_prefix_Least (a0, ()) =
  some (((ishr .i64 (IntKind.wrap .i64 ((if 0 > a0 then 0 else a0) + 7)) 3), ()), ()) := by kernel_rfl
end Go.VI
