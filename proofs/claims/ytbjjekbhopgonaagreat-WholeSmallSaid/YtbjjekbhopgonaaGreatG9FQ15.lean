import Derived.Test.YtbjjekbhopgonaaGreatG9FH
set_option linter.unusedVariables false
set_option linter.unusedSimpArgs false
set_option maxRecDepth 1000000
set_option maxHeartbeats 4000000
namespace Go.VI
open Go Go.Proofs
theorem g_pack_datagram_eq (a0 : Int) (a1 : List S_api_Msg) (a2 : Int) : g_pack_datagram (a0, a1, a2, ()) =
  (g_suite_Encode (a0, a1, ())).bind fun r1 => (if (r1.1.2.2.1 == 0) = true then some ((r1.1.1, (decide ((r1.1.1.length : Int) ≤ a2)), ()), ()) else some ((r1.1.1, false, ()), ())) := by kernel_rfl
theorem g_pack_Fits_eq (a0 : Int) (a1 : List S_api_Msg) (a2 : Int) : g_pack_Fits (a0, a1, a2, ()) =
  (g_pack_datagram (a0, a1, a2, ())).bind fun r1 => some ((r1.1.2.1, ()), ()) := by kernel_rfl
theorem h_pack_check_eq (n : Nat) (a0 : Int) (a1 : List S_api_Msg) (a2 : Int) : h_pack_check n (a0, a1, a2, ()) =
  if (decide (a0 < 1)) = true then some ((0, 1, ()), ()) else (if (decide (4 < a0)) = true then some ((0, 1, ()), ()) else (L_pack_check_0 n n a0 a1 a2 0)) := by kernel_rfl
theorem L_pack_check_0_eq (n m : Nat) (a0 : Int) (a1 : List S_api_Msg) (a2 : Int) (x19 : Int) : L_pack_check_0 n (m + 1) a0 a1 a2 x19 =
  if (decide (x19 < (a1.length : Int))) = true then (if 0 ≤ x19 then (a1[x19.toNat]?.bind fun (y1 : S_api_Msg) => ((g_suite_Right (a0, y1, ())).bind fun r2 => (if (!r2.1.1) = true then some ((x19, 1, ()), ()) else (L_pack_check_0 n m a0 a1 a2 (IntKind.wrap .i64 (x19 + 1)))))) else none) else (L_pack_check_1 n n a0 a1 a2 0) := by kernel_rfl
theorem L_pack_check_1_eq (n m : Nat) (a0 : Int) (a1 : List S_api_Msg) (a2 : Int) (x32 : Int) : L_pack_check_1 n (m + 1) a0 a1 a2 x32 =
  if (decide (x32 < (a1.length : Int))) = true then (if 0 ≤ x32 ∧ x32 ≤ (IntKind.wrap .i64 (x32 + 1)) ∧ (IntKind.wrap .i64 (x32 + 1)) ≤ (a1.length : Int) then ((g_pack_Fits (a0, ((a1.take (IntKind.wrap .i64 (x32 + 1)).toNat).drop x32.toNat), a2, ())).bind fun r3 => (if (!r3.1.1) = true then some ((x32, 11, ()), ()) else (L_pack_check_1 n m a0 a1 a2 (IntKind.wrap .i64 (x32 + 1))))) else none) else some ((0, 0, ()), ()) := by kernel_rfl
theorem h_pack_Pack_eq (n : Nat) (a0 : Int) (a1 : List S_api_Msg) (a2 : Int) : h_pack_Pack n (a0, a1, a2, ()) =
  (g_pack_check (a0, a1, a2, ())).bind fun r1 => (if (r1.1.2.1 != 0) = true then some (([], r1.1.1, r1.1.2.1, ()), ()) else (L_pack_Pack_0 n n a0 a2 a1 [])) := by kernel_rfl
theorem L_pack_Pack_0_eq (n m : Nat) (a0 : Int) (a2 : Int) (x1 : List S_api_Msg) (x11 : List (List UInt8)) : L_pack_Pack_0 n (m + 1) a0 a2 x1 x11 =
  if (decide (0 < (x1.length : Int))) = true then (L_pack_Pack_1 n m n a0 x1 a2 x11 ([] : List UInt8) 0) else some ((x11, 0, 0, ()), ()) := by kernel_rfl
theorem L_pack_Pack_1_eq (n m0 m : Nat) (a0 : Int) (x1 : List S_api_Msg) (a2 : Int) (x11 : List (List UInt8)) (x12 : List UInt8) (x13 : Int) : L_pack_Pack_1 n m0 (m + 1) a0 x1 a2 x11 x12 x13 =
  if (decide (x13 < (x1.length : Int))) = true then (if 0 ≤ (IntKind.wrap .i64 (x13 + 1)) ∧ (IntKind.wrap .i64 (x13 + 1)) ≤ (x1.length : Int) then ((g_pack_datagram (a0, (x1.take (IntKind.wrap .i64 (x13 + 1)).toNat), a2, ())).bind fun r2 => (if (!r2.1.2.1) = true then (if roomB ((x11.length + [x12].length) * bo_string) = true then (if 0 ≤ x13 ∧ x13 ≤ (x1.length : Int) then (L_pack_Pack_0 n m0 a0 a2 (x1.drop x13.toNat) (x11 ++ [x12])) else none) else none) else (L_pack_Pack_1 n m0 m a0 x1 a2 x11 r2.1.1 (IntKind.wrap .i64 (x13 + 1))))) else none) else (if roomB ((x11.length + [x12].length) * bo_string) = true then (if 0 ≤ x13 ∧ x13 ≤ (x1.length : Int) then (L_pack_Pack_0 n m0 a0 a2 (x1.drop x13.toNat) (x11 ++ [x12])) else none) else none) := by kernel_rfl
end Go.VI
