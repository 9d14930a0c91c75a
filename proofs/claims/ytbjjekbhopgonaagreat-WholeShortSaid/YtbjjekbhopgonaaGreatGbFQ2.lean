import Derived.Test.YtbjjekbhopgonaaGreatGbFH
set_option linter.unusedVariables false
set_option linter.unusedSimpArgs false
set_option maxRecDepth 1000000
set_option maxHeartbeats 4000000
namespace Go.VI
open Go Go.Proofs
theorem g_octet_Zeros_eq (a0 : Int) : g_octet_Zeros (a0, ()) =
  if 0 ≤ (if 0 > a0 then 0 else a0) ∧ (if 0 > a0 then 0 else a0) ≤ roomI then some (((List.replicate (if 0 > a0 then 0 else a0).toNat (0 : UInt8)), ()), ()) else none := by kernel_rfl
theorem g_strings_HasPrefix_eq (a0 : List UInt8) (a1 : List UInt8) : g_strings_HasPrefix (a0, a1, ()) =
  (g_internal_stringslite_HasPrefix (a0, a1, ())).bind fun r1 => some ((r1.1.1, ()), ()) := by kernel_rfl
theorem g_addr_Link_eq (a0 : List UInt8) : g_addr_Link (a0, ()) =
  if ((a0.length : Int) == 16) = true then ((g_strings_HasPrefix (a0, ([254, 128, 0, 0, 0, 0, 0, 0] : List UInt8), ())).bind fun r1 => some ((r1.1.1, ()), ())) else some ((false, ()), ()) := by kernel_rfl
theorem g_cursor_Left_eq (a0 : S_api_Cur) : g_cursor_Left (a0, ()) =
  if a0.bad = true then some ((0, ()), ()) else some (((IntKind.wrap .i64 (a0.end_ - a0.at_)), ()), ()) := by kernel_rfl
end Go.VI
