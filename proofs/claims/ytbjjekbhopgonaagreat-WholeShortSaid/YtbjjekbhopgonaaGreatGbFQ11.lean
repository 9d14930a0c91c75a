import Derived.Test.YtbjjekbhopgonaaGreatGbFH
set_option linter.unusedVariables false
set_option linter.unusedSimpArgs false
set_option maxRecDepth 1000000
set_option maxHeartbeats 4000000
namespace Go.VI
open Go Go.Proofs
theorem h_ref02_Put_eq (n : Nat) (a0 : Int) (a1 : Int) : h_ref02_Put n (a0, a1, ()) =
  (g_ref02_Fits (a0, a1, ())).bind fun r1 => (if (!r1.1.1) = true then some ((([] : List UInt8), false, ()), ()) else (L_ref02_Put_0 n n a1 a0 ([] : List UInt8) 0)) := by kernel_rfl
theorem L_ref02_Put_0_eq (n m : Nat) (a1 : Int) (x0 : Int) (x6 : List UInt8) (x7 : Int) : L_ref02_Put_0 n (m + 1) a1 x0 x6 x7 =
  if (decide (x7 < a1)) = true then (if maxB (([(u8of (IntKind.wrap .u8 (x0.tmod 256)))]).length + x6.length) = true then (L_ref02_Put_0 n m a1 (IntKind.wrap .i64 (x0.tdiv 256)) (([(u8of (IntKind.wrap .u8 (x0.tmod 256)))]) ++ x6) (IntKind.wrap .i64 (x7 + 1))) else none) else some ((x6, true, ()), ()) := by kernel_rfl
theorem g_ref02_Of_eq (a0 : Int) (a1 : Int) : g_ref02_Of (a0, a1, ()) =
  (g_ref02_Put (a0, a1, ())).bind fun r1 => some ((r1.1.1, ()), ()) := by kernel_rfl
end Go.VI
