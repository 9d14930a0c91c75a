import Derived.Test.YtbjjekbhopgonaaGreatG8FH
set_option linter.unusedVariables false
set_option linter.unusedSimpArgs false
set_option maxRecDepth 1000000
set_option maxHeartbeats 4000000
namespace Go.VI
open Go Go.Proofs
theorem g_frame_Put_eq (a0 : Int) (a1 : List UInt8) : g_frame_Put (a0, a1, ()) =
  if (decide (a0 < 1)) = true then some ((([] : List UInt8), false, ()), ()) else (if (decide (255 < a0)) = true then some ((([] : List UInt8), false, ()), ()) else (if (decide (255 < (a1.length : Int))) = true then some ((([] : List UInt8), false, ()), ()) else (if maxB (([(u8of (IntKind.wrap .u8 a0)), (u8of (IntKind.wrap .u8 (a1.length : Int)))]).length + a1.length) = true then some (((([(u8of (IntKind.wrap .u8 a0)), (u8of (IntKind.wrap .u8 (a1.length : Int)))]) ++ a1), true, ()), ()) else none))) := by kernel_rfl
end Go.VI
