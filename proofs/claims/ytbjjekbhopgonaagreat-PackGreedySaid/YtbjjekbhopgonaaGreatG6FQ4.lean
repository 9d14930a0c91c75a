import Derived.Test.YtbjjekbhopgonaaGreatG6FH
set_option linter.unusedVariables false
set_option linter.unusedSimpArgs false
set_option maxRecDepth 1000000
set_option maxHeartbeats 4000000
namespace Go.VI
open Go Go.Proofs
theorem g_auth_Put_eq (a0 : List UInt8) : g_auth_Put (a0, ()) =
  if ((a0.length : Int) != 18) = true then some ((([] : List UInt8), false, ()), ()) else (if maxB (2 + a0.length) = true then some (((([255, 255] : List UInt8) ++ a0), true, ()), ()) else none) := by kernel_rfl
end Go.VI
