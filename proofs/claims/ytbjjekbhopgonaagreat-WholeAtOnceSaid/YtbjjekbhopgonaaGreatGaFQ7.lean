import Derived.Test.YtbjjekbhopgonaaGreatGaFH
set_option linter.unusedVariables false
set_option linter.unusedSimpArgs false
set_option maxRecDepth 1000000
set_option maxHeartbeats 4000000
namespace Go.VI
open Go Go.Proofs
theorem g_suite_Encode_eq (a0 : Int) (a1 : List S_api_Msg) : g_suite_Encode (a0, a1, ()) =
  if (a0 == 1) = true then ((g_rip_Encode (a1, ())).bind fun r1 => some ((r1.1.1, r1.1.2.1, r1.1.2.2.1, ()), ())) else (if (a0 == 2) = true then ((g_ripng_Encode (a1, ())).bind fun r2 => some ((r2.1.1, r2.1.2.1, r2.1.2.2.1, ()), ())) else (if (a0 == 3) = true then ((g_aodv_Encode (a1, ())).bind fun r3 => some ((r3.1.1, r3.1.2.1, r3.1.2.2.1, ()), ())) else (if (a0 == 4) = true then ((g_outlet_Encode (a1, ())).bind fun r4 => some ((r4.1.1, r4.1.2.1, r4.1.2.2.1, ()), ())) else some ((([] : List UInt8), 0, 1, ()), ())))) := by kernel_rfl
theorem g_suite_Right_eq (a0 : Int) (a1 : S_api_Msg) : g_suite_Right (a0, a1, ()) =
  if (a0 == 1) = true then ((g_rip_Right (a1, ())).bind fun r1 => some ((r1.1.1, ()), ())) else (if (a0 == 2) = true then ((g_ripng_Right (a1, ())).bind fun r2 => some ((r2.1.1, ()), ())) else (if (a0 == 3) = true then ((g_aodv_Right (a1, ())).bind fun r3 => some ((r3.1.1, ()), ())) else (if (a0 == 4) = true then ((g_lean_Right (a1, ())).bind fun r4 => some ((r4.1.1, ()), ())) else some ((false, ()), ())))) := by kernel_rfl
end Go.VI
