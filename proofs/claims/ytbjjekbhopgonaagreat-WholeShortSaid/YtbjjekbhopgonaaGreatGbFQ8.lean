import Derived.Test.YtbjjekbhopgonaaGreatGbFH
set_option linter.unusedVariables false
set_option linter.unusedSimpArgs false
set_option maxRecDepth 1000000
set_option maxHeartbeats 4000000
namespace Go.VI
open Go Go.Proofs
theorem g_ref22_Right_eq (a0 : S_api_Msg) : g_ref22_Right (a0, ()) =
  if (a0.kind != 11) = true then some ((false, ()), ()) else ((g_ref07_Bare (a0, ())).bind fun r1 => (if (!r1.1.1) = true then some ((false, ()), ()) else ((g_ref19_Right (a0.subs, ())).bind fun r2 => (if (!r2.1.1) = true then some ((false, ()), ()) else ((g_ref21_In (a0.ae, a0.prefix_, a0.plen, ())).bind fun r3 => (if (!r3.1.1) = true then some ((false, ()), ()) else ((g_ref22_two (a0.interval, ())).bind fun r4 => (if (!r4.1.1) = true then some ((false, ()), ()) else ((g_ref22_two (a0.seq, ())).bind fun r5 => (if (!r5.1.1) = true then some ((false, ()), ()) else ((g_ref22_two (a0.metric, ())).bind fun r6 => (if (!r6.1.1) = true then some ((false, ()), ()) else (if (a0.metric == 65535) = true then (if (a0.id == ([] : List UInt8)) = true then some (((a0.next == ([] : List UInt8)), ()), ()) else some ((false, ()), ())) else (if (a0.ae != 0) = true then (if ((a0.id.length : Int) == 8) = true then (if (a0.next == ([] : List UInt8)) = true then some ((true, ()), ()) else ((g_ref06_Family (a0.next, ())).bind fun r7 => ((g_ref22_Family (a0.ae, ())).bind fun r8 => some (((r7.1.1 == r8.1.1), ()), ())))) else some ((false, ()), ())) else some ((false, ()), ()))))))))))))))) := by kernel_rfl
theorem g_ref24_opaque_eq (a0 : S_api_Msg) : g_ref24_opaque (a0, ()) =
  if (a0.kind == 14) = true then ((g_ref07_Bare (a0, ())).bind fun r1 => (if r1.1.1 = true then (if (decide (11 ≤ a0.type_)) = true then (if (decide (a0.type_ ≤ 255)) = true then some (((decide ((a0.data.length : Int) ≤ 255)), ()), ()) else some ((false, ()), ())) else some ((false, ()), ())) else some ((false, ()), ()))) else some ((false, ()), ()) := by kernel_rfl
theorem g_ref24_Right_eq (a0 : S_api_Msg) : g_ref24_Right (a0, ()) =
  (g_ref20_Right (a0, ())).bind fun r1 => (if r1.1.1 = true then some ((true, ()), ()) else ((g_ref21_Right (a0, ())).bind fun r2 => (if r2.1.1 = true then some ((true, ()), ()) else ((g_ref22_Right (a0, ())).bind fun r3 => (if r3.1.1 = true then some ((true, ()), ()) else ((g_ref24_opaque (a0, ())).bind fun r4 => some ((r4.1.1, ()), ()))))))) := by kernel_rfl
end Go.VI
