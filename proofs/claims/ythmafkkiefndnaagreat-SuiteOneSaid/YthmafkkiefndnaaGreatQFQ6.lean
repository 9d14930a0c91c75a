import Derived.Test.YthmafkkiefndnaaGreatQFH
set_option linter.unusedVariables false
set_option linter.unusedSimpArgs false
set_option maxRecDepth 1000000
set_option maxHeartbeats 4000000
namespace Go.VI
open Go Go.Proofs
theorem g_lean_Right_eq (a0 : S_api_Msg) : g_lean_Right (a0, ()) =
  if (a0.kind == 11) = true then ((g_ctx_Right (a0, ())).bind fun r1 => some ((r1.1.1, ()), ())) else (if (a0.kind == 12) = true then (if (a0.kind == 12) = true then ((g_route_Right (a0, ())).bind fun r2 => some ((r2.1.1, ()), ())) else (if (a0.kind == 14) = true then ((g_msg_Bare (a0, ())).bind fun r3 => (if r3.1.1 = true then (if (decide (10 < a0.type_)) = true then (if (decide (a0.type_ < 256)) = true then some (((decide ((a0.data.length : Int) < 256)), ()), ()) else some ((false, ()), ())) else some ((false, ()), ())) else some ((false, ()), ()))) else ((g_field_Right (a0, ())).bind fun r4 => some ((r4.1.1, ()), ())))) else (if (a0.kind == 13) = true then ((g_route_Right (a0, ())).bind fun r5 => some ((r5.1.1, ()), ())) else (if (a0.kind == 14) = true then ((g_msg_Bare (a0, ())).bind fun r6 => (if r6.1.1 = true then (if (decide (10 < a0.type_)) = true then (if (decide (a0.type_ < 256)) = true then some (((decide ((a0.data.length : Int) < 256)), ()), ()) else some ((false, ()), ())) else some ((false, ()), ())) else some ((false, ()), ()))) else ((g_field_Right (a0, ())).bind fun r7 => some ((r7.1.1, ()), ()))))) := by kernel_rfl
end Go.VI
