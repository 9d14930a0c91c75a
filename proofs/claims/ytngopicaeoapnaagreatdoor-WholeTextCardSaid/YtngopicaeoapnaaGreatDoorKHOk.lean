import Derived.Test.YtngopicaeoapnaaGreatDoorKFH
import Derived.Test.YtngopicaeoapnaaGreatDoorKHNum
set_option linter.unusedVariables false
set_option linter.unusedSimpArgs false
set_option maxRecDepth 1000000
set_option maxHeartbeats 4000000
namespace Go.VI
open Go Go.Proofs
theorem dw2 : OkE cW2 := @okF cG3 okN cG2 0 36 Tryz.f36 Tryz.func36 (by kernel_rfl) (by kernel_rfl) bO6
theorem al5 : OkE ar6 := @okF cW4 (okC dw2 okN) cW3 0 13 Tryz.f13 Tryz.func13 (by kernel_rfl) (by kernel_rfl) ce9
theorem de6 : OkE cC2 := @okF co1 okN co0 fuel 50 Tryz.f50 Tryz.func50 (by kernel_rfl) (by kernel_rfl) bv0
theorem dp2 : OkE cM1 := @okF cC4 okN cC3 fuel 51 Tryz.f51 Tryz.func51 (by kernel_rfl) (by kernel_rfl) bH5
theorem dp3 : OkE cM2 := @okF cC6 (okC de6 (okC dp2 okN)) cC5 0 23 Tryz.f23 Tryz.func23 (by kernel_rfl) (by kernel_rfl) bH6
theorem cc3 : OkE bU0 := @okF cC8 okN cC7 0 38 Tryz.f38 Tryz.func38 (by kernel_rfl) (by kernel_rfl) bH8
theorem dw3 : OkE dZ7 := @okF cM6 (okC cc3 okN) cM5 0 15 Tryz.f15 Tryz.func15 (by kernel_rfl) (by kernel_rfl) bU1
theorem dw4 : OkE dZ8 := @okF bU3 (okC cc3 okN) bU2 fuel 20 Tryz.f20 Tryz.func20 (by kernel_rfl) (by kernel_rfl) bn1
theorem de7 : OkE dH3 := @okF bv2 okN bv1 fuel 41 Tryz.f41 Tryz.func41 (by kernel_rfl) (by kernel_rfl) aV8
theorem ci3 : OkE aP1 := ch7
theorem bo4 : OkE bU5 := @okF bI1 (okC ci3 okN) bI0 fuel 46 Tryz.f46 Tryz.func46 (by kernel_rfl) (by kernel_rfl) bb3
theorem bV9 : OkE bb5 := de4
theorem bW0 : OkE bb7 := de5
theorem dw5 : OkE dZ9 := @okF cM8 (okC bV9 (okC bo4 (okC bW0 okN))) cM7 0 48 Tryz.f48 Tryz.func48 (by kernel_rfl) (by kernel_rfl) bU6
theorem dI8 : OkE ej6 := @okF da9 (okC bV9 (okC bW0 (okC bo4 okN))) da8 0 49 Tryz.f49 Tryz.func49 (by kernel_rfl) (by kernel_rfl) ch6
end Go.VI
