import Derived.Test.YtjdlhgdklmkkhaaGreatSpFH
set_option linter.unusedVariables false
set_option linter.unusedSimpArgs false
set_option maxRecDepth 1000000
set_option maxHeartbeats 4000000
namespace Go.VI
open Go Go.Proofs
theorem eh8:bI KW:=@bC bU bB Uy 0 93 Tryz.f93 Tryz.func93 (by kernel_rfl) (by kernel_rfl) Hf
theorem Y0:bI fe6:=@bC UK (bA eh8 bB) RG 0 52 Tryz.f52 Tryz.func52 (by kernel_rfl) (by kernel_rfl) jS
end Go.VI
