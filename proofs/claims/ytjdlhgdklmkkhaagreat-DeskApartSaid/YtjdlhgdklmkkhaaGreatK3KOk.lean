import Derived.Test.YtjdlhgdklmkkhaaGreatK3FH
set_option linter.unusedVariables false
set_option linter.unusedSimpArgs false
set_option maxRecDepth 1000000
set_option maxHeartbeats 4000000
namespace Go.VI
open Go Go.Proofs
theorem dy4:OkE da2:=@okF cR0 okN cQ9 0 93 Tryz.f93 Tryz.func93 (by kernel_rfl) (by kernel_rfl) bS9
theorem dH4:OkE ek7:=@okF da4 (okC dy4 okN) da3 0 52 Tryz.f52 Tryz.func52 (by kernel_rfl) (by kernel_rfl) ch6
end Go.VI
