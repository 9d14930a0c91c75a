import Derived.Test.YtojlppofmjkmhaaDoorGFH
import Derived.Test.YtojlppofmjkmhaaDoorGHOk
import Derived.Test.YtojlppofmjkmhaaDoorGHPrintH
import Derived.Test.YtojlppofmjkmhaaDoorGHReadF
import Derived.Test.YtojlppofmjkmhaaDoorGHReadZ
set_option linter.unusedVariables false
set_option linter.unusedSimpArgs false
set_option maxRecDepth 1000000
set_option maxHeartbeats 4000000
namespace Go.VI
open Go Go.Proofs
theorem e_text_Print_ok : OkE e_text_Print := x_text_Print_ok
theorem e_text_Read_ok : OkE e_text_Read := x_text_Read_ok
theorem e_law29_awake_ok : OkE e_law29_awake := @okF es_law29_awake (okC e_text_Print_ok (okC e_text_Read_ok (okC e_ref07_Same_ok (okC e_text_Word_ok okN)))) ad_law29_awake 0 8 Tryd.f8 Tryd.func8 (by kernel_rfl) (by kernel_rfl) sg_law29_awake
theorem e_ref29_Read_ok : OkE e_ref29_Read := x_ref29_Read_ok
theorem e_law29_TextReads_ok : OkE e_law29_TextReads := @okF es_law29_TextReads (okC e_law29_awake_ok (okC e_text_Read_ok (okC e_ref29_Read_ok (okC e_ref07_Same_ok okN)))) ad_law29_TextReads 0 4 Tryd.f4 Tryd.func4 (by kernel_rfl) (by kernel_rfl) sg_law29_TextReads
end Go.VI
