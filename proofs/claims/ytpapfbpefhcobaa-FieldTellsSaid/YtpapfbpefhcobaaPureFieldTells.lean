/- Whether any message may be one of fields, and its bytes, are the document's: for all arguments. -/
import Derived.Test.YtpapfbpefhcobaaFQ2
import Derived.Test.YtpapfbpefhcobaaPBase
import Derived.Test.YtpapfbpefhcobaaPCur
import Derived.Test.YtpapfbpefhcobaaPOct
import Derived.Test.YtpapfbpefhcobaaPTlv
import Derived.Test.YtpapfbpefhcobaaPSub
import Derived.Test.YtpapfbpefhcobaaPMsg
import Derived.Test.YtpapfbpefhcobaaPAddr
import Derived.Test.YtpapfbpefhcobaaPField
import Derived.Test.YtpapfbpefhcobaaPFieldG
import Derived.Test.YtpapfbpefhcobaaPFieldB
import Derived.Test.YtpapfbpefhcobaaPGood
set_option linter.unusedVariables false
set_option linter.unusedSimpArgs false
set_option maxRecDepth 100000
namespace Go.VP
open Go Go.VI
theorem fieldTells_pure (x0 : S_api_Msg) (g0 : Good_api_Msg x0) : g_law20_FieldTells (x0, ()) = some ((true, ()), ()) := by
  obtain ⟨b, e, h⟩ := few_is (goodMsg g0)
  rw [g_law20_FieldTells_eq, e, Option.bind_some]
  dsimp only
  cases b with
  | false => rw [ifnf, awake20]; rfl
  | true =>
    have g := goodM g0 (h rfl).lite
    rw [ifnt, put_is g, Option.bind_some, rput20_is g, Option.bind_some, awake20, Option.bind_some, right_is g, Option.bind_some, rright_is g, Option.bind_some]
    simp
end Go.VP
