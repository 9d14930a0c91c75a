/- The message of any TLV of fields is the document's: for all arguments. -/
import Derived.Test.YtpapfbpefhcobaaFQ3
import Derived.Test.YtpapfbpefhcobaaPBase
import Derived.Test.YtpapfbpefhcobaaPCur
import Derived.Test.YtpapfbpefhcobaaPOct
import Derived.Test.YtpapfbpefhcobaaPTlv
import Derived.Test.YtpapfbpefhcobaaPSub
import Derived.Test.YtpapfbpefhcobaaPMsg
import Derived.Test.YtpapfbpefhcobaaPAddr
import Derived.Test.YtpapfbpefhcobaaPField
import Derived.Test.YtpapfbpefhcobaaPFieldG
import Derived.Test.YtpapfbpefhcobaaPFieldB
import Derived.Test.YtpapfbpefhcobaaPGood
set_option linter.unusedVariables false
set_option linter.unusedSimpArgs false
set_option maxRecDepth 100000
namespace Go.VP
open Go Go.VI
theorem fieldGets_pure (x0 : S_api_Tlv) (g0 : Good_api_Tlv x0) : g_law20_FieldGets (x0, ()) = some ((true, ()), ()) := by
  rw [g_law20_FieldGets_eq, awake20, Option.bind_some]
  by_cases h1 : x0.type_ < 2
  · rw [ifd h1]
  by_cases h2 : 5 < x0.type_
  · rw [ifn h1, ifd h2]
  by_cases h3 : (300 : Int) < x0.data.length
  · rw [ifn h1, ifn h2, ifd h3]
  obtain ⟨t, a, d⟩ := x0
  dsimp only at h1 h2 h3 ⊢
  rw [ifn h1, ifn h2, ifn h3, getF_is (by omega) (by omega), Option.bind_some, rgetF_is (by omega) (by omega), Option.bind_some, Option.bind_some]
  have hl : (fieldG t d).1.list.length ≤ 1000 ∧ (fieldG t d).1.subs.length ≤ 1000 := by
    rcases fieldG_cases (ty := t) (d := d) (by omega) (by omega) with ⟨m, e, _, g, _⟩ | ⟨x, e⟩
    · rw [e]; exact ⟨g.few.list, g.few.subs⟩
    · rw [e]; exact ⟨by simp, by simp⟩
  dsimp only [trip]
  rw [ift, same_is (by omega) (by omega), eqB_refl, Option.bind_some, ift]
  simp
end Go.VP
