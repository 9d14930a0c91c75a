/- Short forms and mapped addresses come back; nothing is both: for all arguments. -/
import Derived.Test.YtblajikhleocpaaDoorFQ0
import Derived.Test.YtblajikhleocpaaDoorPBase
import Derived.Test.YtblajikhleocpaaDoorPCur
import Derived.Test.YtblajikhleocpaaDoorPOct
import Derived.Test.YtblajikhleocpaaDoorPAddr
import Derived.Test.YtblajikhleocpaaDoorPMap
import Derived.Test.YtblajikhleocpaaDoorFGood
set_option linter.unusedVariables false
set_option linter.unusedSimpArgs false
set_option maxRecDepth 100000
namespace Go.VP
open Go Go.VI
theorem addrForms_pure (x0 : List UInt8) (g0 : Good_string x0) : g_law06_AddrForms (x0, ()) = some ((true, ()), ()) := by
  rw [g_law06_AddrForms_eq, long_is, Option.bind_some, short_is, Option.bind_some, map_is, Option.bind_some, unmap_is, Option.bind_some, unmap_is, Option.bind_some, awb06, link_is, link_is]
  by_cases h100 : (100 : Int) < (x0.length : Int)
  · rw [ifd h100]
  rw [ifn h100]
  have n1 : shortF [] = ([], false) := rfl
  have n2 : unmF [] = ([], false) := rfl
  have n3 : linkB [] = false := rfl
  by_cases h8 : x0.length = 8
  · have e1 : longF x0 = (linkP ++ x0, true) := by unfold longF; rw [if_pos h8]
    have e2 := short_long h8
    have e3 : mapF x0 = ([], false) := by unfold mapF; rw [if_neg (by omega)]
    have e5 : unmF x0 = ([], false) := by unfold unmF unmB; rw [if_neg (by simp; omega)]
    have e6 := link_long h8
    rw [e1]
    dsimp only
    rw [e2, e3]
    dsimp only
    rw [n2, e5, e6, h8]
    simp [awake06]
  · have e1 : longF x0 = ([], false) := by unfold longF; rw [if_neg h8]
    have b8 : ((x0.length : Int) == 8) = false := by rw [beq_eq_false_iff_ne]; omega
    rw [e1]
    dsimp only
    rw [n1, n3, b8]
    by_cases h4 : x0.length = 4
    · have e3 : mapF x0 = (mapP ++ x0, true) := by unfold mapF; rw [if_pos h4]
      have e4 := unm_map h4
      have e5 : unmF x0 = ([], false) := by unfold unmF unmB; rw [if_neg (by simp; omega)]
      have b4 : ((x0.length : Int) == 4) = true := by rw [beq_iff_eq]; omega
      rw [e3]
      dsimp only
      rw [e4, e5, b4]
      simp [awake06]
    · have e3 : mapF x0 = ([], false) := by unfold mapF; rw [if_neg h4]
      have b4 : ((x0.length : Int) == 4) = false := by rw [beq_eq_false_iff_ne]; omega
      rw [e3]
      dsimp only
      rw [n2, b4]
      cases hu : unmB x0 with
      | false =>
        have e5 : unmF x0 = ([], false) := by unfold unmF; rw [hu]; rfl
        rw [e5]; simp [awake06]
      | true =>
        have e5 : unmF x0 = (x0.drop 12, true) := by unfold unmF; rw [hu]; rfl
        rw [e5, unm_link hu]; simp [awake06]
end Go.VP
