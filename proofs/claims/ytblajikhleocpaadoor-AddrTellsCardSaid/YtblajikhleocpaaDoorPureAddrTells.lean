/- What the program tells of addresses is what the document tells: for all arguments. -/
import Derived.Test.YtblajikhleocpaaDoorFQ0
import Derived.Test.YtblajikhleocpaaDoorPBase
import Derived.Test.YtblajikhleocpaaDoorPCur
import Derived.Test.YtblajikhleocpaaDoorPOct
import Derived.Test.YtblajikhleocpaaDoorPAddr
import Derived.Test.YtblajikhleocpaaDoorPMap
import Derived.Test.YtblajikhleocpaaDoorPNumR
import Derived.Test.YtblajikhleocpaaDoorPReadA
import Derived.Test.YtblajikhleocpaaDoorPTextR
import Derived.Test.YtblajikhleocpaaDoorPReadB
import Derived.Test.YtblajikhleocpaaDoorPReadC
import Derived.Test.YtblajikhleocpaaDoorFGood
set_option linter.unusedVariables false
set_option linter.unusedSimpArgs false
set_option maxRecDepth 100000
namespace Go.VP
open Go Go.VI
theorem addrTells_pure (x0 : List UInt8) (g0 : Good_string x0) (x1 : List UInt8) (g1 : Good_string x1) : g_law06_AddrTells (x0, x1, ()) = some ((true, ()), ()) := by
  rw [g_law06_AddrTells_eq]
  by_cases h0 : (100 : Int) < (x0.length : Int)
  · rw [ifd h0, awake06]; rfl
  rw [ifn h0]
  by_cases h1 : (100 : Int) < (x1.length : Int)
  · rw [ifd h1, awake06]; rfl
  have et : g_addr_Text (x0, ()) = some (((textA x0).1, (textA x0).2, ()), ()) := rfl
  rw [ifn h1, short_is, rshort_is, long_is, rlong_is, fam_is, r6fam_is, link_is, rlink_is, map_is, rmap_is, unmap_is, runmap_is, et, r6text_is, a6read_is (s := x1) (by omega), r6read_is (s := x1) (by omega), awake06]
  simp only [Option.bind_some, beq_self_eq_true, bne_self_eq_false, Bool.not_true, Bool.false_eq_true, if_false, if_true]
end Go.VP
