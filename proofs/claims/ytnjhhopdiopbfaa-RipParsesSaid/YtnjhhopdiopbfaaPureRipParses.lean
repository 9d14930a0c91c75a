/- The routes of any bytes are the document's: for all arguments. -/
import Derived.Test.YtnjhhopdiopbfaaFQ3
import Derived.Test.YtnjhhopdiopbfaaPBase
import Derived.Test.YtnjhhopdiopbfaaPCur
import Derived.Test.YtnjhhopdiopbfaaPOct
import Derived.Test.YtnjhhopdiopbfaaPTlv
import Derived.Test.YtnjhhopdiopbfaaPSub
import Derived.Test.YtnjhhopdiopbfaaPMsg
import Derived.Test.YtnjhhopdiopbfaaPBits
import Derived.Test.YtnjhhopdiopbfaaPRipA
import Derived.Test.YtnjhhopdiopbfaaPRipB
import Derived.Test.YtnjhhopdiopbfaaPRipC
import Derived.Test.YtnjhhopdiopbfaaPRipD
import Derived.Test.YtnjhhopdiopbfaaPRipE
import Derived.Test.YtnjhhopdiopbfaaPRipF
import Derived.Test.YtnjhhopdiopbfaaFGood
set_option linter.unusedVariables false
set_option linter.unusedSimpArgs false
set_option maxRecDepth 100000
namespace Go.VP
open Go Go.VI
theorem ripParses_pure' (x0 : List UInt8) : g_law10_RipParses (x0, ()) = some ((true, ()), ()) := by
  rw [g_law10_RipParses_eq]
  refine dq_step (fun h => ?_) (fun h => ?_)
  · rw [awake10]; rfl
  · have hs : ∀ m ∈ (parseR x0).1, m.list.length ≤ 1000000000 ∧ m.subs.length ≤ 1000000000 := parseR_all (P := fun m => m.list.length ≤ 1000000000 ∧ m.subs.length ≤ 1000000000) (fun c v s e => by simp [routeM])
    have hl := parseR_len (b := x0)
    rw [parse_is (by omega), Option.bind_some, rparse_is (by omega), Option.bind_some, awake10, Option.bind_some]
    dsimp only
    rw [ift, sameAll_is (by omega) hs, Option.bind_some]
    dsimp only
    rw [ift, if_pos (by simp)]
    simp
end Go.VP
namespace Go.VP
open Go Go.VI
theorem ripParses_pure (x0 : List UInt8) (g0 : Good_string x0) : g_law10_RipParses (x0, ()) = some ((true, ()), ()) := Go.VP.ripParses_pure' x0
end Go.VP
