/- Cursors: what is read, and what is left. -/
import Derived.Test.YthmafkkiefndnaaGreatQFQ0
import Derived.Test.YthmafkkiefndnaaGreatQFQ2
import Derived.Test.YthmafkkiefndnaaGreatQPBase
set_option linter.unusedVariables false
set_option linter.unusedSimpArgs false
set_option maxRecDepth 100000
namespace Go.VP
open Go Go.VI
structure WfC (s : Bs) (p q : Int) : Prop where
  lo : 0 ≤ p
  hi : p ≤ q
  top : q ≤ s.length
  sz : s.length ≤ 1000000000000000
end Go.VP
