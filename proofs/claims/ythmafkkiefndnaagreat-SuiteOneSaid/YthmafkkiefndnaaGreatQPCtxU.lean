/- What a parser of Babel knows: an Update's address, and what it leaves behind. -/
import Derived.Test.YthmafkkiefndnaaGreatQFH
import Derived.Test.YthmafkkiefndnaaGreatQPBase
import Derived.Test.YthmafkkiefndnaaGreatQPCur
import Derived.Test.YthmafkkiefndnaaGreatQPOct
import Derived.Test.YthmafkkiefndnaaGreatQPTlv
import Derived.Test.YthmafkkiefndnaaGreatQPSub
import Derived.Test.YthmafkkiefndnaaGreatQPMsg
import Derived.Test.YthmafkkiefndnaaGreatQPAddr
import Derived.Test.YthmafkkiefndnaaGreatQPBits
import Derived.Test.YthmafkkiefndnaaGreatQPField
import Derived.Test.YthmafkkiefndnaaGreatQPRoute
import Derived.Test.YthmafkkiefndnaaGreatQPRouteG
import Derived.Test.YthmafkkiefndnaaGreatQFQ3
import Derived.Test.YthmafkkiefndnaaGreatQPFieldB
import Derived.Test.YthmafkkiefndnaaGreatQPCtx
set_option linter.unusedVariables false
set_option linter.unusedSimpArgs false
set_option maxRecDepth 100000
namespace Go.VP
open Go Go.VI
theorem dq_step' {R : Type} {p : Prop} [Decidable p] {t f r : R} (h : p → t = r) (h' : ¬ p → f = r) : (if decide p = true then t else f) = r := by
  by_cases hp : p
  · rw [ifd hp]; exact h hp
  · rw [ifn hp]; exact h' hp
theorem be_step {R : Type} {x y : Bs} {f t r : R} (heq : x = y → t = r) (hne : x ≠ y → f = r) : (if (x == y) = true then t else f) = r := by
  by_cases h : x = y
  · rw [if_pos (by simp [h])]; exact heq h
  · rw [if_neg (by simpa using h)]; exact hne h
structure RawOk (r : Raw) : Prop where
  ae : 0 ≤ r.ae ∧ r.ae < 4
  om : 0 ≤ r.omitted
  plen : 0 ≤ r.plen ∧ r.plen ≤ 128
  len : r.omitted + r.bytes.length ≤ szA r.ae - baseA r.ae
  flags : 0 ≤ r.flags ∧ r.flags ≤ 255
  metric : 0 ≤ r.metric ∧ r.metric ≤ 65535
  have_ : r.have_ = 0 ∨ r.have_ = 1
  low : lowA r.ae ≤ r.plen
end Go.VP
