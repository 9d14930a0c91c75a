/- Addresses: which kind, link-local, short, long. -/
import Derived.Test.YthmafkkiefndnaaGreatQFQ0
import Derived.Test.YthmafkkiefndnaaGreatQFH
import Derived.Test.YthmafkkiefndnaaGreatQFQ2
import Derived.Test.YthmafkkiefndnaaGreatQFQ3
import Derived.Test.YthmafkkiefndnaaGreatQFQ5
import Derived.Test.YthmafkkiefndnaaGreatQFQ6
import Derived.Test.YthmafkkiefndnaaGreatQFQ7
import Derived.Test.YthmafkkiefndnaaGreatQPBase
import Derived.Test.YthmafkkiefndnaaGreatQPCur
import Derived.Test.YthmafkkiefndnaaGreatQPOct
set_option linter.unusedVariables false
set_option linter.unusedSimpArgs false
set_option maxRecDepth 100000
namespace Go.VP
open Go Go.VI
def linkP : Bs := [254, 128, 0, 0, 0, 0, 0, 0]
def linkB (a : Bs) : Bool := decide (a.length = 16) && (a.take 8 == linkP)
theorem hasP_is (a p : Bs) : g_strings_HasPrefix (a, p, ()) = some ((decide (p.length ≤ a.length) && (a.take p.length == p), ()), ()) := by
  rw [g_strings_HasPrefix_eq, g_internal_stringslite_HasPrefix_eq]
  by_cases h : p.length ≤ a.length
  · rw [ifd (by omega), if_pos (by omega), Option.bind_some, Int.toNat_natCast, decide_eq_true h]; rfl
  · rw [ifn (by omega), Option.bind_some, decide_eq_false h]; rfl
theorem link_is (a : Bs) : g_addr_Link (a, ()) = some ((linkB a, ()), ()) := by
  rw [g_addr_Link_eq, hasP_is, Option.bind_some]
  unfold linkB
  by_cases h : a.length = 16
  · rw [if_pos (by simp; omega), decide_eq_true h]
    have : decide (([254, 128, 0, 0, 0, 0, 0, 0] : Bs).length ≤ a.length) = true := by simp; omega
    rw [this]; rfl
  · rw [if_neg (by simp; omega), decide_eq_false h]; rfl
theorem linkB_len {a : Bs} (h : linkB a = true) : a.length = 16 ∧ a.take 8 = linkP := by
  simpa [linkB] using h
def famF (a : Bs) : Int := if a.length = 4 then 0 else if a.length = 16 then 1 else -1
theorem fam_is (a : Bs) : g_addr_Family (a, ()) = some ((famF a, ()), ()) := by
  rw [g_addr_Family_eq]
  unfold famF
  by_cases h : a.length = 4
  · rw [if_pos (by simp; omega), if_pos h]
  · rw [if_neg (by simp; omega), if_neg h]
    by_cases h2 : a.length = 16
    · rw [if_pos (by simp; omega), if_pos h2]
    · rw [if_neg (by simp; omega), if_neg h2]
end Go.VP
