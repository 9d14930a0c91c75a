/- Addresses: which kind, link-local, short, long. -/
import Derived.Test.YtblajikhleocpaaDoorFQ0
import Derived.Test.YtblajikhleocpaaDoorPBase
import Derived.Test.YtblajikhleocpaaDoorPCur
import Derived.Test.YtblajikhleocpaaDoorPOct
set_option linter.unusedVariables false
set_option linter.unusedSimpArgs false
set_option maxRecDepth 100000
namespace Go.VP
open Go Go.VI
def linkP : Bs := [254, 128, 0, 0, 0, 0, 0, 0]
def linkB (a : Bs) : Bool := decide (a.length = 16) && (a.take 8 == linkP)
theorem hasP_is (a p : Bs) : g_strings_HasPrefix (a, p, ()) = some ((decide (p.length ≤ a.length) && (a.take p.length == p), ()), ()) := by
  rw [g_strings_HasPrefix_eq, g_internal_stringslite_HasPrefix_eq]
  by_cases h : p.length ≤ a.length
  · rw [ifd (by omega), if_pos (by omega), Option.bind_some, Int.toNat_natCast, decide_eq_true h]; rfl
  · rw [ifn (by omega), Option.bind_some, decide_eq_false h]; rfl
theorem link_is (a : Bs) : g_addr_Link (a, ()) = some ((linkB a, ()), ()) := by
  rw [g_addr_Link_eq, hasP_is, Option.bind_some]
  unfold linkB
  by_cases h : a.length = 16
  · rw [if_pos (by simp; omega), decide_eq_true h]
    have : decide (([254, 128, 0, 0, 0, 0, 0, 0] : Bs).length ≤ a.length) = true := by simp; omega
    rw [this]; rfl
  · rw [if_neg (by simp; omega), decide_eq_false h]; rfl
theorem rlink_is (a : Bs) : g_ref06_Link (a, ()) = some ((linkB a, ()), ()) := by
  rw [g_ref06_Link_eq, g_ref06_link_eq]
  unfold linkB
  by_cases h : a.length = 16
  · rw [if_pos (by simp; omega), if_pos (by omega), decide_eq_true h]; rfl
  · rw [if_neg (by simp; omega), decide_eq_false h]; rfl
theorem linkB_len {a : Bs} (h : linkB a = true) : a.length = 16 ∧ a.take 8 = linkP := by
  simpa [linkB] using h
def shortF (a : Bs) : Bs × Bool := if linkB a = true then (a.drop 8, true) else ([], false)
theorem short_is (a : Bs) : g_addr_Short (a, ()) = some (((shortF a).1, (shortF a).2, ()), ()) := by
  rw [g_addr_Short_eq, link_is, Option.bind_some]
  unfold shortF
  dsimp only
  by_cases h : linkB a = true
  · have := linkB_len h
    rw [h, ifnt, if_pos (by omega), ift]
  · rw [Bool.not_eq_true] at h
    rw [h, ifnf, iff_]
theorem rshort_is (a : Bs) : g_ref06_Short (a, ()) = some (((shortF a).1, (shortF a).2, ()), ()) := by
  rw [g_ref06_Short_eq, rlink_is, Option.bind_some]
  unfold shortF
  dsimp only
  by_cases h : linkB a = true
  · have := linkB_len h
    rw [h, ifnt, if_pos (by omega), ift]
  · rw [Bool.not_eq_true] at h
    rw [h, ifnf, iff_]
def longF (s : Bs) : Bs × Bool := if s.length = 8 then (linkP ++ s, true) else ([], false)
theorem long_is (s : Bs) : g_addr_Long (s, ()) = some (((longF s).1, (longF s).2, ()), ()) := by
  rw [g_addr_Long_eq]
  unfold longF
  by_cases h : s.length = 8
  · rw [if_neg (by simp; omega), if_pos (maxB_of (by omega)), if_pos h]; rfl
  · rw [if_pos (by simp; omega), if_neg h]
theorem rlong_is (s : Bs) : g_ref06_Long (s, ()) = some (((longF s).1, (longF s).2, ()), ()) := by
  rw [g_ref06_Long_eq, g_ref06_link_eq, Option.bind_some]
  unfold longF
  by_cases h : s.length = 8
  · rw [if_neg (by simp; omega)]
    have : maxB ((([254, 128, 0, 0, 0, 0, 0, 0] : Bs)).length + s.length) = true := maxB_of (by simp; omega)
    dsimp only
    rw [if_pos this, if_pos h]; rfl
  · rw [if_pos (by simp; omega), if_neg h]
def famF (a : Bs) : Int := if a.length = 4 then 0 else if a.length = 16 then 1 else -1
theorem fam_is (a : Bs) : g_addr_Family (a, ()) = some ((famF a, ()), ()) := by
  rw [g_addr_Family_eq]
  unfold famF
  by_cases h : a.length = 4
  · rw [if_pos (by simp; omega), if_pos h]
  · rw [if_neg (by simp; omega), if_neg h]
    by_cases h2 : a.length = 16
    · rw [if_pos (by simp; omega), if_pos h2]
    · rw [if_neg (by simp; omega), if_neg h2]
theorem link_long {s : Bs} (h : s.length = 8) : linkB (linkP ++ s) = true := by
  unfold linkB
  have e : (linkP ++ s).take 8 = linkP := by rw [List.take_append_of_le_length (by decide)]; rfl
  rw [e]
  simp [linkP, h]
theorem link_parts {a : Bs} (h : linkB a = true) : linkP ++ a.drop 8 = a := by
  rw [← (linkB_len h).2, List.take_append_drop]
end Go.VP
