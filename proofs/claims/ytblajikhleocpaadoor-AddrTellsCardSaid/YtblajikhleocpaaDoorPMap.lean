/- Addresses of IPv4 as IPv6: program and document. -/
import Derived.Test.YtblajikhleocpaaDoorFQ0
import Derived.Test.YtblajikhleocpaaDoorPBase
import Derived.Test.YtblajikhleocpaaDoorPCur
import Derived.Test.YtblajikhleocpaaDoorPOct
import Derived.Test.YtblajikhleocpaaDoorPAddr
set_option linter.unusedVariables false
set_option linter.unusedSimpArgs false
set_option maxRecDepth 100000
namespace Go.VP
open Go Go.VI
def mapP : Bs := [0, 0, 0, 0, 0, 0, 0, 0, 0, 0, 255, 255]
def mapF (s : Bs) : Bs × Bool := if s.length = 4 then (mapP ++ s, true) else ([], false)
def unmB (a : Bs) : Bool := decide (a.length = 16) && (a.take 12 == mapP)
def unmF (a : Bs) : Bs × Bool := if unmB a = true then (a.drop 12, true) else ([], false)
theorem map_is (s : Bs) : g_addr_Map (s, ()) = some (((mapF s).1, (mapF s).2, ()), ()) := by
  rw [g_addr_Map_eq]
  unfold mapF
  by_cases h : s.length = 4
  · rw [if_neg (by simp [h]), if_pos (maxB_of (by omega)), if_pos h]; rfl
  · rw [if_pos (by simp; omega), if_neg h]
theorem rmap_is (s : Bs) : g_ref06_Map (s, ()) = some (((mapF s).1, (mapF s).2, ()), ()) := by
  rw [g_ref06_Map_eq, g_ref06_mapped_eq, Option.bind_some]
  unfold mapF
  by_cases h : s.length = 4
  · rw [if_neg (by simp [h]), if_pos (maxB_of (by simp; omega)), if_pos h]; rfl
  · rw [if_pos (by simp; omega), if_neg h]
theorem unmap_is (a : Bs) : g_addr_Unmap (a, ()) = some (((unmF a).1, (unmF a).2, ()), ()) := by
  rw [g_addr_Unmap_eq, hasP_is, Option.bind_some]
  unfold unmF unmB
  by_cases h : a.length = 16
  · rw [if_neg (by simp [h])]
    by_cases h2 : a.take 12 = mapP
    · have e : (decide (([0, 0, 0, 0, 0, 0, 0, 0, 0, 0, 255, 255] : Bs).length ≤ a.length) && (a.take ([0, 0, 0, 0, 0, 0, 0, 0, 0, 0, 255, 255] : Bs).length == [0, 0, 0, 0, 0, 0, 0, 0, 0, 0, 255, 255])) = true := by
        rw [show ([0, 0, 0, 0, 0, 0, 0, 0, 0, 0, 255, 255] : Bs) = mapP from rfl, show mapP.length = 12 from rfl, h2]; simp [h]
      rw [e]
      dsimp only
      rw [ifnt, if_pos (by omega), if_pos (by rw [h2]; simp [h])]
    · have e : (decide (([0, 0, 0, 0, 0, 0, 0, 0, 0, 0, 255, 255] : Bs).length ≤ a.length) && (a.take ([0, 0, 0, 0, 0, 0, 0, 0, 0, 0, 255, 255] : Bs).length == [0, 0, 0, 0, 0, 0, 0, 0, 0, 0, 255, 255])) = false := by
        rw [show ([0, 0, 0, 0, 0, 0, 0, 0, 0, 0, 255, 255] : Bs) = mapP from rfl, show mapP.length = 12 from rfl]; simp [h2]
      rw [e]
      dsimp only
      rw [ifnf, if_neg (by simp [h2])]
  · rw [if_pos (by simp; omega), if_neg (by simp [h])]
theorem runmap_is (a : Bs) : g_ref06_Unmap (a, ()) = some (((unmF a).1, (unmF a).2, ()), ()) := by
  rw [g_ref06_Unmap_eq, g_ref06_mapped_eq, Option.bind_some]
  unfold unmF unmB
  by_cases h : a.length = 16
  · rw [if_neg (by simp [h]), if_pos (by omega)]
    dsimp only
    by_cases h2 : a.take 12 = mapP
    · rw [show ([0, 0, 0, 0, 0, 0, 0, 0, 0, 0, 255, 255] : Bs) = mapP from rfl, h2, if_neg (by simp), if_pos (by omega), if_pos (by simp [h])]
    · rw [show ([0, 0, 0, 0, 0, 0, 0, 0, 0, 0, 255, 255] : Bs) = mapP from rfl, if_pos (by simp [h2]), if_neg (by simp [h2])]
  · rw [if_pos (by simp; omega), if_neg (by simp [h])]
theorem awake06 : g_law06_awake () = some ((true, ()), ()) := by kernel_rfl
theorem awb06 {α : Type} (f : (Bool × Unit) × Unit → Option α) : (g_law06_awake ()).bind f = f ((true, ()), ()) := by rw [awake06]; rfl
theorem unm_map {s : Bs} (h : s.length = 4) : unmF (mapP ++ s) = (s, true) := by
  unfold unmF unmB
  have e1 : (mapP ++ s).take 12 = mapP := by rw [show 12 = mapP.length from rfl, List.take_left]
  have e2 : (mapP ++ s).drop 12 = s := by rw [show 12 = mapP.length from rfl, List.drop_left]
  have e3 : (mapP ++ s).length = 16 := by rw [List.length_append, h]; rfl
  rw [e1, e2, e3]; rfl
theorem short_long {s : Bs} (h : s.length = 8) : shortF (linkP ++ s) = (s, true) := by
  unfold shortF
  rw [link_long h, if_pos rfl]
  have e2 : (linkP ++ s).drop 8 = s := by rw [show 8 = linkP.length from rfl, List.drop_left]
  rw [e2]
theorem unm_link {s : Bs} (h : unmB s = true) : linkB s = false := by
  unfold unmB at h
  rw [Bool.and_eq_true] at h
  have h1 := of_decide_eq_true h.1
  have h2 : s.take 12 = mapP := by simpa using h.2
  cases hl : linkB s with
  | false => rfl
  | true =>
    have h3 := (linkB_len hl).2
    have : (s.take 12).take 8 = s.take 8 := by rw [List.take_take]; rfl
    rw [h2, h3] at this
    exact absurd this (by decide)
end Go.VP
