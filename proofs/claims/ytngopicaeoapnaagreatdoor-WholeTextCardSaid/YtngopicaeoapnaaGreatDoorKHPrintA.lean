import Derived.Test.YtngopicaeoapnaaGreatDoorKHBase
import Derived.Test.YtngopicaeoapnaaGreatDoorKHFields
import Derived.Deep.RegionHeld3
import Derived.Laws.World
import Derived.IntWalk
set_option linter.unusedVariables false
set_option linter.unusedSimpArgs false
namespace Go.Proofs
open Go.RowKit Go.Sort Go.Lib
def bn4 (n : Int) : Bool := decide (n < 0 ∨ 1099511627776 < n)
set_option maxHeartbeats 4000000 in
theorem Tryz.far_w (n : Int) (w : World) : Calls Tryz.prog 40 #[.int .i64 n] w fun e w' => e = .returned (.bool (bn4 n)) ∧ w' = w := by
  by_cases h0 : n < 0
  · have hb : bn4 n = true := by simp [bn4, h0]
    have hd : decide (n < 0) = true := by simp [h0]
    rw [hb]
    go_enter Tryz.func40, Tryz.ntmps40
    go_wp2
    go_ret
    exact ⟨rfl, rfl⟩
  · have hd : decide (n < 0) = false := by simp; omega
    by_cases h1 : 1099511627776 < n
    · have hb : bn4 n = true := by simp [bn4, h1]
      have hd1 : decide (n > 1099511627776) = true := by simp; omega
      rw [hb]
      go_enter Tryz.func40, Tryz.ntmps40
      go_wp2
      go_ret
      exact ⟨rfl, rfl⟩
    · have hb : bn4 n = false := by simp [bn4]; omega
      have hd1 : decide (n > 1099511627776) = false := by simp; omega
      rw [hb]
      go_enter Tryz.func40, Tryz.ntmps40
      go_wp2
      go_ret
      exact ⟨rfl, rfl⟩
theorem Tryz.itoa_w (n : Int) (h0 : -9223372036854775808 ≤ n) (h1 : n ≤ 9223372036854775807) (w : World) (henv : Go.VI.envW w) :
    Calls Tryz.prog 39 #[.int .i64 n] w fun e w' => e = .returned (.string ⟨(Lib.itoa n).toArray⟩) ∧ Below w.heap.size w w' :=
  (Tryz.strconv_Itoa n h0 h1 w henv.1).mono fun e w' ⟨he, k, os, hw⟩ => ⟨he, by rw [hw]; exact ej7 w k os⟩
set_option maxHeartbeats 4000000 in
set_option maxRecDepth 100000 in
theorem Tryz.print_num0 (b o : Nat) (wd : ByteArray) (w : World) (hb : b < w.heap.size) (hc : w.cell? ⟨b, o, none⟩ = some (.int .i64 0)) :
    Calls Tryz.prog 17 #[.agg #[.string wd, .pointer (some ⟨b, o, none⟩), .pointer none, .pointer none, .pointer none]] w fun e w' => e = .returned (.tuple #[.string ⟨#[]⟩, .bool true]) ∧ Below w.heap.size w w' := by
  go_enter Tryz.func17, Tryz.ntmps17
  go_wp2
  go_ret2
  exact ⟨rfl, (Below.refl _ w).alloc (Nat.le_refl _) _⟩
set_option maxHeartbeats 4000000 in
set_option maxRecDepth 100000 in
theorem Tryz.print_num (b o : Nat) (wd : ByteArray) (n : Int) (w : World) (h0 : -9223372036854775808 ≤ n) (h1 : n ≤ 9223372036854775807) (hn : ¬ n = 0) (hb : b < w.heap.size) (hc : w.cell? ⟨b, o, none⟩ = some (.int .i64 n)) (henv : Go.VI.envW w) (hw : 4 ≤ w.heap.size) :
    Calls Tryz.prog 17 #[.agg #[.string wd, .pointer (some ⟨b, o, none⟩), .pointer none, .pointer none, .pointer none]] w fun e w' => e = .returned (.tuple #[.string ⟨(Lib.itoa n).toArray⟩, .bool (!bn4 n)]) ∧ Below w.heap.size w w' := by
  have hne : b ≠ w.heap.size := by omega
  go_enter Tryz.func17, Tryz.ntmps17
  go_wp2
  have hS0 : ((w.alloc (.cells #[.string wd, .pointer (some ⟨b, o, none⟩), .pointer none, .pointer none, .pointer none] 64)).drew).cell? ⟨w.heap.size, 1, none⟩ = some (.pointer (some ⟨b, o, none⟩)) := by simp
  have hS1 : ((w.alloc (.cells #[.string wd, .pointer (some ⟨b, o, none⟩), .pointer none, .pointer none, .pointer none] 64)).drew).cell? ⟨b, o, none⟩ = some (.int .i64 n) := by rw [World.cell?_drew, World.cell?_alloc_lt]; exact hc; exact hb
  have hbl : Below w.heap.size w ((w.alloc (.cells #[.string wd, .pointer (some ⟨b, o, none⟩), .pointer none, .pointer none, .pointer none] 64)).drew) := ((Below.refl _ w).alloc (Nat.le_refl _) _).trans (ag4 _ _)
  go_region_held3 (fun W => W.cell? ⟨w.heap.size, 1, none⟩ = some (.pointer (some ⟨b, o, none⟩)) ∧ W.cell? ⟨b, o, none⟩ = some (.int .i64 n) ∧ Below w.heap.size w W)
    (first | exact ⟨hS0, hS1, hbl⟩ | assumption | exact ⟨(hb'.cell (by simp)).trans hS0, (hb'.cell (by simp; omega)).trans hS1, hbl.trans (hb'.mono (by simp))⟩)
    (first | (go_at_call 39; refine (Tryz.itoa_w n h0 h1 _ (af9 henv hw hbl)).mono ?_; rintro e w' ⟨rfl, hb'⟩) | (go_at_call 40; refine (Tryz.far_w n _).mono ?_; rintro e w' ⟨rfl, rfl⟩))
  go_wp2
  go_ret2
  exact ⟨rfl, hbl.trans (hb'.mono (by simp))⟩
end Go.Proofs
