/- What the row's condition on the listed tables gives: the two tables of which the walk makes use. -/
import Derived.Test.YtblajikhleocpaaDoorRows
import Derived.Test.YtblajikhleocpaaDoorFTy
import Derived.Lib.LaidTab
import Derived.MakeChecks
set_option maxRecDepth 100000
set_option maxHeartbeats 4000000
namespace Go.VI
open Go Go.Proofs Go.Proofs.YtblajikhleocpaaDoor
theorem var_cells {P : Program} {w : World} {name : String} {g : Nat} {cs : Array Value} (hg : P.globalNamed name = some g) (h : w.var? P name = some cs) : ∃ T fz, w.heap[g]? = some (.cells cs T fz) := by
  unfold World.var? at h
  rw [hg] at h
  simp only [Option.bind_some] at h
  split at h
  · rename_i c T fz e
    cases h
    exact ⟨T, fz, e⟩
  · cases h
theorem env_of_laid {W : World} (h : laidMetH Tryd.prog Rows.addrFormsRow.laid W) : U.env W ∧ U.nb ≤ W.heap.size := by
  rw [MakeChecks.laidMetH_plain _ _ _ (by kernel_rfl)] at h
  obtain ⟨ps, ⟨g0, t0, cs0, f0, p0, q0, hg0, ht0, hv0, hd0, ⟨g1, t1, cs1, f1, p1, q1, hg1, ht1, hv1, hd1, ⟨g2, t2, cs2, f2, p2, q2, hg2, ht2, hv2, hd2, _, _⟩, _⟩, _⟩, _, _⟩ := h
  have G1 : Tryd.prog.globalNamed "math/bits.deBruijn64tab" = some 3 := by kernel_rfl
  have G2 : Tryd.prog.globalNamed "internal/strconv.uint64pow10" = some 1 := by kernel_rfl
  obtain rfl := Option.some.inj (G1.symm.trans hg1)
  obtain rfl := Option.some.inj (G2.symm.trans hg2)
  obtain rfl := Option.some.inj ((show (Tryd.prog.globals[3]?).map (·.type) = some 74 by kernel_rfl).symm.trans ht1)
  obtain rfl := Option.some.inj ((show (Tryd.prog.globals[1]?).map (·.type) = some 63 by kernel_rfl).symm.trans ht2)
  have e1 := Lib.cells_of_tab (k := .u8) (zs := [0, 1, 56, 2, 57, 49, 28, 3, 61, 58, 42, 50, 38, 29, 17, 4, 62, 47, 59, 36, 45, 43, 51, 22, 53, 39, 33, 30, 24, 18, 12, 5, 63, 55, 48, 27, 60, 41, 37, 16, 46, 35, 44, 21, 52, 32, 23, 11, 54, 26, 40, 15, 34, 20, 31, 10, 25, 14, 19, 9, 13, 8, 7, 6]) Tryd.underlying74 Tryd.underlying5 (by kernel_rfl) (by kernel_rfl) hd1
  have e2 := Lib.cells_of_tab (k := .u64) (zs := [1, 10, 100, 1000, 10000, 100000, 1000000, 10000000, 100000000, 1000000000, 10000000000, 100000000000, 1000000000000, 10000000000000, 100000000000000, 1000000000000000, 10000000000000000, 100000000000000000, 1000000000000000000, 10000000000000000000]) Tryd.underlying63 Tryd.underlying55 (by kernel_rfl) (by kernel_rfl) hd2
  obtain ⟨T, fz, hc⟩ := var_cells G1 hv1
  refine ⟨⟨?_, cs1, T, fz, hc, ?_⟩, ?_⟩
  · show W.var? Tryd.prog _ = _
    rw [hv2, show Lib.pow10Tab = [1, 10, 100, 1000, 10000, 100000, 1000000, 10000000, 100000000, 1000000000, 10000000000, 100000000000, 1000000000000, 10000000000000, 100000000000000, 1000000000000000, 10000000000000000, 100000000000000000, 1000000000000000000, 10000000000000000000] by decide +kernel, ← e2]
  · have : cs1.toList[15]? = some (.int .u8 4) := by rw [e1]; rfl
    simpa using this
  · have := (Array.getElem?_eq_some_iff.1 hc).1
    exact this
end Go.VI
