import Derived.Test.YtngopicaeoapnaaGreatDoorRows
import Derived.Test.YtngopicaeoapnaaGreatDoorKFTy
import Derived.Lib.LaidTab
import Derived.MakeChecks
import Derived.Stop.LaidErr
set_option maxRecDepth 100000
set_option maxHeartbeats 4000000
namespace Go.VI
open Go Go.Proofs Go.Proofs.YtngopicaeoapnaaGreatDoor
theorem eK4 : "*" ++ "errors.errorString" = "*errors.errorString" := by decide
theorem eW3 (u : TypeId) (h : Tryz.prog.typeName? 3 u = some "*errors.errorString") : u = 256 :=
  typeName_ptr_named (nm := "errors.errorString") (by rw [eK4]; kernel_rfl) (by kernel_rfl) (by decide) u (by rw [eK4]; exact h)
theorem db8 {W : World} (h : laidMetH Tryz.prog Rows.wholeTextRow.laid W) : U.env W ∧ U.nb ≤ W.heap.size := by
  rw [MakeChecks.laidMetH_plain _ _ _ (by kernel_rfl)] at h
  have h3 := laidMet.tail (laidMet.tail h)
  have h5 := laidMet.tail (laidMet.tail h3)
  have h6 := laidMet.tail h5
  have G2 : Tryz.prog.globalNamed "internal/strconv.uint64pow10" = some 1 := by kernel_rfl
  have GS : Tryz.prog.globalNamed "strconv.ErrSyntax" = some 2 := by kernel_rfl
  have GR : Tryz.prog.globalNamed "strconv.ErrRange" = some 3 := by kernel_rfl
  obtain ⟨a5, s5, hv5, -, -, -⟩ := laid_sentinel h5 GR (show (Tryz.prog.globals[3]?).map (·.type) = some 52 by kernel_rfl) Tryz.underlying52 eW3 Tryz.underlying256 Tryz.underlying258 rfl rfl Tryz.underlying9 (by kernel_rfl) (by kernel_rfl)
  obtain ⟨a6, s6, hv6, -, -, -⟩ := laid_sentinel h6 GS (show (Tryz.prog.globals[2]?).map (·.type) = some 52 by kernel_rfl) Tryz.underlying52 eW3 Tryz.underlying256 Tryz.underlying258 rfl rfl Tryz.underlying9 (by kernel_rfl) (by kernel_rfl)
  obtain ⟨ps, ⟨g2, t2, cs2, f2, p2, q2, hg2, ht2, hv2, hd2, _, _⟩, _, _⟩ := h3
  obtain rfl := Option.some.inj (G2.symm.trans hg2)
  obtain rfl := Option.some.inj ((show (Tryz.prog.globals[1]?).map (·.type) = some 236 by kernel_rfl).symm.trans ht2)
  have e2 := Lib.cells_of_tab (k := .u64) (zs := [1, 10, 100, 1000, 10000, 100000, 1000000, 10000000, 100000000, 1000000000, 10000000000, 100000000000, 1000000000000, 10000000000000, 100000000000000, 1000000000000000, 10000000000000000, 100000000000000000, 1000000000000000000, 10000000000000000000]) Tryz.underlying236 Tryz.underlying194 (by kernel_rfl) (by kernel_rfl) hd2
  have c5 : W.cell? ⟨3, 0, none⟩ = some (.iface 256 (.pointer (some a5))) := by have h0 := World.var?_cell GR hv5 0; simpa using h0
  have c6 : W.cell? ⟨2, 0, none⟩ = some (.iface 256 (.pointer (some a6))) := by have h0 := World.var?_cell GS hv6 0; simpa using h0
  refine ⟨⟨?_, ⟨_, _, c6⟩, _, _, c5⟩, ?_⟩
  · show W.var? Tryz.prog _ = _
    rw [hv2, show Lib.pow10Tab = [1, 10, 100, 1000, 10000, 100000, 1000000, 10000000, 100000000, 1000000000, 10000000000, 100000000000, 1000000000000, 10000000000000, 100000000000000, 1000000000000000, 10000000000000000, 100000000000000000, 1000000000000000000, 10000000000000000000] by decide +kernel, ← e2]
  · have := World.block_lt_of_cell? W _ c5
    show 4 ≤ W.heap.size
    exact this
end Go.VI
