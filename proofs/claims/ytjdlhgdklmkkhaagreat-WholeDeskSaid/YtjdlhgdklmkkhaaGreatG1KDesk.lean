import Derived.Test.YtjdlhgdklmkkhaaGreatRows
import Derived.Tactics
import Derived.Tactics2
import Derived.Defers
import Derived.Laws.Pointers
import Derived.Laws.LoneSync
import Derived.RegionTactic
import Derived.RegionCalls
import Derived.WalkKit
import Derived.Lib.Hide
import Derived.IntWalk
import Derived.Test.YtjdlhgdklmkkhaaGreatG1KBase
import Derived.Maps.Own
import Derived.Maps.OwnOps
import Derived.Maps.OwnSet
import Derived.Maps.Views
import Derived.Deep.RegionHeld3
import Derived.Lib.Builder
set_option linter.unusedVariables false
set_option linter.unusedSimpArgs false
set_option maxRecDepth 100000
namespace Go.Proofs
open Go.RowKit Go.Maps
def tabD : Nat → DataW Unit
  | 0 => .map []
  | n + 1 => (tabD n).put (.string (Go.VP.wordM ((n + 1 : Nat) : Int))) (.lit (.int .i64 ((n + 1 : Nat) : Int)))
structure DeskW (B b : Nat) (w : World) (dn : Option Nat) (cl : Int) : Prop where
  hB : B ≤ b
  row : ∃ c2 c5 c6 c7, w.heap[b]? = some (.cells #[.int .u32 (if dn.isSome then 1 else 0), .int .i32 0, c2, .map dn, .int .u32 cl, c5, c6, c7] 68 (0, 0))
  tab : ∀ M, dn = some M → B ≤ M ∧ w.ownsMap Tryz.prog 9 (plainElem (H := Unit) Tryz.prog 3) M 14 (tabD 14)
theorem DeskW.ne {B b M : Nat} {w : World} {dn : Option Nat} {cl : Int} (h : DeskW B b w dn cl) (hM : dn = some M) : M ≠ b := by
  obtain ⟨_, es, clock, hh, _⟩ := h.tab M hM
  obtain ⟨_, _, _, _, hr⟩ := h.row
  intro e
  subst e
  rw [hh] at hr
  cases hr
end Go.Proofs
