import Derived.Test.YtjdlhgdklmkkhaaGreatG1FH
import Derived.Test.YtjdlhgdklmkkhaaGreatG1M0
import Derived.WalkKit
set_option linter.unusedVariables false
set_option linter.unusedSimpArgs false
namespace Go.Proofs
open Go.RowKit
end Go.Proofs
namespace Go.VI
open Go Go.Proofs Go.RowKit Go.VP
theorem pc_int {w : World} {I : Nat → Nat → Prop} {k : IntKind} {n : Int} {v : Value} (h : PC Tryz.prog U w I (.int k n) v) : v = .int k n ∧ k.has n := by
  cases h with
  | int _ _ hk => exact ⟨rfl, hk⟩
  | nil _ e f h1 h2 => cases h1
  | emp _ e p cap h1 => cases h1
  | row _ e css f b off cap h1 => cases h1
end Go.VI
namespace Go.Proofs
open Go.RowKit Go.VI
end Go.Proofs
