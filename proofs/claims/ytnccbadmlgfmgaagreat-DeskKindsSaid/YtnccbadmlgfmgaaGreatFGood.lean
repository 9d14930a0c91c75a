import Derived.Test.YtnccbadmlgfmgaaGreatFTy
set_option linter.unusedVariables false
set_option linter.unusedSimpArgs false
set_option maxRecDepth 1000000
set_option maxHeartbeats 4000000
namespace Go.VI
open Go Go.Proofs
theorem Ty.dec_enc {τ : Nat → Type} (T : Ty τ) (y : dens τ T.ks) : T.enc false (T.of y) = encs false T.ks y := by unfold Ty.enc; rw [T.ok]
def Good_string (x : List UInt8) : Prop := (x.length ≤ 140737488351232) ∧ True
def Good_bool (x : Bool) : Prop := True ∧ True
def gE : (e : Nat) → U.τ e → Prop
  | _, _ => True
end Go.VI
