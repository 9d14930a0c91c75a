import Derived.Test.YtojlppofmjkmhaaDoorGFTy
set_option linter.unusedVariables false
set_option linter.unusedSimpArgs false
set_option maxRecDepth 1000000
set_option maxHeartbeats 4000000
namespace Go.VI
open Go Go.Proofs
def Good_string (x : List UInt8) : Prop := (x.length ≤ 140737488351232) ∧ True
def Good_api_Dest (x : S_api_Dest) : Prop := (x.addr.length ≤ 140737488351232) ∧ (IntKind.has .i64 x.seq) ∧ True
def Good_api_Sub (x : S_api_Sub) : Prop := (IntKind.has .i64 x.type_) ∧ (x.data.length ≤ 140737488351232) ∧ True
def gE : (e : Nat) → U.τ e → Prop
  | 38, x => Good_api_Dest x
  | 40, x => Good_api_Sub x
  | _, _ => True
end Go.VI
