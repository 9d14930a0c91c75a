import Derived.Test.YtbjjekbhopgonaaGreatG4FTy
set_option linter.unusedVariables false
set_option linter.unusedSimpArgs false
set_option maxRecDepth 1000000
set_option maxHeartbeats 4000000
namespace Go.VI
open Go Go.Proofs
theorem Ty.dec_enc {τ : Nat → Type} (T : Ty τ) (y : dens τ T.ks) : T.enc false (T.of y) = encs false T.ks y := by unfold Ty.enc; rw [T.ok]
def Good_int (x : Int) : Prop := (IntKind.has .i64 x) ∧ True
def Good_string (x : List UInt8) : Prop := (x.length ≤ 140737488351232) ∧ True
def Good_api_Dest (x : S_api_Dest) : Prop := (x.addr.length ≤ 140737488351232) ∧ (IntKind.has .i64 x.seq) ∧ True
def Good_api_Sub (x : S_api_Sub) : Prop := (IntKind.has .i64 x.type_) ∧ (x.data.length ≤ 140737488351232) ∧ True
def Good_api_Msg (x : S_api_Msg) : Prop := (IntKind.has .i64 x.kind) ∧ (IntKind.has .i64 x.cmd) ∧ (IntKind.has .i64 x.ver) ∧ (x.auth.length ≤ 140737488351232) ∧ (IntKind.has .i64 x.family) ∧ (IntKind.has .i64 x.ae) ∧ (x.prefix_.length ≤ 140737488351232) ∧ (IntKind.has .i64 x.plen) ∧ (IntKind.has .i64 x.tag) ∧ (x.next.length ≤ 140737488351232) ∧ (IntKind.has .i64 x.metric) ∧ (x.id.length ≤ 140737488351232) ∧ (IntKind.has .i64 x.seq) ∧ (IntKind.has .i64 x.seq2) ∧ (IntKind.has .i64 x.interval) ∧ (IntKind.has .i64 x.flags) ∧ (IntKind.has .i64 x.hops) ∧ (IntKind.has .i64 x.nonce) ∧ (IntKind.has .i64 x.cost) ∧ (x.addr.length ≤ 140737488351232) ∧ (x.orig.length ≤ 140737488351232) ∧ (x.list.length * Tryz.prog.bytesOf 87 ≤ 140737488351232 ∧ ∀ z, List.Mem (α := S_api_Dest) z x.list → Good_api_Dest z) ∧ (IntKind.has .i64 x.type_) ∧ (x.data.length ≤ 140737488351232) ∧ (x.subs.length * Tryz.prog.bytesOf 89 ≤ 140737488351232 ∧ ∀ z, List.Mem (α := S_api_Sub) z x.subs → Good_api_Sub z) ∧ True
def Good_list_string (x : List (List UInt8)) : Prop := (x.length * Tryz.prog.bytesOf 9 ≤ 140737488351232 ∧ ∀ z, List.Mem (α := List UInt8) z x → Good_string z) ∧ True
def gE : (e : Nat) → U.τ e → Prop
  | 9, x => Good_string x
  | 29, x => Good_api_Msg x
  | 87, x => Good_api_Dest x
  | 89, x => Good_api_Sub x
  | _, _ => True
theorem opensE_string : OpensE Tryz.prog U gE 9 := OpensE.of (ks := [.str]) (Opens.str (g := gE) Tryz.underlying9 (by kernel_rfl)) T_string.of (fun y => T_string.dec_enc y) (fun y h => h)
theorem opens_list_string : Opens Tryz.prog U gE 37 [.sl 9] := Opens.slice Tryz.underlying37 (by kernel_rfl) (fun x => rfl) (Nat.le_of_ble_eq_true (by kernel_rfl)) opensE_string
end Go.VI
