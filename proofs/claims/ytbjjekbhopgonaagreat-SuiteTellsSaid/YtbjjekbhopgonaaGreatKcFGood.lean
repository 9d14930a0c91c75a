import Derived.Test.YtbjjekbhopgonaaGreatKcFTy
set_option linter.unusedVariables false
set_option linter.unusedSimpArgs false
set_option maxRecDepth 1000000
set_option maxHeartbeats 4000000
namespace Go.VI
open Go Go.Proofs
theorem Ty.dec_enc {τ:Nat→Type} (T:Ty τ) (y:aG7 τ T.ks):T.enc false (T.of y)=aT0 false T.ks y:=by unfold Ty.enc; rw [T.ok]
def eu7 (x:Int):Prop:=(IntKind.has .i64 x)∧True
def cA6 (x:List UInt8):Prop:=(x.length≤140737488351232)∧True
def d60 (x:a44):Prop:=(x.addr.length≤140737488351232)∧(IntKind.has .i64 x.seq)∧True
def dk7 (x:a08):Prop:=(IntKind.has .i64 x.type_)∧(x.data.length≤140737488351232)∧True
def au6 (x:a00):Prop:=(IntKind.has .i64 x.kind)∧(IntKind.has .i64 x.cmd)∧(IntKind.has .i64 x.ver)∧(x.auth.length≤140737488351232)∧(IntKind.has .i64 x.family)∧(IntKind.has .i64 x.ae)∧(x.prefix_.length≤140737488351232)∧(IntKind.has .i64 x.plen)∧(IntKind.has .i64 x.tag)∧(x.next.length≤140737488351232)∧(IntKind.has .i64 x.metric)∧(x.id.length≤140737488351232)∧(IntKind.has .i64 x.seq)∧(IntKind.has .i64 x.seq2)∧(IntKind.has .i64 x.interval)∧(IntKind.has .i64 x.flags)∧(IntKind.has .i64 x.hops)∧(IntKind.has .i64 x.nonce)∧(IntKind.has .i64 x.cost)∧(x.addr.length≤140737488351232)∧(x.orig.length≤140737488351232)∧(x.list.length * Tryz.prog.bytesOf 87≤140737488351232∧∀ z,List.Mem (α:=a44) z x.list→d60 z)∧(IntKind.has .i64 x.type_)∧(x.data.length≤140737488351232)∧(x.subs.length * Tryz.prog.bytesOf 89≤140737488351232∧∀ z,List.Mem (α:=a08) z x.subs→dk7 z)∧True
def bY2 (x:List a00):Prop:=(x.length * Tryz.prog.bytesOf 29≤140737488351232∧∀ z,List.Mem (α:=a00) z x→au6 z)∧True
def gE:(e:Nat)→U.τ e→Prop
 | 9,x=>cA6 x
 | 29,x=>au6 x
 | 87,x=>d60 x
 | 89,x=>dk7 x
 | _,_=>True
theorem e67:a59 Tryz.prog U gE 87 aW6.ks:=a59.struct (ks:=[.str,.int .i64]) Tryz.underlying87 (by kernel_rfl) (a78.cons (a:=[.str]) _ rfl rfl (a59.str (g:=gE) Tryz.underlying9 (by kernel_rfl)) rfl (a78.cons (a:=[.int .i64]) _ rfl rfl (a59.int (g:=gE) Tryz.underlying3 (by kernel_rfl)) rfl a78.nil))
theorem dU3:bf4 Tryz.prog U gE 87:=bf4.of (ks:=[.str,.int .i64]) e67 aW6.of (fun y=>aW6.dec_enc y) (fun y h=>h)
theorem d68:a59 Tryz.prog U gE 26 [.sl 87]:=a59.slice Tryz.underlying26 (by kernel_rfl) (fun x=>rfl) (Nat.le_of_ble_eq_true (by kernel_rfl)) dU3
theorem em9:a59 Tryz.prog U gE 89 bc2.ks:=a59.struct (ks:=[.int .i64,.str]) Tryz.underlying89 (by kernel_rfl) (a78.cons (a:=[.int .i64]) _ rfl rfl (a59.int (g:=gE) Tryz.underlying3 (by kernel_rfl)) rfl (a78.cons (a:=[.str]) _ rfl rfl (a59.str (g:=gE) Tryz.underlying9 (by kernel_rfl)) rfl a78.nil))
theorem e68:bf4 Tryz.prog U gE 89:=bf4.of (ks:=[.int .i64,.str]) em9 bc2.of (fun y=>bc2.dec_enc y) (fun y h=>h)
theorem dk8:a59 Tryz.prog U gE 27 [.sl 89]:=a59.slice Tryz.underlying27 (by kernel_rfl) (fun x=>rfl) (Nat.le_of_ble_eq_true (by kernel_rfl)) e68
theorem en0:a59 Tryz.prog U gE 29 a17.ks:=a59.struct (ks:=[.int .i64,.int .i64,.int .i64,.str,.int .i64,.int .i64,.str,.int .i64,.int .i64,.str,.int .i64,.str,.int .i64,.int .i64,.int .i64,.int .i64,.int .i64,.int .i64,.int .i64,.str,.str,.sl 87,.int .i64,.str,.sl 89]) Tryz.underlying29 (by kernel_rfl) (a78.cons (a:=[.int .i64]) _ rfl rfl (a59.int (g:=gE) Tryz.underlying3 (by kernel_rfl)) rfl (a78.cons (a:=[.int .i64]) _ rfl rfl (a59.int (g:=gE) Tryz.underlying3 (by kernel_rfl)) rfl (a78.cons (a:=[.int .i64]) _ rfl rfl (a59.int (g:=gE) Tryz.underlying3 (by kernel_rfl)) rfl (a78.cons (a:=[.str]) _ rfl rfl (a59.str (g:=gE) Tryz.underlying9 (by kernel_rfl)) rfl (a78.cons (a:=[.int .i64]) _ rfl rfl (a59.int (g:=gE) Tryz.underlying3 (by kernel_rfl)) rfl (a78.cons (a:=[.int .i64]) _ rfl rfl (a59.int (g:=gE) Tryz.underlying3 (by kernel_rfl)) rfl (a78.cons (a:=[.str]) _ rfl rfl (a59.str (g:=gE) Tryz.underlying9 (by kernel_rfl)) rfl (a78.cons (a:=[.int .i64]) _ rfl rfl (a59.int (g:=gE) Tryz.underlying3 (by kernel_rfl)) rfl (a78.cons (a:=[.int .i64]) _ rfl rfl (a59.int (g:=gE) Tryz.underlying3 (by kernel_rfl)) rfl (a78.cons (a:=[.str]) _ rfl rfl (a59.str (g:=gE) Tryz.underlying9 (by kernel_rfl)) rfl (a78.cons (a:=[.int .i64]) _ rfl rfl (a59.int (g:=gE) Tryz.underlying3 (by kernel_rfl)) rfl (a78.cons (a:=[.str]) _ rfl rfl (a59.str (g:=gE) Tryz.underlying9 (by kernel_rfl)) rfl (a78.cons (a:=[.int .i64]) _ rfl rfl (a59.int (g:=gE) Tryz.underlying3 (by kernel_rfl)) rfl (a78.cons (a:=[.int .i64]) _ rfl rfl (a59.int (g:=gE) Tryz.underlying3 (by kernel_rfl)) rfl (a78.cons (a:=[.int .i64]) _ rfl rfl (a59.int (g:=gE) Tryz.underlying3 (by kernel_rfl)) rfl (a78.cons (a:=[.int .i64]) _ rfl rfl (a59.int (g:=gE) Tryz.underlying3 (by kernel_rfl)) rfl (a78.cons (a:=[.int .i64]) _ rfl rfl (a59.int (g:=gE) Tryz.underlying3 (by kernel_rfl)) rfl (a78.cons (a:=[.int .i64]) _ rfl rfl (a59.int (g:=gE) Tryz.underlying3 (by kernel_rfl)) rfl (a78.cons (a:=[.int .i64]) _ rfl rfl (a59.int (g:=gE) Tryz.underlying3 (by kernel_rfl)) rfl (a78.cons (a:=[.str]) _ rfl rfl (a59.str (g:=gE) Tryz.underlying9 (by kernel_rfl)) rfl (a78.cons (a:=[.str]) _ rfl rfl (a59.str (g:=gE) Tryz.underlying9 (by kernel_rfl)) rfl (a78.cons (a:=[.sl 87]) _ rfl rfl d68 rfl (a78.cons (a:=[.int .i64]) _ rfl rfl (a59.int (g:=gE) Tryz.underlying3 (by kernel_rfl)) rfl (a78.cons (a:=[.str]) _ rfl rfl (a59.str (g:=gE) Tryz.underlying9 (by kernel_rfl)) rfl (a78.cons (a:=[.sl 89]) _ rfl rfl dk8 rfl a78.nil)))))))))))))))))))))))))
theorem e69:bf4 Tryz.prog U gE 29:=bf4.of (ks:=[.int .i64,.int .i64,.int .i64,.str,.int .i64,.int .i64,.str,.int .i64,.int .i64,.str,.int .i64,.str,.int .i64,.int .i64,.int .i64,.int .i64,.int .i64,.int .i64,.int .i64,.str,.str,.sl 87,.int .i64,.str,.sl 89]) en0 a17.of (fun y=>a17.dec_enc y) (fun y h=>h)
theorem dk9:a59 Tryz.prog U gE 22 [.sl 29]:=a59.slice Tryz.underlying22 (by kernel_rfl) (fun x=>rfl) (Nat.le_of_ble_eq_true (by kernel_rfl)) e69
end Go.VI
