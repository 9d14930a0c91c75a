import Derived.Test.YtbjjekbhopgonaaGreatKcVC
import Derived.Test.YtbjjekbhopgonaaGreatChecked
import Derived.KernelRfl
set_option linter.unusedVariables false
set_option linter.unusedSimpArgs false
set_option maxRecDepth 1000000
set_option maxHeartbeats 4000000
namespace Go.VI
open Go Go.Proofs
structure a44 where
 addr:List UInt8
 seq:Int
structure a08 where
 type_:Int
 data:List UInt8
structure a00 where
 kind:Int
 cmd:Int
 ver:Int
 auth:List UInt8
 family:Int
 ae:Int
 prefix_:List UInt8
 plen:Int
 tag:Int
 next:List UInt8
 metric:Int
 id:List UInt8
 seq:Int
 seq2:Int
 interval:Int
 flags:Int
 hops:Int
 nonce:Int
 cost:Int
 addr:List UInt8
 orig:List UInt8
 list:List a44
 type_:Int
 data:List UInt8
 subs:List a08
structure fj6 where
 p:Int
 l:List a00
 most:Int
 more:Int
structure a03 where
 prefix_c0:List UInt8
 prefix_c1:List UInt8
 prefix_c2:List UInt8
 prefix_c3:List UInt8
 next_c0:List UInt8
 next_c1:List UInt8
 id:List UInt8
structure a23 where
 family:Int
 tag:Int
 addr:List UInt8
 mask:List UInt8
 next:List UInt8
 metric:Int
structure a22 where
 b:List UInt8
 c_Prefix_c0:List UInt8
 c_Prefix_c1:List UInt8
 c_Prefix_c2:List UInt8
 c_Prefix_c3:List UInt8
 c_Next_c0:List UInt8
 c_Next_c1:List UInt8
 c_Id:List UInt8
structure a34 where
 s:List UInt8
 at_:Int
 end_:Int
 bad:Bool
structure a18 where
 type_:Int
 at_:Int
 data:List UInt8
structure aC9 where
 cmd:Int
 ver:Int
 says:List UInt8
 alone:Bool
structure aa5 where
 cmd:Int
 next:List UInt8
 out:List a00
structure ad4 where
 b:List UInt8
 next:List UInt8
structure cv7 where
 kind:Int
 cmd:Int
 ver:Int
 family:Int
 ae:Int
 plen:Int
 tag:Int
 metric:Int
 seq:Int
 seq2:Int
 interval:Int
 flags:Int
 hops:Int
 nonce:Int
 cost:Int
 typ:Int
 auth:List UInt8
 prefix_:List UInt8
 next:List UInt8
 id:List UInt8
 addr:List UInt8
 orig:List UInt8
 data:List UInt8
structure ad5 where
 c_S:List UInt8
 c_At:Int
 c_End:Int
 c_Bad:Bool
structure bf6 where
 c0_size:Int
 c0_base:Int
 c0_low:Int
 c0_high:Int
 c1_size:Int
 c1_base:Int
 c1_low:Int
 c1_high:Int
 c2_size:Int
 c2_base:Int
 c2_low:Int
 c2_high:Int
 c3_size:Int
 c3_base:Int
 c3_low:Int
 c3_high:Int
structure aa6 where
 b:List UInt8
structure a36 where
 ctx_Prefix_c0:List UInt8
 ctx_Prefix_c1:List UInt8
 ctx_Prefix_c2:List UInt8
 ctx_Prefix_c3:List UInt8
 ctx_Next_c0:List UInt8
 ctx_Next_c1:List UInt8
 ctx_Id:List UInt8
structure a77 where
 c_S:List UInt8
 c_At:Int
 c_End:Int
 c_Bad:Bool
structure a37 where
 c_S:List UInt8
 c_At:Int
 c_End:Int
 c_Bad:Bool
structure a64 where
 ae:Int
 flags:Int
 plen:Int
 omitted:Int
 interval:Int
 seq:Int
 metric:Int
 have_:Int
 bytes:List UInt8
 subs:List a08
def τ:Nat→Type
 | 3=>Int
 | 9=>List UInt8
 | 29=>a00
 | 87=>a44
 | 89=>a08
 | 122=>a18
 | _=>Unit
def a13:Ty τ:=⟨Int,false,[.int .i64],fun x=>(x,()),fun y=>y.1,fun _=>rfl,.inr ⟨_,rfl⟩⟩
def a15:Ty τ:=⟨Bool,false,[.bool],fun x=>(x,()),fun y=>y.1,fun _=>rfl,.inr ⟨_,rfl⟩⟩
def eD6:Ty τ:=⟨Int,false,[.int .u8],fun x=>(x,()),fun y=>y.1,fun _=>rfl,.inr ⟨_,rfl⟩⟩
def a02:Ty τ:=⟨List UInt8,false,[.str],fun x=>(x,()),fun y=>y.1,fun _=>rfl,.inr ⟨_,rfl⟩⟩
def a26:Ty τ:=⟨List a00,false,[.sl 29],fun x=>(x,()),fun y=>y.1,fun _=>rfl,.inr ⟨_,rfl⟩⟩
def cn6:Ty τ:=⟨List a44,false,[.sl 87],fun x=>(x,()),fun y=>y.1,fun _=>rfl,.inr ⟨_,rfl⟩⟩
def a67:Ty τ:=⟨List a08,false,[.sl 89],fun x=>(x,()),fun y=>y.1,fun _=>rfl,.inr ⟨_,rfl⟩⟩
def a17:Ty τ:=⟨a00,true,[.int .i64,.int .i64,.int .i64,.str,.int .i64,.int .i64,.str,.int .i64,.int .i64,.str,.int .i64,.str,.int .i64,.int .i64,.int .i64,.int .i64,.int .i64,.int .i64,.int .i64,.str,.str,.sl 87,.int .i64,.str,.sl 89],fun x=>(x.kind,x.cmd,x.ver,x.auth,x.family,x.ae,x.prefix_,x.plen,x.tag,x.next,x.metric,x.id,x.seq,x.seq2,x.interval,x.flags,x.hops,x.nonce,x.cost,x.addr,x.orig,x.list,x.type_,x.data,x.subs,()),fun y=>⟨y.1,y.2.1,y.2.2.1,y.2.2.2.1,y.2.2.2.2.1,y.2.2.2.2.2.1,y.2.2.2.2.2.2.1,y.2.2.2.2.2.2.2.1,y.2.2.2.2.2.2.2.2.1,y.2.2.2.2.2.2.2.2.2.1,y.2.2.2.2.2.2.2.2.2.2.1,y.2.2.2.2.2.2.2.2.2.2.2.1,y.2.2.2.2.2.2.2.2.2.2.2.2.1,y.2.2.2.2.2.2.2.2.2.2.2.2.2.1,y.2.2.2.2.2.2.2.2.2.2.2.2.2.2.1,y.2.2.2.2.2.2.2.2.2.2.2.2.2.2.2.1,y.2.2.2.2.2.2.2.2.2.2.2.2.2.2.2.2.1,y.2.2.2.2.2.2.2.2.2.2.2.2.2.2.2.2.2.1,y.2.2.2.2.2.2.2.2.2.2.2.2.2.2.2.2.2.2.1,y.2.2.2.2.2.2.2.2.2.2.2.2.2.2.2.2.2.2.2.1,y.2.2.2.2.2.2.2.2.2.2.2.2.2.2.2.2.2.2.2.2.1,y.2.2.2.2.2.2.2.2.2.2.2.2.2.2.2.2.2.2.2.2.2.1,y.2.2.2.2.2.2.2.2.2.2.2.2.2.2.2.2.2.2.2.2.2.2.1,y.2.2.2.2.2.2.2.2.2.2.2.2.2.2.2.2.2.2.2.2.2.2.2.1,y.2.2.2.2.2.2.2.2.2.2.2.2.2.2.2.2.2.2.2.2.2.2.2.2.1⟩,fun _=>rfl,.inl rfl⟩
def a14:Ty τ:=⟨Int,false,[.int .i64],fun x=>(x,()),fun y=>y.1,fun _=>rfl,.inr ⟨_,rfl⟩⟩
def aa8:Ty τ:=⟨a03,true,[.str,.str,.str,.str,.str,.str,.str],fun x=>(x.prefix_c0,x.prefix_c1,x.prefix_c2,x.prefix_c3,x.next_c0,x.next_c1,x.id,()),fun y=>⟨y.1,y.2.1,y.2.2.1,y.2.2.2.1,y.2.2.2.2.1,y.2.2.2.2.2.1,y.2.2.2.2.2.2.1⟩,fun _=>rfl,.inl rfl⟩
def aW5:Ty τ:=⟨List a18,false,[.sl 122],fun x=>(x,()),fun y=>y.1,fun _=>rfl,.inr ⟨_,rfl⟩⟩
def aW6:Ty τ:=⟨a44,true,[.str,.int .i64],fun x=>(x.addr,x.seq,()),fun y=>⟨y.1,y.2.1⟩,fun _=>rfl,.inl rfl⟩
def bc2:Ty τ:=⟨a08,true,[.int .i64,.str],fun x=>(x.type_,x.data,()),fun y=>⟨y.1,y.2.1⟩,fun _=>rfl,.inl rfl⟩
def ad6:Ty τ:=⟨a23,true,[.int .i64,.int .i64,.str,.str,.str,.int .i64],fun x=>(x.family,x.tag,x.addr,x.mask,x.next,x.metric,()),fun y=>⟨y.1,y.2.1,y.2.2.1,y.2.2.2.1,y.2.2.2.2.1,y.2.2.2.2.2.1⟩,fun _=>rfl,.inl rfl⟩
def aK6:Ty τ:=⟨a22,true,[.bs 5,.str,.str,.str,.str,.str,.str,.str],fun x=>(x.b,x.c_Prefix_c0,x.c_Prefix_c1,x.c_Prefix_c2,x.c_Prefix_c3,x.c_Next_c0,x.c_Next_c1,x.c_Id,()),fun y=>⟨y.1,y.2.1,y.2.2.1,y.2.2.2.1,y.2.2.2.2.1,y.2.2.2.2.2.1,y.2.2.2.2.2.2.1,y.2.2.2.2.2.2.2.1⟩,fun _=>rfl,.inl rfl⟩
def as2:Ty τ:=⟨a34,true,[.str,.int .i64,.int .i64,.bool],fun x=>(x.s,x.at_,x.end_,x.bad,()),fun y=>⟨y.1,y.2.1,y.2.2.1,y.2.2.2.1⟩,fun _=>rfl,.inl rfl⟩
def ad9:Ty τ:=⟨a18,true,[.int .i64,.int .i64,.str],fun x=>(x.type_,x.at_,x.data,()),fun y=>⟨y.1,y.2.1,y.2.2.1⟩,fun _=>rfl,.inl rfl⟩
def et3:Ty τ:=⟨aC9,true,[.int .i64,.int .i64,.str,.bool],fun x=>(x.cmd,x.ver,x.says,x.alone,()),fun y=>⟨y.1,y.2.1,y.2.2.1,y.2.2.2.1⟩,fun _=>rfl,.inl rfl⟩
def cC8:Ty τ:=⟨aa5,true,[.int .i64,.str,.sl 29],fun x=>(x.cmd,x.next,x.out,()),fun y=>⟨y.1,y.2.1,y.2.2.1⟩,fun _=>rfl,.inl rfl⟩
def cC9:Ty τ:=⟨ad4,true,[.bs 5,.str],fun x=>(x.b,x.next,()),fun y=>⟨y.1,y.2.1⟩,fun _=>rfl,.inl rfl⟩
def eA3:Ty τ:=⟨cv7,true,[.int .i64,.int .i64,.int .i64,.int .i64,.int .i64,.int .i64,.int .i64,.int .i64,.int .i64,.int .i64,.int .i64,.int .i64,.int .i64,.int .i64,.int .i64,.int .i64,.str,.str,.str,.str,.str,.str,.str],fun x=>(x.kind,x.cmd,x.ver,x.family,x.ae,x.plen,x.tag,x.metric,x.seq,x.seq2,x.interval,x.flags,x.hops,x.nonce,x.cost,x.typ,x.auth,x.prefix_,x.next,x.id,x.addr,x.orig,x.data,()),fun y=>⟨y.1,y.2.1,y.2.2.1,y.2.2.2.1,y.2.2.2.2.1,y.2.2.2.2.2.1,y.2.2.2.2.2.2.1,y.2.2.2.2.2.2.2.1,y.2.2.2.2.2.2.2.2.1,y.2.2.2.2.2.2.2.2.2.1,y.2.2.2.2.2.2.2.2.2.2.1,y.2.2.2.2.2.2.2.2.2.2.2.1,y.2.2.2.2.2.2.2.2.2.2.2.2.1,y.2.2.2.2.2.2.2.2.2.2.2.2.2.1,y.2.2.2.2.2.2.2.2.2.2.2.2.2.2.1,y.2.2.2.2.2.2.2.2.2.2.2.2.2.2.2.1,y.2.2.2.2.2.2.2.2.2.2.2.2.2.2.2.2.1,y.2.2.2.2.2.2.2.2.2.2.2.2.2.2.2.2.2.1,y.2.2.2.2.2.2.2.2.2.2.2.2.2.2.2.2.2.2.1,y.2.2.2.2.2.2.2.2.2.2.2.2.2.2.2.2.2.2.2.1,y.2.2.2.2.2.2.2.2.2.2.2.2.2.2.2.2.2.2.2.2.1,y.2.2.2.2.2.2.2.2.2.2.2.2.2.2.2.2.2.2.2.2.2.1,y.2.2.2.2.2.2.2.2.2.2.2.2.2.2.2.2.2.2.2.2.2.2.1⟩,fun _=>rfl,.inl rfl⟩
def eH8:Ty τ:=⟨List Int,false,[.sl 3],fun x=>(x,()),fun y=>y.1,fun _=>rfl,.inr ⟨_,rfl⟩⟩
def cD0:Ty τ:=⟨ad5,true,[.str,.int .i64,.int .i64,.bool],fun x=>(x.c_S,x.c_At,x.c_End,x.c_Bad,()),fun y=>⟨y.1,y.2.1,y.2.2.1,y.2.2.2.1⟩,fun _=>rfl,.inl rfl⟩
def dP4:Ty τ:=⟨bf6,true,[.int .i64,.int .i64,.int .i64,.int .i64,.int .i64,.int .i64,.int .i64,.int .i64,.int .i64,.int .i64,.int .i64,.int .i64,.int .i64,.int .i64,.int .i64,.int .i64],fun x=>(x.c0_size,x.c0_base,x.c0_low,x.c0_high,x.c1_size,x.c1_base,x.c1_low,x.c1_high,x.c2_size,x.c2_base,x.c2_low,x.c2_high,x.c3_size,x.c3_base,x.c3_low,x.c3_high,()),fun y=>⟨y.1,y.2.1,y.2.2.1,y.2.2.2.1,y.2.2.2.2.1,y.2.2.2.2.2.1,y.2.2.2.2.2.2.1,y.2.2.2.2.2.2.2.1,y.2.2.2.2.2.2.2.2.1,y.2.2.2.2.2.2.2.2.2.1,y.2.2.2.2.2.2.2.2.2.2.1,y.2.2.2.2.2.2.2.2.2.2.2.1,y.2.2.2.2.2.2.2.2.2.2.2.2.1,y.2.2.2.2.2.2.2.2.2.2.2.2.2.1,y.2.2.2.2.2.2.2.2.2.2.2.2.2.2.1,y.2.2.2.2.2.2.2.2.2.2.2.2.2.2.2.1⟩,fun _=>rfl,.inl rfl⟩
def e17:Ty τ:=⟨aa6,true,[.bs 5],fun x=>(x.b,()),fun y=>⟨y.1⟩,fun _=>rfl,.inl rfl⟩
def aw3:Ty τ:=⟨a36,true,[.str,.str,.str,.str,.str,.str,.str],fun x=>(x.ctx_Prefix_c0,x.ctx_Prefix_c1,x.ctx_Prefix_c2,x.ctx_Prefix_c3,x.ctx_Next_c0,x.ctx_Next_c1,x.ctx_Id,()),fun y=>⟨y.1,y.2.1,y.2.2.1,y.2.2.2.1,y.2.2.2.2.1,y.2.2.2.2.2.1,y.2.2.2.2.2.2.1⟩,fun _=>rfl,.inl rfl⟩
def cD1:Ty τ:=⟨a77,true,[.str,.int .i64,.int .i64,.bool],fun x=>(x.c_S,x.c_At,x.c_End,x.c_Bad,()),fun y=>⟨y.1,y.2.1,y.2.2.1,y.2.2.2.1⟩,fun _=>rfl,.inl rfl⟩
def aW7:Ty τ:=⟨a37,true,[.str,.int .i64,.int .i64,.bool],fun x=>(x.c_S,x.c_At,x.c_End,x.c_Bad,()),fun y=>⟨y.1,y.2.1,y.2.2.1,y.2.2.2.1⟩,fun _=>rfl,.inl rfl⟩
def et4:Ty τ:=⟨Int,false,[.int .u32],fun x=>(x,()),fun y=>y.1,fun _=>rfl,.inr ⟨_,rfl⟩⟩
def bc3:Ty τ:=⟨a64,true,[.int .i64,.int .i64,.int .i64,.int .i64,.int .i64,.int .i64,.int .i64,.int .i64,.str,.sl 89],fun x=>(x.ae,x.flags,x.plen,x.omitted,x.interval,x.seq,x.metric,x.have_,x.bytes,x.subs,()),fun y=>⟨y.1,y.2.1,y.2.2.1,y.2.2.2.1,y.2.2.2.2.1,y.2.2.2.2.2.1,y.2.2.2.2.2.2.1,y.2.2.2.2.2.2.2.1,y.2.2.2.2.2.2.2.2.1,y.2.2.2.2.2.2.2.2.2.1⟩,fun _=>rfl,.inl rfl⟩
def enc:(e:Nat)→τ e→List (CV τ)
 | 3,x=>a13.enc false x
 | 9,x=>a02.enc false x
 | 29,x=>a17.enc false x
 | 87,x=>aW6.enc false x
 | 89,x=>bc2.enc false x
 | 122,x=>ad9.enc false x
 | _,_=>[]
def dec (e:Nat) (cs:List (CV τ)):Option (τ e):=
 match Nat.decEq e 3 with
 | .isTrue h=>Eq.rec (motive:=fun e _=>Option (τ e)) (show Option (τ 3) from a13.dec false cs) h.symm
 | .isFalse _=>
 match Nat.decEq e 9 with
 | .isTrue h=>Eq.rec (motive:=fun e _=>Option (τ e)) (show Option (τ 9) from a02.dec false cs) h.symm
 | .isFalse _=>
 match Nat.decEq e 29 with
 | .isTrue h=>Eq.rec (motive:=fun e _=>Option (τ e)) (show Option (τ 29) from a17.dec false cs) h.symm
 | .isFalse _=>
 match Nat.decEq e 87 with
 | .isTrue h=>Eq.rec (motive:=fun e _=>Option (τ e)) (show Option (τ 87) from aW6.dec false cs) h.symm
 | .isFalse _=>
 match Nat.decEq e 89 with
 | .isTrue h=>Eq.rec (motive:=fun e _=>Option (τ e)) (show Option (τ 89) from bc2.dec false cs) h.symm
 | .isFalse _=>
 match Nat.decEq e 122 with
 | .isTrue h=>Eq.rec (motive:=fun e _=>Option (τ e)) (show Option (τ 122) from ad9.dec false cs) h.symm
 | .isFalse _=>
 none
def U:a65:=⟨τ,enc,dec⟩
theorem fj7 (e:Nat) (cs:List (CV U.τ)) (x:U.τ e) (h:U.dec e cs=some x):dE0 Tryz.prog U cs (U.enc e x):=by
 have h0:dec e cs=some x:=h
 unfold dec at h0
 cases hd3:Nat.decEq e 3 with
 | isTrue k=>subst k; simp only [hd3] at h0; exact Ty.univ (U:=U) a13 h0
 | isFalse k=>
 simp only [hd3] at h0
 cases hd9:Nat.decEq e 9 with
 | isTrue k=>subst k; simp only [hd9] at h0; exact Ty.univ (U:=U) a02 h0
 | isFalse k=>
 simp only [hd9] at h0
 cases hd29:Nat.decEq e 29 with
 | isTrue k=>subst k; simp only [hd29] at h0; exact Ty.univ (U:=U) a17 h0
 | isFalse k=>
 simp only [hd29] at h0
 cases hd87:Nat.decEq e 87 with
 | isTrue k=>subst k; simp only [hd87] at h0; exact Ty.univ (U:=U) aW6 h0
 | isFalse k=>
 simp only [hd87] at h0
 cases hd89:Nat.decEq e 89 with
 | isTrue k=>subst k; simp only [hd89] at h0; exact Ty.univ (U:=U) bc2 h0
 | isFalse k=>
 simp only [hd89] at h0
 cases hd122:Nat.decEq e 122 with
 | isTrue k=>subst k; simp only [hd122] at h0; exact Ty.univ (U:=U) ad9 h0
 | isFalse k=>
 simp only [hd122] at h0
 cases h0
noncomputable def am8:Nat:=Tryz.prog.bytesOf 29
noncomputable def bE1:Nat:=Tryz.prog.bytesOf 87
noncomputable def aG8:Nat:=Tryz.prog.bytesOf 89
noncomputable def aW8:Nat:=Tryz.prog.bytesOf 122
theorem c59:aC7 Tryz.prog U:=⟨fj7⟩
theorem cQ9:Tryz.prog.follows .mixedOrders=true:=by kernel_rfl
def a04:Nat:=1125899906842624
abbrev OkE (e:Ent U):Prop:=ao3 Tryz.prog U e
theorem okN:∀ e∈([]:List (Ent U)),OkE e:=fun _ h=>by cases h
theorem okC {e:Ent U} {l:List (Ent U)} (h:OkE e) (hl:∀ e∈l,OkE e):∀ x∈e::l,OkE x:=List.forall_mem_cons.2 ⟨h,hl⟩
theorem okF (es:List (Ent U)) (hes:∀ e∈es,OkE e) (adv:Adv) (n f:Nat) (fn:Func) (hf:Tryz.prog.funcs[f]?=some fn) (h1:(fn.name== "runtime.NumGoroutine")=false) (h2:fn.body.isNone=false) (sg:Sig τ):OkE ⟨f,sg,a05 (U:=U) Tryz.prog es adv n fn sg⟩:=eZ6 c59 cQ9 hes hf (b94 hf h1 h2) sg
noncomputable def lp (Φ:Tab U) (ad:Adv) (fn:Func) (np:Nat) (sg:Sig τ) (n:Nat) (p:List Dir) (st:St U):Option sg.B:=dD6 Tryz.prog Φ ad n (match fn.body with | some c=>c | none=>.skip) p (fd0 (U:=U) Tryz.prog fn np sg) (fun _ _=>none) (fd0 (U:=U) Tryz.prog fn np sg) st
end Go.VI
