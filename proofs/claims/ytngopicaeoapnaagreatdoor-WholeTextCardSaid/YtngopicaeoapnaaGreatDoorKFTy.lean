import Derived.Test.YtngopicaeoapnaaGreatDoorKVC
import Derived.Test.YtngopicaeoapnaaGreatDoorChecked
import Derived.KernelRfl
import Derived.Lib.LaidTab
import Derived.Lib.ItoaNum
set_option linter.unusedVariables false
set_option linter.unusedSimpArgs false
set_option maxRecDepth 1000000
set_option maxHeartbeats 4000000
namespace Go.VI
open Go Go.Proofs
structure ac1 where
 addr:List UInt8
 seq:Int
structure aa8 where
 type_:Int
 data:List UInt8
structure aa0 where
 kind:Int
 cmd:Int
 ver:Int
 auth:List UInt8
 family:Int
 ae:Int
 prefix_:List UInt8
 plen:Int
 tag:Int
 next:List UInt8
 metric:Int
 id:List UInt8
 seq:Int
 seq2:Int
 interval:Int
 flags:Int
 hops:Int
 nonce:Int
 cost:Int
 addr:List UInt8
 orig:List UInt8
 list:List ac1
 type_:Int
 data:List UInt8
 subs:List aa8
structure ce5 where
 kind:Int
 cmd:Int
 ver:Int
 family:Int
 ae:Int
 plen:Int
 tag:Int
 metric:Int
 seq:Int
 seq2:Int
 interval:Int
 flags:Int
 hops:Int
 nonce:Int
 cost:Int
 typ:Int
 auth:List UInt8
 prefix_:List UInt8
 next:List UInt8
 id:List UInt8
 addr:List UInt8
 orig:List UInt8
 data:List UInt8
structure aM5 where
 c0:List UInt8
 c1:List UInt8
 c2:List UInt8
 c3:List UInt8
 c4:List UInt8
 c5:List UInt8
 c6:List UInt8
 c7:List UInt8
 c8:List UInt8
 c9:List UInt8
 c10:List UInt8
 c11:List UInt8
 c12:List UInt8
 c13:List UInt8
 c14:List UInt8
structure bO3 where
 cmd:Int
 ver:Int
 says:List UInt8
 alone:Bool
structure ae7 where
 family:Int
 tag:Int
 addr:List UInt8
 mask:List UInt8
 next:List UInt8
 metric:Int
structure aF5 where
 cmd:Int
 next:List UInt8
 out:List aa0
structure ak0 where
 b:List UInt8
 next:List UInt8
structure af0 where
 prefix_c0:List UInt8
 prefix_c1:List UInt8
 prefix_c2:List UInt8
 prefix_c3:List UInt8
 next_c0:List UInt8
 next_c1:List UInt8
 id:List UInt8
structure ao3 where
 s:List UInt8
 at_:Int
 end_:Int
 bad:Bool
structure aF6 where
 c_S:List UInt8
 c_At:Int
 c_End:Int
 c_Bad:Bool
structure ak2 where
 type_:Int
 at_:Int
 data:List UInt8
structure ab0 where
 b:List UInt8
 c_Prefix_c0:List UInt8
 c_Prefix_c1:List UInt8
 c_Prefix_c2:List UInt8
 c_Prefix_c3:List UInt8
 c_Next_c0:List UInt8
 c_Next_c1:List UInt8
 c_Id:List UInt8
structure bi0 where
 c0_size:Int
 c0_base:Int
 c0_low:Int
 c0_high:Int
 c1_size:Int
 c1_base:Int
 c1_low:Int
 c1_high:Int
 c2_size:Int
 c2_base:Int
 c2_low:Int
 c2_high:Int
 c3_size:Int
 c3_base:Int
 c3_low:Int
 c3_high:Int
structure ah1 where
 ctx_Prefix_c0:List UInt8
 ctx_Prefix_c1:List UInt8
 ctx_Prefix_c2:List UInt8
 ctx_Prefix_c3:List UInt8
 ctx_Next_c0:List UInt8
 ctx_Next_c1:List UInt8
 ctx_Id:List UInt8
structure aF7 where
 c_S:List UInt8
 c_At:Int
 c_End:Int
 c_Bad:Bool
structure al6 where
 c_S:List UInt8
 c_At:Int
 c_End:Int
 c_Bad:Bool
structure ah2 where
 b:List UInt8
structure aR0 where
 ae:Int
 flags:Int
 plen:Int
 omitted:Int
 interval:Int
 seq:Int
 metric:Int
 have_:Int
 bytes:List UInt8
 subs:List aa8
def τ:Nat→Type
 | 3=>Int
 | 33=>aa0
 | 73=>ac1
 | 75=>aa8
 | 160=>ak2
 | _=>Unit
def ab4:Ty τ:=⟨Int,false,[.int .i64],fun x=>(x,()),fun y=>y.1,fun _=>rfl,.inr ⟨_,rfl⟩⟩
def ab5:Ty τ:=⟨Bool,false,[.bool],fun x=>(x,()),fun y=>y.1,fun _=>rfl,.inr ⟨_,rfl⟩⟩
def ck2:Ty τ:=⟨Int,false,[.int .u8],fun x=>(x,()),fun y=>y.1,fun _=>rfl,.inr ⟨_,rfl⟩⟩
def aa3:Ty τ:=⟨List UInt8,false,[.str],fun x=>(x,()),fun y=>y.1,fun _=>rfl,.inr ⟨_,rfl⟩⟩
def ae0:Ty τ:=⟨List aa0,false,[.sl 33],fun x=>(x,()),fun y=>y.1,fun _=>rfl,.inr ⟨_,rfl⟩⟩
def ab9:Ty τ:=⟨Int,false,[.int .i64],fun x=>(x,()),fun y=>y.1,fun _=>rfl,.inr ⟨_,rfl⟩⟩
def bZ1:Ty τ:=⟨List ac1,false,[.sl 73],fun x=>(x,()),fun y=>y.1,fun _=>rfl,.inr ⟨_,rfl⟩⟩
def ai9:Ty τ:=⟨List aa8,false,[.sl 75],fun x=>(x,()),fun y=>y.1,fun _=>rfl,.inr ⟨_,rfl⟩⟩
def ab2:Ty τ:=⟨aa0,true,[.int .i64,.int .i64,.int .i64,.str,.int .i64,.int .i64,.str,.int .i64,.int .i64,.str,.int .i64,.str,.int .i64,.int .i64,.int .i64,.int .i64,.int .i64,.int .i64,.int .i64,.str,.str,.sl 73,.int .i64,.str,.sl 75],fun x=>(x.kind,x.cmd,x.ver,x.auth,x.family,x.ae,x.prefix_,x.plen,x.tag,x.next,x.metric,x.id,x.seq,x.seq2,x.interval,x.flags,x.hops,x.nonce,x.cost,x.addr,x.orig,x.list,x.type_,x.data,x.subs,()),fun y=>⟨y.1,y.2.1,y.2.2.1,y.2.2.2.1,y.2.2.2.2.1,y.2.2.2.2.2.1,y.2.2.2.2.2.2.1,y.2.2.2.2.2.2.2.1,y.2.2.2.2.2.2.2.2.1,y.2.2.2.2.2.2.2.2.2.1,y.2.2.2.2.2.2.2.2.2.2.1,y.2.2.2.2.2.2.2.2.2.2.2.1,y.2.2.2.2.2.2.2.2.2.2.2.2.1,y.2.2.2.2.2.2.2.2.2.2.2.2.2.1,y.2.2.2.2.2.2.2.2.2.2.2.2.2.2.1,y.2.2.2.2.2.2.2.2.2.2.2.2.2.2.2.1,y.2.2.2.2.2.2.2.2.2.2.2.2.2.2.2.2.1,y.2.2.2.2.2.2.2.2.2.2.2.2.2.2.2.2.2.1,y.2.2.2.2.2.2.2.2.2.2.2.2.2.2.2.2.2.2.1,y.2.2.2.2.2.2.2.2.2.2.2.2.2.2.2.2.2.2.2.1,y.2.2.2.2.2.2.2.2.2.2.2.2.2.2.2.2.2.2.2.2.1,y.2.2.2.2.2.2.2.2.2.2.2.2.2.2.2.2.2.2.2.2.2.1,y.2.2.2.2.2.2.2.2.2.2.2.2.2.2.2.2.2.2.2.2.2.2.1,y.2.2.2.2.2.2.2.2.2.2.2.2.2.2.2.2.2.2.2.2.2.2.2.1,y.2.2.2.2.2.2.2.2.2.2.2.2.2.2.2.2.2.2.2.2.2.2.2.2.1⟩,fun _=>rfl,.inl rfl⟩
def aI5:Ty τ:=⟨ac1,true,[.str,.int .i64],fun x=>(x.addr,x.seq,()),fun y=>⟨y.1,y.2.1⟩,fun _=>rfl,.inl rfl⟩
def aR1:Ty τ:=⟨aa8,true,[.int .i64,.str],fun x=>(x.type_,x.data,()),fun y=>⟨y.1,y.2.1⟩,fun _=>rfl,.inl rfl⟩
def dY6:Ty τ:=⟨ce5,true,[.int .i64,.int .i64,.int .i64,.int .i64,.int .i64,.int .i64,.int .i64,.int .i64,.int .i64,.int .i64,.int .i64,.int .i64,.int .i64,.int .i64,.int .i64,.int .i64,.str,.str,.str,.str,.str,.str,.str],fun x=>(x.kind,x.cmd,x.ver,x.family,x.ae,x.plen,x.tag,x.metric,x.seq,x.seq2,x.interval,x.flags,x.hops,x.nonce,x.cost,x.typ,x.auth,x.prefix_,x.next,x.id,x.addr,x.orig,x.data,()),fun y=>⟨y.1,y.2.1,y.2.2.1,y.2.2.2.1,y.2.2.2.2.1,y.2.2.2.2.2.1,y.2.2.2.2.2.2.1,y.2.2.2.2.2.2.2.1,y.2.2.2.2.2.2.2.2.1,y.2.2.2.2.2.2.2.2.2.1,y.2.2.2.2.2.2.2.2.2.2.1,y.2.2.2.2.2.2.2.2.2.2.2.1,y.2.2.2.2.2.2.2.2.2.2.2.2.1,y.2.2.2.2.2.2.2.2.2.2.2.2.2.1,y.2.2.2.2.2.2.2.2.2.2.2.2.2.2.1,y.2.2.2.2.2.2.2.2.2.2.2.2.2.2.2.1,y.2.2.2.2.2.2.2.2.2.2.2.2.2.2.2.2.1,y.2.2.2.2.2.2.2.2.2.2.2.2.2.2.2.2.2.1,y.2.2.2.2.2.2.2.2.2.2.2.2.2.2.2.2.2.2.1,y.2.2.2.2.2.2.2.2.2.2.2.2.2.2.2.2.2.2.2.1,y.2.2.2.2.2.2.2.2.2.2.2.2.2.2.2.2.2.2.2.2.1,y.2.2.2.2.2.2.2.2.2.2.2.2.2.2.2.2.2.2.2.2.2.1,y.2.2.2.2.2.2.2.2.2.2.2.2.2.2.2.2.2.2.2.2.2.2.1⟩,fun _=>rfl,.inl rfl⟩
def dY7:Ty τ:=⟨aM5,true,[.str,.str,.str,.str,.str,.str,.str,.str,.str,.str,.str,.str,.str,.str,.str],fun x=>(x.c0,x.c1,x.c2,x.c3,x.c4,x.c5,x.c6,x.c7,x.c8,x.c9,x.c10,x.c11,x.c12,x.c13,x.c14,()),fun y=>⟨y.1,y.2.1,y.2.2.1,y.2.2.2.1,y.2.2.2.2.1,y.2.2.2.2.2.1,y.2.2.2.2.2.2.1,y.2.2.2.2.2.2.2.1,y.2.2.2.2.2.2.2.2.1,y.2.2.2.2.2.2.2.2.2.1,y.2.2.2.2.2.2.2.2.2.2.1,y.2.2.2.2.2.2.2.2.2.2.2.1,y.2.2.2.2.2.2.2.2.2.2.2.2.1,y.2.2.2.2.2.2.2.2.2.2.2.2.2.1,y.2.2.2.2.2.2.2.2.2.2.2.2.2.2.1⟩,fun _=>rfl,.inl rfl⟩
def dO9:Ty τ:=⟨bO3,true,[.int .i64,.int .i64,.str,.bool],fun x=>(x.cmd,x.ver,x.says,x.alone,()),fun y=>⟨y.1,y.2.1,y.2.2.1,y.2.2.2.1⟩,fun _=>rfl,.inl rfl⟩
def aw1:Ty τ:=⟨ae7,true,[.int .i64,.int .i64,.str,.str,.str,.int .i64],fun x=>(x.family,x.tag,x.addr,x.mask,x.next,x.metric,()),fun y=>⟨y.1,y.2.1,y.2.2.1,y.2.2.2.1,y.2.2.2.2.1,y.2.2.2.2.2.1⟩,fun _=>rfl,.inl rfl⟩
def ck3:Ty τ:=⟨aF5,true,[.int .i64,.str,.sl 33],fun x=>(x.cmd,x.next,x.out,()),fun y=>⟨y.1,y.2.1,y.2.2.1⟩,fun _=>rfl,.inl rfl⟩
def ck4:Ty τ:=⟨ak0,true,[.bs 5,.str],fun x=>(x.b,x.next,()),fun y=>⟨y.1,y.2.1⟩,fun _=>rfl,.inl rfl⟩
def ck5:Ty τ:=⟨List ak2,false,[.sl 160],fun x=>(x,()),fun y=>y.1,fun _=>rfl,.inr ⟨_,rfl⟩⟩
def aR2:Ty τ:=⟨af0,true,[.str,.str,.str,.str,.str,.str,.str],fun x=>(x.prefix_c0,x.prefix_c1,x.prefix_c2,x.prefix_c3,x.next_c0,x.next_c1,x.id,()),fun y=>⟨y.1,y.2.1,y.2.2.1,y.2.2.2.1,y.2.2.2.2.1,y.2.2.2.2.2.1,y.2.2.2.2.2.2.1⟩,fun _=>rfl,.inl rfl⟩
def aw2:Ty τ:=⟨ao3,true,[.str,.int .i64,.int .i64,.bool],fun x=>(x.s,x.at_,x.end_,x.bad,()),fun y=>⟨y.1,y.2.1,y.2.2.1,y.2.2.2.1⟩,fun _=>rfl,.inl rfl⟩
def ck6:Ty τ:=⟨aF6,true,[.str,.int .i64,.int .i64,.bool],fun x=>(x.c_S,x.c_At,x.c_End,x.c_Bad,()),fun y=>⟨y.1,y.2.1,y.2.2.1,y.2.2.2.1⟩,fun _=>rfl,.inl rfl⟩
def ei4:Ty τ:=⟨List Int,false,[.sl 3],fun x=>(x,()),fun y=>y.1,fun _=>rfl,.inr ⟨_,rfl⟩⟩
def aw3:Ty τ:=⟨ak2,true,[.int .i64,.int .i64,.str],fun x=>(x.type_,x.at_,x.data,()),fun y=>⟨y.1,y.2.1,y.2.2.1⟩,fun _=>rfl,.inl rfl⟩
def aL1:Ty τ:=⟨ab0,true,[.bs 5,.str,.str,.str,.str,.str,.str,.str],fun x=>(x.b,x.c_Prefix_c0,x.c_Prefix_c1,x.c_Prefix_c2,x.c_Prefix_c3,x.c_Next_c0,x.c_Next_c1,x.c_Id,()),fun y=>⟨y.1,y.2.1,y.2.2.1,y.2.2.2.1,y.2.2.2.2.1,y.2.2.2.2.2.1,y.2.2.2.2.2.2.1,y.2.2.2.2.2.2.2.1⟩,fun _=>rfl,.inl rfl⟩
def dP0:Ty τ:=⟨Int,false,[.int .u32],fun x=>(x,()),fun y=>y.1,fun _=>rfl,.inr ⟨_,rfl⟩⟩
def dj4:Ty τ:=⟨bi0,true,[.int .i64,.int .i64,.int .i64,.int .i64,.int .i64,.int .i64,.int .i64,.int .i64,.int .i64,.int .i64,.int .i64,.int .i64,.int .i64,.int .i64,.int .i64,.int .i64],fun x=>(x.c0_size,x.c0_base,x.c0_low,x.c0_high,x.c1_size,x.c1_base,x.c1_low,x.c1_high,x.c2_size,x.c2_base,x.c2_low,x.c2_high,x.c3_size,x.c3_base,x.c3_low,x.c3_high,()),fun y=>⟨y.1,y.2.1,y.2.2.1,y.2.2.2.1,y.2.2.2.2.1,y.2.2.2.2.2.1,y.2.2.2.2.2.2.1,y.2.2.2.2.2.2.2.1,y.2.2.2.2.2.2.2.2.1,y.2.2.2.2.2.2.2.2.2.1,y.2.2.2.2.2.2.2.2.2.2.1,y.2.2.2.2.2.2.2.2.2.2.2.1,y.2.2.2.2.2.2.2.2.2.2.2.2.1,y.2.2.2.2.2.2.2.2.2.2.2.2.2.1,y.2.2.2.2.2.2.2.2.2.2.2.2.2.2.1,y.2.2.2.2.2.2.2.2.2.2.2.2.2.2.2.1⟩,fun _=>rfl,.inl rfl⟩
def az7:Ty τ:=⟨ah1,true,[.str,.str,.str,.str,.str,.str,.str],fun x=>(x.ctx_Prefix_c0,x.ctx_Prefix_c1,x.ctx_Prefix_c2,x.ctx_Prefix_c3,x.ctx_Next_c0,x.ctx_Next_c1,x.ctx_Id,()),fun y=>⟨y.1,y.2.1,y.2.2.1,y.2.2.2.1,y.2.2.2.2.1,y.2.2.2.2.2.1,y.2.2.2.2.2.2.1⟩,fun _=>rfl,.inl rfl⟩
def ck7:Ty τ:=⟨aF7,true,[.str,.int .i64,.int .i64,.bool],fun x=>(x.c_S,x.c_At,x.c_End,x.c_Bad,()),fun y=>⟨y.1,y.2.1,y.2.2.1,y.2.2.2.1⟩,fun _=>rfl,.inl rfl⟩
def aU8:Ty τ:=⟨al6,true,[.str,.int .i64,.int .i64,.bool],fun x=>(x.c_S,x.c_At,x.c_End,x.c_Bad,()),fun y=>⟨y.1,y.2.1,y.2.2.1,y.2.2.2.1⟩,fun _=>rfl,.inl rfl⟩
def dt3:Ty τ:=⟨ah2,true,[.bs 5],fun x=>(x.b,()),fun y=>⟨y.1⟩,fun _=>rfl,.inl rfl⟩
def bZ2:Ty τ:=⟨aR0,true,[.int .i64,.int .i64,.int .i64,.int .i64,.int .i64,.int .i64,.int .i64,.int .i64,.str,.sl 75],fun x=>(x.ae,x.flags,x.plen,x.omitted,x.interval,x.seq,x.metric,x.have_,x.bytes,x.subs,()),fun y=>⟨y.1,y.2.1,y.2.2.1,y.2.2.2.1,y.2.2.2.2.1,y.2.2.2.2.2.1,y.2.2.2.2.2.2.1,y.2.2.2.2.2.2.2.1,y.2.2.2.2.2.2.2.2.1,y.2.2.2.2.2.2.2.2.2.1⟩,fun _=>rfl,.inl rfl⟩
def enc:(e:Nat)→τ e→List (CV τ)
 | 3,x=>ab4.enc false x
 | 33,x=>ab2.enc false x
 | 73,x=>aI5.enc false x
 | 75,x=>aR1.enc false x
 | 160,x=>aw3.enc false x
 | _,_=>[]
def dec (e:Nat) (cs:List (CV τ)):Option (τ e):=
 match Nat.decEq e 3 with
 | .isTrue h=>Eq.rec (motive:=fun e _=>Option (τ e)) (show Option (τ 3) from ab4.dec false cs) h.symm
 | .isFalse _=>
 match Nat.decEq e 33 with
 | .isTrue h=>Eq.rec (motive:=fun e _=>Option (τ e)) (show Option (τ 33) from ab2.dec false cs) h.symm
 | .isFalse _=>
 match Nat.decEq e 73 with
 | .isTrue h=>Eq.rec (motive:=fun e _=>Option (τ e)) (show Option (τ 73) from aI5.dec false cs) h.symm
 | .isFalse _=>
 match Nat.decEq e 75 with
 | .isTrue h=>Eq.rec (motive:=fun e _=>Option (τ e)) (show Option (τ 75) from aR1.dec false cs) h.symm
 | .isFalse _=>
 match Nat.decEq e 160 with
 | .isTrue h=>Eq.rec (motive:=fun e _=>Option (τ e)) (show Option (τ 160) from aw3.dec false cs) h.symm
 | .isFalse _=>
 none
def envW (w:World):Prop:=Lib.TabIs Tryz.prog w "internal/strconv.uint64pow10" .u64 Lib.pow10Tab∧(∃ tp p,w.cell? ⟨2,0,none⟩=some (.iface tp p))∧∃ tp p,w.cell? ⟨3,0,none⟩=some (.iface tp p)
theorem envW_stable (w w':World) (h:∀ b,b < 4→w'.heap[b]?=w.heap[b]?):envW w→envW w':=by
 intro ⟨h1,⟨t2,p2,h2⟩,t3,p3,h3⟩
 have hc:∀ b,b < 4→w'.cell? ⟨b,0,none⟩=w.cell? ⟨b,0,none⟩:=fun b hb=>by unfold World.cell?; simp only [h b hb]
 refine ⟨?_,⟨t2,p2,by rw [hc 2 (by decide)]; exact h2⟩,t3,p3,by rw [hc 3 (by decide)]; exact h3⟩
 have hg:Tryz.prog.globalNamed "internal/strconv.uint64pow10" = some 1:=by kernel_rfl
 unfold Lib.TabIs World.var? at h1 ⊢
 rw [hg] at h1 ⊢
 simp only [Option.bind_some] at h1 ⊢
 rw [h 1 (by decide)]
 exact h1
def U:ad6:={ τ:=τ,enc:=enc,dec:=dec,nb:=4,env:=envW,stable:=envW_stable }
theorem eS5 (e:Nat) (cs:List (CV U.τ)) (x:U.τ e) (h:U.dec e cs=some x):dc5 Tryz.prog U cs (U.enc e x):=by
 have h0:dec e cs=some x:=h
 unfold dec at h0
 cases hd3:Nat.decEq e 3 with
 | isTrue k=>subst k; simp only [hd3] at h0; exact Ty.univ (U:=U) ab4 h0
 | isFalse k=>
 simp only [hd3] at h0
 cases hd33:Nat.decEq e 33 with
 | isTrue k=>subst k; simp only [hd33] at h0; exact Ty.univ (U:=U) ab2 h0
 | isFalse k=>
 simp only [hd33] at h0
 cases hd73:Nat.decEq e 73 with
 | isTrue k=>subst k; simp only [hd73] at h0; exact Ty.univ (U:=U) aI5 h0
 | isFalse k=>
 simp only [hd73] at h0
 cases hd75:Nat.decEq e 75 with
 | isTrue k=>subst k; simp only [hd75] at h0; exact Ty.univ (U:=U) aR1 h0
 | isFalse k=>
 simp only [hd75] at h0
 cases hd160:Nat.decEq e 160 with
 | isTrue k=>subst k; simp only [hd160] at h0; exact Ty.univ (U:=U) aw3 h0
 | isFalse k=>
 simp only [hd160] at h0
 cases h0
noncomputable def aU9:Nat:=Tryz.prog.bytesOf 33
theorem cG0:aF4 Tryz.prog U:=⟨eS5⟩
theorem mixed:Tryz.prog.follows .mixedOrders=true:=by kernel_rfl
def fuel:Nat:=1125899906842624
abbrev OkE (e:Ent U):Prop:=aE1 Tryz.prog U e
theorem okN:∀ e∈([]:List (Ent U)),OkE e:=fun _ h=>by cases h
theorem okC {e:Ent U} {l:List (Ent U)} (h:OkE e) (hl:∀ e∈l,OkE e):∀ x∈e::l,OkE x:=List.forall_mem_cons.2 ⟨h,hl⟩
theorem okF (es:List (Ent U)) (hes:∀ e∈es,OkE e) (adv:Adv) (n f:Nat) (fn:Func) (hf:Tryz.prog.funcs[f]?=some fn) (h1:(fn.name== "runtime.NumGoroutine")=false) (h2:fn.body.isNone=false) (sg:Sig τ):OkE ⟨f,sg,aa6 (U:=U) Tryz.prog es adv n fn sg⟩:=eB2 cG0 mixed hes hf (aC7 hf h1 h2) sg
noncomputable def lp (Φ:Tab U) (ad:Adv) (fn:Func) (np:Nat) (sg:Sig τ) (n:Nat) (p:List Dir) (st:St U):Option sg.B:=dc1 Tryz.prog Φ ad n (match fn.body with | some c=>c | none=>.skip) p (eJ4 (U:=U) Tryz.prog fn np sg) (fun _ _=>none) (eJ4 (U:=U) Tryz.prog fn np sg) st
end Go.VI
