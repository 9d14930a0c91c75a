import Derived.Test.YtjdlhgdklmkkhaaGreatK3VC
import Derived.Test.YtjdlhgdklmkkhaaGreatChecked
import Derived.KernelRfl
import Derived.WalkKit
set_option linter.unusedVariables false
set_option linter.unusedSimpArgs false
set_option maxRecDepth 1000000
set_option maxHeartbeats 4000000
namespace Go.VI
open Go Go.Proofs
structure fe7 where
 c0:Int
 c1:Int
 c2:Int
structure af5 where
 addr:List UInt8
 seq:Int
structure aa7 where
 type_:Int
 data:List UInt8
structure aa0 where
 kind:Int
 cmd:Int
 ver:Int
 auth:List UInt8
 family:Int
 ae:Int
 prefix_:List UInt8
 plen:Int
 tag:Int
 next:List UInt8
 metric:Int
 id:List UInt8
 seq:Int
 seq2:Int
 interval:Int
 flags:Int
 hops:Int
 nonce:Int
 cost:Int
 addr:List UInt8
 orig:List UInt8
 list:List af5
 type_:Int
 data:List UInt8
 subs:List aa7
structure ao2 where
 l:List aa0
 d:List (List UInt8)
 at_:Int
 e:Int
structure ae1 where
 p:Int
 packs:Bool
 b:List UInt8
 l:List aa0
 most:Int
structure ag5 where
 v:Int
structure af6 where
 v:Int
structure ab2 where
 once_done_v:Int
 once_m_mu_state:Int
 once_m_mu_sema:Int
 kinds:Unit
 closed_v:Int
 calls_v:Int
 failed_v:Int
 bytes_v:Int
structure ad7 where
 family:Int
 tag:Int
 addr:List UInt8
 mask:List UInt8
 next:List UInt8
 metric:Int
structure ad8 where
 prefix_c0:List UInt8
 prefix_c1:List UInt8
 prefix_c2:List UInt8
 prefix_c3:List UInt8
 next_c0:List UInt8
 next_c1:List UInt8
 id:List UInt8
structure cr5 where
 c0:List UInt8
 c1:List UInt8
 c2:List UInt8
 c3:List UInt8
 c4:List UInt8
 c5:List UInt8
 c6:List UInt8
 c7:List UInt8
 c8:List UInt8
 c9:List UInt8
 c10:List UInt8
 c11:List UInt8
 c12:List UInt8
 c13:List UInt8
 c14:List UInt8
structure ac9 where
 type_:Int
 at_:Int
 data:List UInt8
structure aI7 where
 cmd:Int
 ver:Int
 says:List UInt8
 alone:Bool
structure ai7 where
 cmd:Int
 next:List UInt8
 out:List aa0
structure al3 where
 b:List UInt8
 next:List UInt8
structure cr6 where
 kind:Int
 cmd:Int
 ver:Int
 family:Int
 ae:Int
 plen:Int
 tag:Int
 metric:Int
 seq:Int
 seq2:Int
 interval:Int
 flags:Int
 hops:Int
 nonce:Int
 cost:Int
 typ:Int
 auth:List UInt8
 prefix_:List UInt8
 next:List UInt8
 id:List UInt8
 addr:List UInt8
 orig:List UInt8
 data:List UInt8
structure ac1 where
 s:List UInt8
 at_:Int
 end_:Int
 bad:Bool
structure al4 where
 c_S:List UInt8
 c_At:Int
 c_End:Int
 c_Bad:Bool
structure aa8 where
 b:List UInt8
 c_Prefix_c0:List UInt8
 c_Prefix_c1:List UInt8
 c_Prefix_c2:List UInt8
 c_Prefix_c3:List UInt8
 c_Next_c0:List UInt8
 c_Next_c1:List UInt8
 c_Id:List UInt8
structure bp7 where
 c0_size:Int
 c0_base:Int
 c0_low:Int
 c0_high:Int
 c1_size:Int
 c1_base:Int
 c1_low:Int
 c1_high:Int
 c2_size:Int
 c2_base:Int
 c2_low:Int
 c2_high:Int
 c3_size:Int
 c3_base:Int
 c3_low:Int
 c3_high:Int
structure ai4 where
 ae:Int
 flags:Int
 plen:Int
 omitted:Int
 interval:Int
 seq:Int
 metric:Int
 have_:Int
 bytes:List UInt8
 subs:List aa7
structure ac3 where
 ctx_Prefix_c0:List UInt8
 ctx_Prefix_c1:List UInt8
 ctx_Prefix_c2:List UInt8
 ctx_Prefix_c3:List UInt8
 ctx_Next_c0:List UInt8
 ctx_Next_c1:List UInt8
 ctx_Id:List UInt8
structure ag9 where
 c_S:List UInt8
 c_At:Int
 c_End:Int
 c_Bad:Bool
structure ac4 where
 c_S:List UInt8
 c_At:Int
 c_End:Int
 c_Bad:Bool
structure ai8 where
 b:List UInt8
def τ:Nat→Type
 | 3=>Int
 | 9=>List UInt8
 | 36=>ao2
 | 39=>ae1
 | 77=>aa0
 | 94=>af5
 | 96=>aa7
 | 149=>ac9
 | _=>Unit
def dG5:Ty τ:=⟨Int,false,[.int .i64],fun x=>(x,()),fun y=>y.1,fun _=>rfl,.inr ⟨_,rfl⟩⟩
def ab0:Ty τ:=⟨Int,false,[.int .i64],fun x=>(x,()),fun y=>y.1,fun _=>rfl,.inr ⟨_,rfl⟩⟩
def ab4:Ty τ:=⟨Bool,false,[.bool],fun x=>(x,()),fun y=>y.1,fun _=>rfl,.inr ⟨_,rfl⟩⟩
def en2:Ty τ:=⟨Int,false,[.int .u8],fun x=>(x,()),fun y=>y.1,fun _=>rfl,.inr ⟨_,rfl⟩⟩
def aa3:Ty τ:=⟨List UInt8,false,[.str],fun x=>(x,()),fun y=>y.1,fun _=>rfl,.inr ⟨_,rfl⟩⟩
def bj9:Ty τ:=⟨List ae1,false,[.sl 39],fun x=>(x,()),fun y=>y.1,fun _=>rfl,.inr ⟨_,rfl⟩⟩
def ad3:Ty τ:=⟨List aa0,false,[.sl 77],fun x=>(x,()),fun y=>y.1,fun _=>rfl,.inr ⟨_,rfl⟩⟩
def bh4:Ty τ:=⟨List (List UInt8),false,[.sl 9],fun x=>(x,()),fun y=>y.1,fun _=>rfl,.inr ⟨_,rfl⟩⟩
def ab3:Ty τ:=⟨Int,false,[.int .i64],fun x=>(x,()),fun y=>y.1,fun _=>rfl,.inr ⟨_,rfl⟩⟩
def aI8:Ty τ:=⟨ao2,true,[.sl 77,.sl 9,.int .i64,.int .i64],fun x=>(x.l,x.d,x.at_,x.e,()),fun y=>⟨y.1,y.2.1,y.2.2.1,y.2.2.2.1⟩,fun _=>rfl,.inl rfl⟩
def aF1:Ty τ:=⟨ae1,true,[.int .i64,.bool,.str,.sl 77,.int .i64],fun x=>(x.p,x.packs,x.b,x.l,x.most,()),fun y=>⟨y.1,y.2.1,y.2.2.1,y.2.2.2.1,y.2.2.2.2.1⟩,fun _=>rfl,.inl rfl⟩
def ec3:Ty τ:=⟨Int,false,[.int .u32],fun x=>(x,()),fun y=>y.1,fun _=>rfl,.inr ⟨_,rfl⟩⟩
def cL1:Ty τ:=⟨ag5,true,[.int .u32],fun x=>(x.v,()),fun y=>⟨y.1⟩,fun _=>rfl,.inl rfl⟩
def cy2:Ty τ:=⟨af6,true,[.int .i64],fun x=>(x.v,()),fun y=>⟨y.1⟩,fun _=>rfl,.inl rfl⟩
def aQ6:Ty τ:=⟨ab2,true,[.int .u32,.int .i32,.int .u32,.any,.int .u32,.int .i64,.int .i64,.int .i64],fun x=>(x.once_done_v,x.once_m_mu_state,x.once_m_mu_sema,x.kinds,x.closed_v,x.calls_v,x.failed_v,x.bytes_v,()),fun y=>⟨y.1,y.2.1,y.2.2.1,y.2.2.2.1,y.2.2.2.2.1,y.2.2.2.2.2.1,y.2.2.2.2.2.2.1,y.2.2.2.2.2.2.2.1⟩,fun _=>rfl,.inl rfl⟩
def cm7:Ty τ:=⟨List af5,false,[.sl 94],fun x=>(x,()),fun y=>y.1,fun _=>rfl,.inr ⟨_,rfl⟩⟩
def ak1:Ty τ:=⟨List aa7,false,[.sl 96],fun x=>(x,()),fun y=>y.1,fun _=>rfl,.inr ⟨_,rfl⟩⟩
def ac2:Ty τ:=⟨aa0,true,[.int .i64,.int .i64,.int .i64,.str,.int .i64,.int .i64,.str,.int .i64,.int .i64,.str,.int .i64,.str,.int .i64,.int .i64,.int .i64,.int .i64,.int .i64,.int .i64,.int .i64,.str,.str,.sl 94,.int .i64,.str,.sl 96],fun x=>(x.kind,x.cmd,x.ver,x.auth,x.family,x.ae,x.prefix_,x.plen,x.tag,x.next,x.metric,x.id,x.seq,x.seq2,x.interval,x.flags,x.hops,x.nonce,x.cost,x.addr,x.orig,x.list,x.type_,x.data,x.subs,()),fun y=>⟨y.1,y.2.1,y.2.2.1,y.2.2.2.1,y.2.2.2.2.1,y.2.2.2.2.2.1,y.2.2.2.2.2.2.1,y.2.2.2.2.2.2.2.1,y.2.2.2.2.2.2.2.2.1,y.2.2.2.2.2.2.2.2.2.1,y.2.2.2.2.2.2.2.2.2.2.1,y.2.2.2.2.2.2.2.2.2.2.2.1,y.2.2.2.2.2.2.2.2.2.2.2.2.1,y.2.2.2.2.2.2.2.2.2.2.2.2.2.1,y.2.2.2.2.2.2.2.2.2.2.2.2.2.2.1,y.2.2.2.2.2.2.2.2.2.2.2.2.2.2.2.1,y.2.2.2.2.2.2.2.2.2.2.2.2.2.2.2.2.1,y.2.2.2.2.2.2.2.2.2.2.2.2.2.2.2.2.2.1,y.2.2.2.2.2.2.2.2.2.2.2.2.2.2.2.2.2.2.1,y.2.2.2.2.2.2.2.2.2.2.2.2.2.2.2.2.2.2.2.1,y.2.2.2.2.2.2.2.2.2.2.2.2.2.2.2.2.2.2.2.2.1,y.2.2.2.2.2.2.2.2.2.2.2.2.2.2.2.2.2.2.2.2.2.1,y.2.2.2.2.2.2.2.2.2.2.2.2.2.2.2.2.2.2.2.2.2.2.1,y.2.2.2.2.2.2.2.2.2.2.2.2.2.2.2.2.2.2.2.2.2.2.2.1,y.2.2.2.2.2.2.2.2.2.2.2.2.2.2.2.2.2.2.2.2.2.2.2.2.1⟩,fun _=>rfl,.inl rfl⟩
def ba1:Ty τ:=⟨af5,true,[.str,.int .i64],fun x=>(x.addr,x.seq,()),fun y=>⟨y.1,y.2.1⟩,fun _=>rfl,.inl rfl⟩
def bm7:Ty τ:=⟨aa7,true,[.int .i64,.str],fun x=>(x.type_,x.data,()),fun y=>⟨y.1,y.2.1⟩,fun _=>rfl,.inl rfl⟩
def az1:Ty τ:=⟨ad7,true,[.int .i64,.int .i64,.str,.str,.str,.int .i64],fun x=>(x.family,x.tag,x.addr,x.mask,x.next,x.metric,()),fun y=>⟨y.1,y.2.1,y.2.2.1,y.2.2.2.1,y.2.2.2.2.1,y.2.2.2.2.2.1⟩,fun _=>rfl,.inl rfl⟩
def cy3:Ty τ:=⟨List ac9,false,[.sl 149],fun x=>(x,()),fun y=>y.1,fun _=>rfl,.inr ⟨_,rfl⟩⟩
def aV7:Ty τ:=⟨ad8,true,[.str,.str,.str,.str,.str,.str,.str],fun x=>(x.prefix_c0,x.prefix_c1,x.prefix_c2,x.prefix_c3,x.next_c0,x.next_c1,x.id,()),fun y=>⟨y.1,y.2.1,y.2.2.1,y.2.2.2.1,y.2.2.2.2.1,y.2.2.2.2.2.1,y.2.2.2.2.2.2.1⟩,fun _=>rfl,.inl rfl⟩
def ek2:Ty τ:=⟨cr5,true,[.str,.str,.str,.str,.str,.str,.str,.str,.str,.str,.str,.str,.str,.str,.str],fun x=>(x.c0,x.c1,x.c2,x.c3,x.c4,x.c5,x.c6,x.c7,x.c8,x.c9,x.c10,x.c11,x.c12,x.c13,x.c14,()),fun y=>⟨y.1,y.2.1,y.2.2.1,y.2.2.2.1,y.2.2.2.2.1,y.2.2.2.2.2.1,y.2.2.2.2.2.2.1,y.2.2.2.2.2.2.2.1,y.2.2.2.2.2.2.2.2.1,y.2.2.2.2.2.2.2.2.2.1,y.2.2.2.2.2.2.2.2.2.2.1,y.2.2.2.2.2.2.2.2.2.2.2.1,y.2.2.2.2.2.2.2.2.2.2.2.2.1,y.2.2.2.2.2.2.2.2.2.2.2.2.2.1,y.2.2.2.2.2.2.2.2.2.2.2.2.2.2.1⟩,fun _=>rfl,.inl rfl⟩
def az2:Ty τ:=⟨ac9,true,[.int .i64,.int .i64,.str],fun x=>(x.type_,x.at_,x.data,()),fun y=>⟨y.1,y.2.1,y.2.2.1⟩,fun _=>rfl,.inl rfl⟩
def ec4:Ty τ:=⟨aI7,true,[.int .i64,.int .i64,.str,.bool],fun x=>(x.cmd,x.ver,x.says,x.alone,()),fun y=>⟨y.1,y.2.1,y.2.2.1,y.2.2.2.1⟩,fun _=>rfl,.inl rfl⟩
def cy4:Ty τ:=⟨ai7,true,[.int .i64,.str,.sl 77],fun x=>(x.cmd,x.next,x.out,()),fun y=>⟨y.1,y.2.1,y.2.2.1⟩,fun _=>rfl,.inl rfl⟩
def cy5:Ty τ:=⟨al3,true,[.bs 5,.str],fun x=>(x.b,x.next,()),fun y=>⟨y.1,y.2.1⟩,fun _=>rfl,.inl rfl⟩
def ek3:Ty τ:=⟨cr6,true,[.int .i64,.int .i64,.int .i64,.int .i64,.int .i64,.int .i64,.int .i64,.int .i64,.int .i64,.int .i64,.int .i64,.int .i64,.int .i64,.int .i64,.int .i64,.int .i64,.str,.str,.str,.str,.str,.str,.str],fun x=>(x.kind,x.cmd,x.ver,x.family,x.ae,x.plen,x.tag,x.metric,x.seq,x.seq2,x.interval,x.flags,x.hops,x.nonce,x.cost,x.typ,x.auth,x.prefix_,x.next,x.id,x.addr,x.orig,x.data,()),fun y=>⟨y.1,y.2.1,y.2.2.1,y.2.2.2.1,y.2.2.2.2.1,y.2.2.2.2.2.1,y.2.2.2.2.2.2.1,y.2.2.2.2.2.2.2.1,y.2.2.2.2.2.2.2.2.1,y.2.2.2.2.2.2.2.2.2.1,y.2.2.2.2.2.2.2.2.2.2.1,y.2.2.2.2.2.2.2.2.2.2.2.1,y.2.2.2.2.2.2.2.2.2.2.2.2.1,y.2.2.2.2.2.2.2.2.2.2.2.2.2.1,y.2.2.2.2.2.2.2.2.2.2.2.2.2.2.1,y.2.2.2.2.2.2.2.2.2.2.2.2.2.2.2.1,y.2.2.2.2.2.2.2.2.2.2.2.2.2.2.2.2.1,y.2.2.2.2.2.2.2.2.2.2.2.2.2.2.2.2.2.1,y.2.2.2.2.2.2.2.2.2.2.2.2.2.2.2.2.2.2.1,y.2.2.2.2.2.2.2.2.2.2.2.2.2.2.2.2.2.2.2.1,y.2.2.2.2.2.2.2.2.2.2.2.2.2.2.2.2.2.2.2.2.1,y.2.2.2.2.2.2.2.2.2.2.2.2.2.2.2.2.2.2.2.2.2.1,y.2.2.2.2.2.2.2.2.2.2.2.2.2.2.2.2.2.2.2.2.2.2.1⟩,fun _=>rfl,.inl rfl⟩
def az3:Ty τ:=⟨ac1,true,[.str,.int .i64,.int .i64,.bool],fun x=>(x.s,x.at_,x.end_,x.bad,()),fun y=>⟨y.1,y.2.1,y.2.2.1,y.2.2.2.1⟩,fun _=>rfl,.inl rfl⟩
def cy6:Ty τ:=⟨al4,true,[.str,.int .i64,.int .i64,.bool],fun x=>(x.c_S,x.c_At,x.c_End,x.c_Bad,()),fun y=>⟨y.1,y.2.1,y.2.2.1,y.2.2.2.1⟩,fun _=>rfl,.inl rfl⟩
def es0:Ty τ:=⟨List Int,false,[.sl 3],fun x=>(x,()),fun y=>y.1,fun _=>rfl,.inr ⟨_,rfl⟩⟩
def aP5:Ty τ:=⟨aa8,true,[.bs 5,.str,.str,.str,.str,.str,.str,.str],fun x=>(x.b,x.c_Prefix_c0,x.c_Prefix_c1,x.c_Prefix_c2,x.c_Prefix_c3,x.c_Next_c0,x.c_Next_c1,x.c_Id,()),fun y=>⟨y.1,y.2.1,y.2.2.1,y.2.2.2.1,y.2.2.2.2.1,y.2.2.2.2.2.1,y.2.2.2.2.2.2.1,y.2.2.2.2.2.2.2.1⟩,fun _=>rfl,.inl rfl⟩
def dw1:Ty τ:=⟨bp7,true,[.int .i64,.int .i64,.int .i64,.int .i64,.int .i64,.int .i64,.int .i64,.int .i64,.int .i64,.int .i64,.int .i64,.int .i64,.int .i64,.int .i64,.int .i64,.int .i64],fun x=>(x.c0_size,x.c0_base,x.c0_low,x.c0_high,x.c1_size,x.c1_base,x.c1_low,x.c1_high,x.c2_size,x.c2_base,x.c2_low,x.c2_high,x.c3_size,x.c3_base,x.c3_low,x.c3_high,()),fun y=>⟨y.1,y.2.1,y.2.2.1,y.2.2.2.1,y.2.2.2.2.1,y.2.2.2.2.2.1,y.2.2.2.2.2.2.1,y.2.2.2.2.2.2.2.1,y.2.2.2.2.2.2.2.2.1,y.2.2.2.2.2.2.2.2.2.1,y.2.2.2.2.2.2.2.2.2.2.1,y.2.2.2.2.2.2.2.2.2.2.2.1,y.2.2.2.2.2.2.2.2.2.2.2.2.1,y.2.2.2.2.2.2.2.2.2.2.2.2.2.1,y.2.2.2.2.2.2.2.2.2.2.2.2.2.2.1,y.2.2.2.2.2.2.2.2.2.2.2.2.2.2.2.1⟩,fun _=>rfl,.inl rfl⟩
def cm8:Ty τ:=⟨ai4,true,[.int .i64,.int .i64,.int .i64,.int .i64,.int .i64,.int .i64,.int .i64,.int .i64,.str,.sl 96],fun x=>(x.ae,x.flags,x.plen,x.omitted,x.interval,x.seq,x.metric,x.have_,x.bytes,x.subs,()),fun y=>⟨y.1,y.2.1,y.2.2.1,y.2.2.2.1,y.2.2.2.2.1,y.2.2.2.2.2.1,y.2.2.2.2.2.2.1,y.2.2.2.2.2.2.2.1,y.2.2.2.2.2.2.2.2.1,y.2.2.2.2.2.2.2.2.2.1⟩,fun _=>rfl,.inl rfl⟩
def aC8:Ty τ:=⟨ac3,true,[.str,.str,.str,.str,.str,.str,.str],fun x=>(x.ctx_Prefix_c0,x.ctx_Prefix_c1,x.ctx_Prefix_c2,x.ctx_Prefix_c3,x.ctx_Next_c0,x.ctx_Next_c1,x.ctx_Id,()),fun y=>⟨y.1,y.2.1,y.2.2.1,y.2.2.2.1,y.2.2.2.2.1,y.2.2.2.2.2.1,y.2.2.2.2.2.2.1⟩,fun _=>rfl,.inl rfl⟩
def cy7:Ty τ:=⟨ag9,true,[.str,.int .i64,.int .i64,.bool],fun x=>(x.c_S,x.c_At,x.c_End,x.c_Bad,()),fun y=>⟨y.1,y.2.1,y.2.2.1,y.2.2.2.1⟩,fun _=>rfl,.inl rfl⟩
def ba2:Ty τ:=⟨ac4,true,[.str,.int .i64,.int .i64,.bool],fun x=>(x.c_S,x.c_At,x.c_End,x.c_Bad,()),fun y=>⟨y.1,y.2.1,y.2.2.1,y.2.2.2.1⟩,fun _=>rfl,.inl rfl⟩
def dG6:Ty τ:=⟨ai8,true,[.bs 5],fun x=>(x.b,()),fun y=>⟨y.1⟩,fun _=>rfl,.inl rfl⟩
def enc:(e:Nat)→τ e→List (CV τ)
 | 3,x=>ab0.enc false x
 | 9,x=>aa3.enc false x
 | 36,x=>aI8.enc false x
 | 39,x=>aF1.enc false x
 | 77,x=>ac2.enc false x
 | 94,x=>ba1.enc false x
 | 96,x=>bm7.enc false x
 | 149,x=>az2.enc false x
 | _,_=>[]
def dec (e:Nat) (cs:List (CV τ)):Option (τ e):=
 match Nat.decEq e 3 with
 | .isTrue h=>Eq.rec (motive:=fun e _=>Option (τ e)) (show Option (τ 3) from ab0.dec false cs) h.symm
 | .isFalse _=>
 match Nat.decEq e 9 with
 | .isTrue h=>Eq.rec (motive:=fun e _=>Option (τ e)) (show Option (τ 9) from aa3.dec false cs) h.symm
 | .isFalse _=>
 match Nat.decEq e 36 with
 | .isTrue h=>Eq.rec (motive:=fun e _=>Option (τ e)) (show Option (τ 36) from aI8.dec false cs) h.symm
 | .isFalse _=>
 match Nat.decEq e 39 with
 | .isTrue h=>Eq.rec (motive:=fun e _=>Option (τ e)) (show Option (τ 39) from aF1.dec false cs) h.symm
 | .isFalse _=>
 match Nat.decEq e 77 with
 | .isTrue h=>Eq.rec (motive:=fun e _=>Option (τ e)) (show Option (τ 77) from ac2.dec false cs) h.symm
 | .isFalse _=>
 match Nat.decEq e 94 with
 | .isTrue h=>Eq.rec (motive:=fun e _=>Option (τ e)) (show Option (τ 94) from ba1.dec false cs) h.symm
 | .isFalse _=>
 match Nat.decEq e 96 with
 | .isTrue h=>Eq.rec (motive:=fun e _=>Option (τ e)) (show Option (τ 96) from bm7.dec false cs) h.symm
 | .isFalse _=>
 match Nat.decEq e 149 with
 | .isTrue h=>Eq.rec (motive:=fun e _=>Option (τ e)) (show Option (τ 149) from az2.dec false cs) h.symm
 | .isFalse _=>
 none
def U:af0:={ τ:=τ,enc:=enc,dec:=dec,news:=[(6,[.int .u32 0,.int .i32 0,.int .u32 0,.any,.int .u32 0,.int .i64 0,.int .i64 0,.int .i64 0])] }
theorem eZ6 (e:Nat) (cs:List (CV U.τ)) (x:U.τ e) (h:U.dec e cs=some x):do6 Tryz.prog U cs (U.enc e x):=by
 have h0:dec e cs=some x:=h
 unfold dec at h0
 cases hd3:Nat.decEq e 3 with
 | isTrue k=>subst k; simp only [hd3] at h0; exact Ty.univ (U:=U) ab0 h0
 | isFalse k=>
 simp only [hd3] at h0
 cases hd9:Nat.decEq e 9 with
 | isTrue k=>subst k; simp only [hd9] at h0; exact Ty.univ (U:=U) aa3 h0
 | isFalse k=>
 simp only [hd9] at h0
 cases hd36:Nat.decEq e 36 with
 | isTrue k=>subst k; simp only [hd36] at h0; exact Ty.univ (U:=U) aI8 h0
 | isFalse k=>
 simp only [hd36] at h0
 cases hd39:Nat.decEq e 39 with
 | isTrue k=>subst k; simp only [hd39] at h0; exact Ty.univ (U:=U) aF1 h0
 | isFalse k=>
 simp only [hd39] at h0
 cases hd77:Nat.decEq e 77 with
 | isTrue k=>subst k; simp only [hd77] at h0; exact Ty.univ (U:=U) ac2 h0
 | isFalse k=>
 simp only [hd77] at h0
 cases hd94:Nat.decEq e 94 with
 | isTrue k=>subst k; simp only [hd94] at h0; exact Ty.univ (U:=U) ba1 h0
 | isFalse k=>
 simp only [hd94] at h0
 cases hd96:Nat.decEq e 96 with
 | isTrue k=>subst k; simp only [hd96] at h0; exact Ty.univ (U:=U) bm7 h0
 | isFalse k=>
 simp only [hd96] at h0
 cases hd149:Nat.decEq e 149 with
 | isTrue k=>subst k; simp only [hd149] at h0; exact Ty.univ (U:=U) az2 h0
 | isFalse k=>
 simp only [hd149] at h0
 cases h0
noncomputable def cm9:Nat:=Tryz.prog.bytesOf 9
noncomputable def ba3:Nat:=Tryz.prog.bytesOf 77
noncomputable def cr7:Nat:=Tryz.prog.bytesOf 94
noncomputable def bW4:Nat:=Tryz.prog.bytesOf 96
noncomputable def cF7:Nat:=Tryz.prog.bytesOf 149
theorem eT6:dY9 Tryz.prog U 6 [] ⟨.box [.int .u32 0,.int .i32 0,.int .u32 0,.any,.int .u32 0,.int .i64 0,.int .i64 0,.int .i64 0],[]⟩:=by
 refine ⟨rfl,ar0 Tryz.func6 (by kernel_rfl) (by kernel_rfl),_,rfl,fun w=>?_⟩
 go_enter Tryz.func6,Tryz.ntmps6
 go_wp2
 go_ret
 refine ⟨_,_,rfl,rfl,rfl,fun i c hi=>?_⟩
 match i,hi with
 | 0,hi=>injection hi with hi; subst hi; exact ⟨_,rfl,fun I=>.int _ _ (by unfold IntKind.has; decide)⟩
 | 1,hi=>injection hi with hi; subst hi; exact ⟨_,rfl,fun I=>.int _ _ (by unfold IntKind.has; decide)⟩
 | 2,hi=>injection hi with hi; subst hi; exact ⟨_,rfl,fun I=>.int _ _ (by unfold IntKind.has; decide)⟩
 | 3,hi=>injection hi with hi; subst hi; exact ⟨_,rfl,fun I=>.any _ trivial⟩
 | 4,hi=>injection hi with hi; subst hi; exact ⟨_,rfl,fun I=>.int _ _ (by unfold IntKind.has; decide)⟩
 | 5,hi=>injection hi with hi; subst hi; exact ⟨_,rfl,fun I=>.int _ _ (by unfold IntKind.has; decide)⟩
 | 6,hi=>injection hi with hi; subst hi; exact ⟨_,rfl,fun I=>.int _ _ (by unfold IntKind.has; decide)⟩
 | 7,hi=>injection hi with hi; subst hi; exact ⟨_,rfl,fun I=>.int _ _ (by unfold IntKind.has; decide)⟩
 | i+8,hi=>cases hi
theorem eT7 (f:Nat) (cs:List (CV U.τ)) (h:(f,cs)∈U.news):dY9 Tryz.prog U f [] ⟨.box cs,[]⟩:=by
 have h:(f,cs)∈[(6,[.int .u32 0,.int .i32 0,.int .u32 0,.any,.int .u32 0,.int .i64 0,.int .i64 0,.int .i64 0])]:=h
 rcases List.mem_cons.1 h with h | h
 ·injection h with h1 h2; subst h1; subst h2; exact eT6
 cases h
theorem aI9:aD7 Tryz.prog U:=⟨eZ6,eT7⟩
theorem cF8:Tryz.prog.follows .mixedOrders=true:=by kernel_rfl
def fuel:Nat:=1125899906842624
abbrev OkE (e:Ent U):Prop:=ax8 Tryz.prog U e
theorem okN:∀ e∈([]:List (Ent U)),OkE e:=fun _ h=>by cases h
theorem okC {e:Ent U} {l:List (Ent U)} (h:OkE e) (hl:∀ e∈l,OkE e):∀ x∈e::l,OkE x:=List.forall_mem_cons.2 ⟨h,hl⟩
theorem okF (es:List (Ent U)) (hes:∀ e∈es,OkE e) (adv:Adv) (n f:Nat) (fn:Func) (hf:Tryz.prog.funcs[f]?=some fn) (h1:(fn.name== "runtime.NumGoroutine")=false) (h2:fn.body.isNone=false) (sg:Sig τ):OkE ⟨f,sg,aa5 (U:=U) Tryz.prog es adv n fn sg⟩:=eJ6 aI9 cF8 hes hf (ar0 hf h1 h2) sg
noncomputable def lp (Φ:Tab U) (ad:Adv) (fn:Func) (np:Nat) (sg:Sig τ) (n:Nat) (p:List Dir) (st:St U):Option sg.B:=do1 Tryz.prog Φ ad n (match fn.body with | some c=>c | none=>.skip) p (eR3 (U:=U) Tryz.prog fn np sg) (fun _ _=>none) (eR3 (U:=U) Tryz.prog fn np sg) st
end Go.VI
