import Derived.Test.YtjdlhgdklmkkhaaGreatSpVC
import Derived.Test.YtjdlhgdklmkkhaaGreatChecked
import Derived.KernelRfl
import Derived.WalkKit
set_option linter.unusedVariables false
set_option linter.unusedSimpArgs false
set_option maxRecDepth 1000000
set_option maxHeartbeats 4000000
noncomputable section
namespace Go.VI
open Go Go.Proofs
structure mL where
 c0:Int
 c1:Int
 c2:Int
structure eB where
 addr:at1
 seq:Int
structure b8 where
 aA:Int
 data:at1
structure bE where
 kind:Int
 cmd:Int
 ver:Int
 aC:at1
 family:Int
 ae:Int
 ah:at1
 af:Int
 tag:Int
 next:at1
 aj:Int
 id:at1
 seq:Int
 seq2:Int
 aw:Int
 flags:Int
 hops:Int
 aB:Int
 cost:Int
 addr:at1
 aD:at1
 list:List eB
 aA:Int
 data:at1
 subs:List b8
structure dF where
 l:List bE
 d:List at1
 at_:Int
 e:Int
structure da where
 p:Int
 bk:Bool
 b:at1
 l:List bE
 most:Int
structure gR where
 v:Int
structure gT where
 v:Int
structure dM where
 aS:Int
 aF:Int
 aG:Int
 kinds:Unit
 aH:Int
 aW:Int
 aT:Int
 aU:Int
structure de where
 family:Int
 tag:Int
 addr:at1
 mask:at1
 next:at1
 aj:Int
structure bQ where
 au:at1
 ak:at1
 am:at1
 aq:at1
 ax:at1
 ay:at1
 id:at1
structure Do where
 c0:at1
 c1:at1
 c2:at1
 c3:at1
 c4:at1
 c5:at1
 c6:at1
 c7:at1
 c8:at1
 c9:at1
 c10:at1
 c11:at1
 c12:at1
 c13:at1
 c14:at1
structure cy where
 aA:Int
 at_:Int
 data:at1
structure rN where
 cmd:Int
 ver:Int
 says:at1
 alone:Bool
structure jP where
 cmd:Int
 next:at1
 out:List bE
structure ll where
 b:at1
 next:at1
structure Cl where
 kind:Int
 cmd:Int
 ver:Int
 family:Int
 ae:Int
 af:Int
 tag:Int
 aj:Int
 seq:Int
 seq2:Int
 aw:Int
 flags:Int
 hops:Int
 aB:Int
 cost:Int
 typ:Int
 aC:at1
 ah:at1
 next:at1
 id:at1
 addr:at1
 aD:at1
 data:at1
structure du where
 s:at1
 at_:Int
 a9:Int
 bad:Bool
structure lG where
 c_S:at1
 aX:Int
 bh:Int
 aV:Bool
structure dE where
 b:at1
 aK:at1
 aI:at1
 aJ:at1
 aL:at1
 aR:at1
 aQ:at1
 bg:at1
structure Es where
 bo:Int
 bc:Int
 bw:Int
 bu:Int
 br:Int
 ba:Int
 bz:Int
 bl:Int
 bp:Int
 bb:Int
 bx:Int
 bq:Int
 bm:Int
 bf:Int
 bv:Int
 bn:Int
structure eg where
 ae:Int
 flags:Int
 af:Int
 aE:Int
 aw:Int
 seq:Int
 aj:Int
 bi:Int
 bytes:at1
 subs:List b8
structure eA where
 aM:at1
 aO:at1
 aN:at1
 aP:at1
 aY:at1
 aZ:at1
 bj:at1
structure ix where
 c_S:at1
 aX:Int
 bh:Int
 aV:Bool
structure eX where
 c_S:at1
 aX:Int
 bh:Int
 aV:Bool
structure ly where
 b:at1
def τ:Nat->Type
 | 3=>Int
 | 9=>at1
 | 36=>dF
 | 39=>da
 | 77=>bE
 | 94=>eB
 | 96=>b8
 | 149=>cy
 | _=>Unit
def D6:Ty τ:=⟨Int,false,[.int .i64],fun x=>(x,()),fun y=>y.1,fun _=>rfl,.inr ⟨_,rfl⟩⟩
def cd:Ty τ:=⟨Int,false,[.int .i64],fun x=>(x,()),fun y=>y.1,fun _=>rfl,.inr ⟨_,rfl⟩⟩
def cX:Ty τ:=⟨Bool,false,[.bool],fun x=>(x,()),fun y=>y.1,fun _=>rfl,.inr ⟨_,rfl⟩⟩
def SM:Ty τ:=⟨Int,false,[.int .u8],fun x=>(x,()),fun y=>y.1,fun _=>rfl,.inr ⟨_,rfl⟩⟩
def cz:Ty τ:=⟨at1,false,[.str],fun x=>(x,()),fun y=>y.1,fun _=>rfl,.inr ⟨_,rfl⟩⟩
def Df:Ty τ:=⟨List da,false,[.sl 39],fun x=>(x,()),fun y=>y.1,fun _=>rfl,.inr ⟨_,rfl⟩⟩
def dN3:Ty τ:=⟨List dF,false,[.sl 36],fun x=>(x,()),fun y=>y.1,fun _=>rfl,.inr ⟨_,rfl⟩⟩
def fS9:Ty τ:=⟨mL,true,[.int .i64,.int .i64,.int .i64],fun x=>(x.c0,x.c1,x.c2,()),fun y=>⟨y.1,y.2.1,y.2.2.1⟩,fun _=>rfl,.inl rfl⟩
def ii:Ty τ:=⟨List bE,false,[.sl 77],fun x=>(x,()),fun y=>y.1,fun _=>rfl,.inr ⟨_,rfl⟩⟩
def yA:Ty τ:=⟨List at1,false,[.sl 9],fun x=>(x,()),fun y=>y.1,fun _=>rfl,.inr ⟨_,rfl⟩⟩
def eo:Ty τ:=⟨Int,false,[.int .i64],fun x=>(x,()),fun y=>y.1,fun _=>rfl,.inr ⟨_,rfl⟩⟩
def qG:Ty τ:=⟨dF,true,[.sl 77,.sl 9,.int .i64,.int .i64],fun x=>(x.l,x.d,x.at_,x.e,()),fun y=>⟨y.1,y.2.1,y.2.2.1,y.2.2.2.1⟩,fun _=>rfl,.inl rfl⟩
def pJ:Ty τ:=⟨da,true,[.int .i64,.bool,.str,.sl 77,.int .i64],fun x=>(x.p,x.bk,x.b,x.l,x.most,()),fun y=>⟨y.1,y.2.1,y.2.2.1,y.2.2.2.1,y.2.2.2.2.1⟩,fun _=>rfl,.inl rfl⟩
def eY2:Ty τ:=⟨Int,false,[.int .u32],fun x=>(x,()),fun y=>y.1,fun _=>rfl,.inr ⟨_,rfl⟩⟩
def UP:Ty τ:=⟨gR,true,[.int .u32],fun x=>(x.v,()),fun y=>⟨y.1⟩,fun _=>rfl,.inl rfl⟩
def Tu:Ty τ:=⟨gT,true,[.int .i64],fun x=>(x.v,()),fun y=>⟨y.1⟩,fun _=>rfl,.inl rfl⟩
def rP:Ty τ:=⟨dM,true,[.int .u32,.int .i32,.int .u32,.any,.int .u32,.int .i64,.int .i64,.int .i64],fun x=>(x.aS,x.aF,x.aG,x.kinds,x.aH,x.aW,x.aT,x.aU,()),fun y=>⟨y.1,y.2.1,y.2.2.1,y.2.2.2.1,y.2.2.2.2.1,y.2.2.2.2.2.1,y.2.2.2.2.2.2.1,y.2.2.2.2.2.2.2.1⟩,fun _=>rfl,.inl rfl⟩
def T6:Ty τ:=⟨List eB,false,[.sl 94],fun x=>(x,()),fun y=>y.1,fun _=>rfl,.inr ⟨_,rfl⟩⟩
def mw:Ty τ:=⟨List b8,false,[.sl 96],fun x=>(x,()),fun y=>y.1,fun _=>rfl,.inr ⟨_,rfl⟩⟩
def fo:Ty τ:=⟨bE,true,[.int .i64,.int .i64,.int .i64,.str,.int .i64,.int .i64,.str,.int .i64,.int .i64,.str,.int .i64,.str,.int .i64,.int .i64,.int .i64,.int .i64,.int .i64,.int .i64,.int .i64,.str,.str,.sl 94,.int .i64,.str,.sl 96],fun x=>(x.kind,x.cmd,x.ver,x.aC,x.family,x.ae,x.ah,x.af,x.tag,x.next,x.aj,x.id,x.seq,x.seq2,x.aw,x.flags,x.hops,x.aB,x.cost,x.addr,x.aD,x.list,x.aA,x.data,x.subs,()),fun y=>⟨y.1,y.2.1,y.2.2.1,y.2.2.2.1,y.2.2.2.2.1,y.2.2.2.2.2.1,y.2.2.2.2.2.2.1,y.2.2.2.2.2.2.2.1,y.2.2.2.2.2.2.2.2.1,y.2.2.2.2.2.2.2.2.2.1,y.2.2.2.2.2.2.2.2.2.2.1,y.2.2.2.2.2.2.2.2.2.2.2.1,y.2.2.2.2.2.2.2.2.2.2.2.2.1,y.2.2.2.2.2.2.2.2.2.2.2.2.2.1,y.2.2.2.2.2.2.2.2.2.2.2.2.2.2.1,y.2.2.2.2.2.2.2.2.2.2.2.2.2.2.2.1,y.2.2.2.2.2.2.2.2.2.2.2.2.2.2.2.2.1,y.2.2.2.2.2.2.2.2.2.2.2.2.2.2.2.2.2.1,y.2.2.2.2.2.2.2.2.2.2.2.2.2.2.2.2.2.2.1,y.2.2.2.2.2.2.2.2.2.2.2.2.2.2.2.2.2.2.2.1,y.2.2.2.2.2.2.2.2.2.2.2.2.2.2.2.2.2.2.2.2.1,y.2.2.2.2.2.2.2.2.2.2.2.2.2.2.2.2.2.2.2.2.2.1,y.2.2.2.2.2.2.2.2.2.2.2.2.2.2.2.2.2.2.2.2.2.2.1,y.2.2.2.2.2.2.2.2.2.2.2.2.2.2.2.2.2.2.2.2.2.2.2.1,y.2.2.2.2.2.2.2.2.2.2.2.2.2.2.2.2.2.2.2.2.2.2.2.2.1⟩,fun _=>rfl,.inl rfl⟩
def p9:Ty τ:=⟨eB,true,[.str,.int .i64],fun x=>(x.addr,x.seq,()),fun y=>⟨y.1,y.2.1⟩,fun _=>rfl,.inl rfl⟩
def sw:Ty τ:=⟨b8,true,[.int .i64,.str],fun x=>(x.aA,x.data,()),fun y=>⟨y.1,y.2.1⟩,fun _=>rfl,.inl rfl⟩
def qd:Ty τ:=⟨de,true,[.int .i64,.int .i64,.str,.str,.str,.int .i64],fun x=>(x.family,x.tag,x.addr,x.mask,x.next,x.aj,()),fun y=>⟨y.1,y.2.1,y.2.2.1,y.2.2.2.1,y.2.2.2.2.1,y.2.2.2.2.2.1⟩,fun _=>rfl,.inl rfl⟩
def Ww:Ty τ:=⟨List cy,false,[.sl 149],fun x=>(x,()),fun y=>y.1,fun _=>rfl,.inr ⟨_,rfl⟩⟩
def nO:Ty τ:=⟨bQ,true,[.str,.str,.str,.str,.str,.str,.str],fun x=>(x.au,x.ak,x.am,x.aq,x.ax,x.ay,x.id,()),fun y=>⟨y.1,y.2.1,y.2.2.1,y.2.2.2.1,y.2.2.2.2.1,y.2.2.2.2.2.1,y.2.2.2.2.2.2.1⟩,fun _=>rfl,.inl rfl⟩
def fe1:Ty τ:=⟨Do,true,[.str,.str,.str,.str,.str,.str,.str,.str,.str,.str,.str,.str,.str,.str,.str],fun x=>(x.c0,x.c1,x.c2,x.c3,x.c4,x.c5,x.c6,x.c7,x.c8,x.c9,x.c10,x.c11,x.c12,x.c13,x.c14,()),fun y=>⟨y.1,y.2.1,y.2.2.1,y.2.2.2.1,y.2.2.2.2.1,y.2.2.2.2.2.1,y.2.2.2.2.2.2.1,y.2.2.2.2.2.2.2.1,y.2.2.2.2.2.2.2.2.1,y.2.2.2.2.2.2.2.2.2.1,y.2.2.2.2.2.2.2.2.2.2.1,y.2.2.2.2.2.2.2.2.2.2.2.1,y.2.2.2.2.2.2.2.2.2.2.2.2.1,y.2.2.2.2.2.2.2.2.2.2.2.2.2.1,y.2.2.2.2.2.2.2.2.2.2.2.2.2.2.1⟩,fun _=>rfl,.inl rfl⟩
def nF:Ty τ:=⟨cy,true,[.int .i64,.int .i64,.str],fun x=>(x.aA,x.at_,x.data,()),fun y=>⟨y.1,y.2.1,y.2.2.1⟩,fun _=>rfl,.inl rfl⟩
def eY3:Ty τ:=⟨rN,true,[.int .i64,.int .i64,.str,.bool],fun x=>(x.cmd,x.ver,x.says,x.alone,()),fun y=>⟨y.1,y.2.1,y.2.2.1,y.2.2.2.1⟩,fun _=>rfl,.inl rfl⟩
def Yw:Ty τ:=⟨jP,true,[.int .i64,.str,.sl 77],fun x=>(x.cmd,x.next,x.out,()),fun y=>⟨y.1,y.2.1,y.2.2.1⟩,fun _=>rfl,.inl rfl⟩
def QG:Ty τ:=⟨ll,true,[.bs 5,.str],fun x=>(x.b,x.next,()),fun y=>⟨y.1,y.2.1⟩,fun _=>rfl,.inl rfl⟩
def fe2:Ty τ:=⟨Cl,true,[.int .i64,.int .i64,.int .i64,.int .i64,.int .i64,.int .i64,.int .i64,.int .i64,.int .i64,.int .i64,.int .i64,.int .i64,.int .i64,.int .i64,.int .i64,.int .i64,.str,.str,.str,.str,.str,.str,.str],fun x=>(x.kind,x.cmd,x.ver,x.family,x.ae,x.af,x.tag,x.aj,x.seq,x.seq2,x.aw,x.flags,x.hops,x.aB,x.cost,x.typ,x.aC,x.ah,x.next,x.id,x.addr,x.aD,x.data,()),fun y=>⟨y.1,y.2.1,y.2.2.1,y.2.2.2.1,y.2.2.2.2.1,y.2.2.2.2.2.1,y.2.2.2.2.2.2.1,y.2.2.2.2.2.2.2.1,y.2.2.2.2.2.2.2.2.1,y.2.2.2.2.2.2.2.2.2.1,y.2.2.2.2.2.2.2.2.2.2.1,y.2.2.2.2.2.2.2.2.2.2.2.1,y.2.2.2.2.2.2.2.2.2.2.2.2.1,y.2.2.2.2.2.2.2.2.2.2.2.2.2.1,y.2.2.2.2.2.2.2.2.2.2.2.2.2.2.1,y.2.2.2.2.2.2.2.2.2.2.2.2.2.2.2.1,y.2.2.2.2.2.2.2.2.2.2.2.2.2.2.2.2.1,y.2.2.2.2.2.2.2.2.2.2.2.2.2.2.2.2.2.1,y.2.2.2.2.2.2.2.2.2.2.2.2.2.2.2.2.2.2.1,y.2.2.2.2.2.2.2.2.2.2.2.2.2.2.2.2.2.2.2.1,y.2.2.2.2.2.2.2.2.2.2.2.2.2.2.2.2.2.2.2.2.1,y.2.2.2.2.2.2.2.2.2.2.2.2.2.2.2.2.2.2.2.2.2.1,y.2.2.2.2.2.2.2.2.2.2.2.2.2.2.2.2.2.2.2.2.2.2.1⟩,fun _=>rfl,.inl rfl⟩
def lI:Ty τ:=⟨du,true,[.str,.int .i64,.int .i64,.bool],fun x=>(x.s,x.at_,x.a9,x.bad,()),fun y=>⟨y.1,y.2.1,y.2.2.1,y.2.2.2.1⟩,fun _=>rfl,.inl rfl⟩
def RO:Ty τ:=⟨lG,true,[.str,.int .i64,.int .i64,.bool],fun x=>(x.c_S,x.aX,x.bh,x.aV,()),fun y=>⟨y.1,y.2.1,y.2.2.1,y.2.2.2.1⟩,fun _=>rfl,.inl rfl⟩
def Z9:Ty τ:=⟨List Int,false,[.sl 3],fun x=>(x,()),fun y=>y.1,fun _=>rfl,.inr ⟨_,rfl⟩⟩
def vU:Ty τ:=⟨dE,true,[.bs 5,.str,.str,.str,.str,.str,.str,.str],fun x=>(x.b,x.aK,x.aI,x.aJ,x.aL,x.aR,x.aQ,x.bg,()),fun y=>⟨y.1,y.2.1,y.2.2.1,y.2.2.2.1,y.2.2.2.2.1,y.2.2.2.2.2.1,y.2.2.2.2.2.2.1,y.2.2.2.2.2.2.2.1⟩,fun _=>rfl,.inl rfl⟩
def Z3:Ty τ:=⟨Es,true,[.int .i64,.int .i64,.int .i64,.int .i64,.int .i64,.int .i64,.int .i64,.int .i64,.int .i64,.int .i64,.int .i64,.int .i64,.int .i64,.int .i64,.int .i64,.int .i64],fun x=>(x.bo,x.bc,x.bw,x.bu,x.br,x.ba,x.bz,x.bl,x.bp,x.bb,x.bx,x.bq,x.bm,x.bf,x.bv,x.bn,()),fun y=>⟨y.1,y.2.1,y.2.2.1,y.2.2.2.1,y.2.2.2.2.1,y.2.2.2.2.2.1,y.2.2.2.2.2.2.1,y.2.2.2.2.2.2.2.1,y.2.2.2.2.2.2.2.2.1,y.2.2.2.2.2.2.2.2.2.1,y.2.2.2.2.2.2.2.2.2.2.1,y.2.2.2.2.2.2.2.2.2.2.2.1,y.2.2.2.2.2.2.2.2.2.2.2.2.1,y.2.2.2.2.2.2.2.2.2.2.2.2.2.1,y.2.2.2.2.2.2.2.2.2.2.2.2.2.2.1,y.2.2.2.2.2.2.2.2.2.2.2.2.2.2.2.1⟩,fun _=>rfl,.inl rfl⟩
def tx:Ty τ:=⟨eg,true,[.int .i64,.int .i64,.int .i64,.int .i64,.int .i64,.int .i64,.int .i64,.int .i64,.str,.sl 96],fun x=>(x.ae,x.flags,x.af,x.aE,x.aw,x.seq,x.aj,x.bi,x.bytes,x.subs,()),fun y=>⟨y.1,y.2.1,y.2.2.1,y.2.2.2.1,y.2.2.2.2.1,y.2.2.2.2.2.1,y.2.2.2.2.2.2.1,y.2.2.2.2.2.2.2.1,y.2.2.2.2.2.2.2.2.1,y.2.2.2.2.2.2.2.2.2.1⟩,fun _=>rfl,.inl rfl⟩
def uM:Ty τ:=⟨eA,true,[.str,.str,.str,.str,.str,.str,.str],fun x=>(x.aM,x.aO,x.aN,x.aP,x.aY,x.aZ,x.bj,()),fun y=>⟨y.1,y.2.1,y.2.2.1,y.2.2.2.1,y.2.2.2.2.1,y.2.2.2.2.2.1,y.2.2.2.2.2.2.1⟩,fun _=>rfl,.inl rfl⟩
def VD:Ty τ:=⟨ix,true,[.str,.int .i64,.int .i64,.bool],fun x=>(x.c_S,x.aX,x.bh,x.aV,()),fun y=>⟨y.1,y.2.1,y.2.2.1,y.2.2.2.1⟩,fun _=>rfl,.inl rfl⟩
def xL:Ty τ:=⟨eX,true,[.str,.int .i64,.int .i64,.bool],fun x=>(x.c_S,x.aX,x.bh,x.aV,()),fun y=>⟨y.1,y.2.1,y.2.2.1,y.2.2.2.1⟩,fun _=>rfl,.inl rfl⟩
def et9:Ty τ:=⟨ly,true,[.bs 5],fun x=>(x.b,()),fun y=>⟨y.1⟩,fun _=>rfl,.inl rfl⟩
def enc:(e:Nat)->τ e->List (CV τ)
 | 3,x=>cd.enc false x
 | 9,x=>cz.enc false x
 | 36,x=>qG.enc false x
 | 39,x=>pJ.enc false x
 | 77,x=>fo.enc false x
 | 94,x=>p9.enc false x
 | 96,x=>sw.enc false x
 | 149,x=>nF.enc false x
 | _,_=>[]
def dec (e:Nat) (cs:List (CV τ)):Option (τ e):=
 match Nat.decEq e 3 with
 | .isTrue h=>Eq.rec (motive:=fun e _=>Option (τ e)) (show Option (τ 3) from cd.dec false cs) h.symm
 | .isFalse _=>
 match Nat.decEq e 9 with
 | .isTrue h=>Eq.rec (motive:=fun e _=>Option (τ e)) (show Option (τ 9) from cz.dec false cs) h.symm
 | .isFalse _=>
 match Nat.decEq e 36 with
 | .isTrue h=>Eq.rec (motive:=fun e _=>Option (τ e)) (show Option (τ 36) from qG.dec false cs) h.symm
 | .isFalse _=>
 match Nat.decEq e 39 with
 | .isTrue h=>Eq.rec (motive:=fun e _=>Option (τ e)) (show Option (τ 39) from pJ.dec false cs) h.symm
 | .isFalse _=>
 match Nat.decEq e 77 with
 | .isTrue h=>Eq.rec (motive:=fun e _=>Option (τ e)) (show Option (τ 77) from fo.dec false cs) h.symm
 | .isFalse _=>
 match Nat.decEq e 94 with
 | .isTrue h=>Eq.rec (motive:=fun e _=>Option (τ e)) (show Option (τ 94) from p9.dec false cs) h.symm
 | .isFalse _=>
 match Nat.decEq e 96 with
 | .isTrue h=>Eq.rec (motive:=fun e _=>Option (τ e)) (show Option (τ 96) from sw.dec false cs) h.symm
 | .isFalse _=>
 match Nat.decEq e 149 with
 | .isTrue h=>Eq.rec (motive:=fun e _=>Option (τ e)) (show Option (τ 149) from nF.dec false cs) h.symm
 | .isFalse _=>
 none
def U:cr:={ τ:=τ,enc:=enc,dec:=dec,news:=[(6,[.int .u32 0,.int .i32 0,.int .u32 0,.any,.int .u32 0,.int .i64 0,.int .i64 0,.int .i64 0])] }
theorem fZ4 (e:Nat) (cs:List (CV U.τ)) (x:U.τ e) (h:U.dec e cs=some x):pi Tryz.prog U cs (U.enc e x):=by
 have h0:dec e cs=some x:=h;unfold dec at h0;cases hd3:Nat.decEq e 3 with
 | isTrue k=>subst k; simp only [hd3] at h0; exact Ty.univ (U:=U) cd h0
 | isFalse k=>
 simp only [hd3] at h0;cases hd9:Nat.decEq e 9 with
 | isTrue k=>subst k; simp only [hd9] at h0; exact Ty.univ (U:=U) cz h0
 | isFalse k=>
 simp only [hd9] at h0;cases hd36:Nat.decEq e 36 with
 | isTrue k=>subst k; simp only [hd36] at h0; exact Ty.univ (U:=U) qG h0
 | isFalse k=>
 simp only [hd36] at h0;cases hd39:Nat.decEq e 39 with
 | isTrue k=>subst k; simp only [hd39] at h0; exact Ty.univ (U:=U) pJ h0
 | isFalse k=>
 simp only [hd39] at h0;cases hd77:Nat.decEq e 77 with
 | isTrue k=>subst k; simp only [hd77] at h0; exact Ty.univ (U:=U) fo h0
 | isFalse k=>
 simp only [hd77] at h0;cases hd94:Nat.decEq e 94 with
 | isTrue k=>subst k; simp only [hd94] at h0; exact Ty.univ (U:=U) p9 h0
 | isFalse k=>
 simp only [hd94] at h0;cases hd96:Nat.decEq e 96 with
 | isTrue k=>subst k; simp only [hd96] at h0; exact Ty.univ (U:=U) sw h0
 | isFalse k=>
 simp only [hd96] at h0;cases hd149:Nat.decEq e 149 with
 | isTrue k=>subst k; simp only [hd149] at h0; exact Ty.univ (U:=U) nF h0
 | isFalse k=>
 simp only [hd149] at h0;cases h0
def rV:Nat:=Tryz.prog.bytesOf 9
def kv:Nat:=Tryz.prog.bytesOf 36
def lB:Nat:=Tryz.prog.bytesOf 77
def wQ:Nat:=Tryz.prog.bytesOf 94
def oi:Nat:=Tryz.prog.bytesOf 96
def qw:Nat:=Tryz.prog.bytesOf 149
theorem fT0:yH Tryz.prog U 6 [] ⟨.box [.int .u32 0,.int .i32 0,.int .u32 0,.any,.int .u32 0,.int .i64 0,.int .i64 0,.int .i64 0],[]⟩:=by
 refine ⟨rfl,ja Tryz.func6 (by kernel_rfl) (by kernel_rfl),_,rfl,fun w=>?_⟩
 go_enter Tryz.func6,Tryz.ntmps6
 go_wp2
 go_ret
 refine ⟨_,_,rfl,rfl,rfl,fun i c hi=>?_⟩
 match i,hi with
 | 0,hi=>injection hi with hi; subst hi; exact ⟨_,rfl,fun I=>.int _ _ (by unfold IntKind.has; decide)⟩
 | 1,hi=>injection hi with hi; subst hi; exact ⟨_,rfl,fun I=>.int _ _ (by unfold IntKind.has; decide)⟩
 | 2,hi=>injection hi with hi; subst hi; exact ⟨_,rfl,fun I=>.int _ _ (by unfold IntKind.has; decide)⟩
 | 3,hi=>injection hi with hi; subst hi; exact ⟨_,rfl,fun I=>.any _ trivial⟩
 | 4,hi=>injection hi with hi; subst hi; exact ⟨_,rfl,fun I=>.int _ _ (by unfold IntKind.has; decide)⟩
 | 5,hi=>injection hi with hi; subst hi; exact ⟨_,rfl,fun I=>.int _ _ (by unfold IntKind.has; decide)⟩
 | 6,hi=>injection hi with hi; subst hi; exact ⟨_,rfl,fun I=>.int _ _ (by unfold IntKind.has; decide)⟩
 | 7,hi=>injection hi with hi; subst hi; exact ⟨_,rfl,fun I=>.int _ _ (by unfold IntKind.has; decide)⟩
 | i+8,hi=>cases hi
theorem fT1 (f:Nat) (cs:List (CV U.τ)) (h:(f,cs)∈U.news):yH Tryz.prog U f [] ⟨.box cs,[]⟩:=by
 have h:(f,cs)∈[(6,[.int .u32 0,.int .i32 0,.int .u32 0,.any,.int .u32 0,.int .i64 0,.int .i64 0,.int .i64 0])]:=h;rcases List.mem_cons.1 h with h | h
 ·injection h with h1 h2; subst h1; subst h2; exact fT0
 cases h
theorem jB:iZ Tryz.prog U:=⟨fZ4,fT1⟩
theorem pv:Tryz.prog.follows .mixedOrders=true:=by kernel_rfl
def fuel:Nat:=1125899906842624
abbrev bI (e:bG U):Prop:=gg Tryz.prog U e
theorem bB:∀ e∈([]:List (bG U)),bI e:=fun _ h=>by cases h
theorem bA {e:bG U} {l:List (bG U)} (h:bI e) (hl:∀ e∈l,bI e):∀ x∈e::l,bI x:=List.forall_mem_cons.2 ⟨h,hl⟩
theorem bC (es:List (bG U)) (hes:∀ e∈es,bI e) (adv:bJ) (n f:Nat) (fn:Func) (hf:Tryz.prog.funcs[f]?=some fn) (h1:(fn.name== "runtime.NumGoroutine")=false) (h2:fn.body.isNone=false) (sg:bT τ):bI ⟨f,sg,bK (U:=U) Tryz.prog es adv n fn sg⟩:=fI1 jB pv hes hf (ja hf h1 h2) sg
def lp (Φ:gU U) (ad:bJ) (fn:Func) (np:Nat) (sg:bT τ) (n:Nat) (p:List QS) (st:St U):Option sg.B:=pD Tryz.prog Φ ad n (match fn.body with | some c=>c | none=>.skip) p (SS (U:=U) Tryz.prog fn np sg) (fun _ _=>none) (SS (U:=U) Tryz.prog fn np sg) st
end Go.VI
