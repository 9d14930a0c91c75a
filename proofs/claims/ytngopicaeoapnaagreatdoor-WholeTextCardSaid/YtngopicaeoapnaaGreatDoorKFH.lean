import Derived.Test.YtngopicaeoapnaaGreatDoorKFTy
import Derived.Test.YtngopicaeoapnaaGreatDoorKXM
set_option linter.unusedVariables false
set_option linter.unusedSimpArgs false
set_option maxRecDepth 1000000
set_option maxHeartbeats 4000000
namespace Go.VI
open Go Go.Proofs
def bi4:Sig τ:=⟨[(false,ab2)],[ab5]⟩
def bO4:Adv:=⟨81,[[1],[1,50],[2],[1,3],[1,3,55],[1,3],[1,3,65],[2],[1,4],[1,4,70],[1,4],[1,4,80],[2],[2]],[],[]⟩
noncomputable def bO5:List (Ent U):=[]
noncomputable def ce6 (n:Nat):aa0 × Unit→Option ((Bool × Unit) × Unit):=aa6 (U:=U) Tryz.prog bO5 bO4 n Tryz.f9 bi4
noncomputable def ce7:aa0 × Unit→Option ((Bool × Unit) × Unit):=ce6 fuel
noncomputable def cW1:Ent U:=⟨9,bi4,ce7⟩
noncomputable def cG1:=lp (tab bO5) bO4 Tryz.f9 0 bi4
noncomputable def ba2 (n m:Nat) (a0:aa0) (x3:Int):Option ((Bool × Unit) × Unit):=
 cG1 n [.r,.r,.l,.r,.l,.at m] [(1,.box [.int .i64 a0.kind,.int .i64 a0.cmd,.int .i64 a0.ver,.str a0.auth,.int .i64 a0.family,.int .i64 a0.ae,.str a0.prefix_,.int .i64 a0.plen,.int .i64 a0.tag,.str a0.next,.int .i64 a0.metric,.str a0.id,.int .i64 a0.seq,.int .i64 a0.seq2,.int .i64 a0.interval,.int .i64 a0.flags,.int .i64 a0.hops,.int .i64 a0.nonce,.int .i64 a0.cost,.str a0.addr,.str a0.orig,.sl 73 a0.list .ro,.int .i64 a0.type_,.str a0.data,.sl 75 a0.subs .ro]),(3,.one (.int .i64 x3))]
noncomputable def ba3 (n m:Nat) (a0:aa0) (x4:Int):Option ((Bool × Unit) × Unit):=
 cG1 n [.r,.r,.r,.l,.r,.l,.at m] [(1,.box [.int .i64 a0.kind,.int .i64 a0.cmd,.int .i64 a0.ver,.str a0.auth,.int .i64 a0.family,.int .i64 a0.ae,.str a0.prefix_,.int .i64 a0.plen,.int .i64 a0.tag,.str a0.next,.int .i64 a0.metric,.str a0.id,.int .i64 a0.seq,.int .i64 a0.seq2,.int .i64 a0.interval,.int .i64 a0.flags,.int .i64 a0.hops,.int .i64 a0.nonce,.int .i64 a0.cost,.str a0.addr,.str a0.orig,.sl 73 a0.list .ro,.int .i64 a0.type_,.str a0.data,.sl 75 a0.subs .ro]),(4,.one (.int .i64 x4))]
def aP5:Sig τ:=⟨[(false,ae0),(false,ab4)],[ab5]⟩
def bi5:Adv:=⟨22,[[0,1],[0,9],[4],[0,5],[0,5,13],[0,5],[0,5,21],[4],[4]],[],[]⟩
noncomputable def bi6:List (Ent U):=[cW1]
noncomputable def bs5 (n:Nat):(List aa0) × Int × Unit→Option ((Bool × Unit) × Unit):=aa6 (U:=U) Tryz.prog bi6 bi5 n Tryz.f4 aP5
noncomputable def bs6:(List aa0) × Int × Unit→Option ((Bool × Unit) × Unit):=bs5 fuel
noncomputable def ck8:Ent U:=⟨4,aP5,bs6⟩
noncomputable def dj5:=lp (tab bi6) bi5 Tryz.f4 0 aP5
noncomputable def aI6 (n m:Nat) (a0:List aa0) (x5:Int):Option ((Bool × Unit) × Unit):=
 dj5 n [.r,.r,.l,.r,.l,.at m] [(0,.one (.sl 33 a0 .ro)),(5,.one (.int .i64 x5))]
def bO6:Sig τ:=⟨[(false,ab2)],[dY6]⟩
def cG2:Adv:=⟨50,[[1,2],[2]],[],[]⟩
noncomputable def cG3:List (Ent U):=[]
noncomputable def ce8:aa0 × Unit→Option ((ce5 × Unit) × Unit):=aa6 (U:=U) Tryz.prog cG3 cG2 0 Tryz.f36 bO6
noncomputable def cW2:Ent U:=⟨36,bO6,ce8⟩
def ce9:Sig τ:=⟨[(false,ab2)],[ab5]⟩
def cW3:Adv:=⟨116,[[1],[1,3],[1,3,4,5],[1,3,4,5,13],[2],[1,3,4,5,13,14],[1,3,4,5,13,14],[1,3,4],[1,3,4,25],[1,3,4],[1,3,4,5],[1,3,4,5,13,33],[1,3,4,5],[1,3,4,5,13,42],[1,3,4,5],[1,3,4,5,13,51],[1,3,4,5],[1,3,4,5,13,54],[1,3,4,5,13,56],[1,3,4,5],[1,3,4,5,13,60],[1,3,4,5],[1,3,4,5,13,63],[1,3,4,5],[1,3,4,5,13,68],[1,3,4,5],[1,3,4,5,13,74],[1,3,4,5],[1,3,4,5,13,84],[1,3,4,5],[1,3,4,5,13,89],[1,3,4,5],[1,3,4,97],[1,3,4],[1,3,4,5],[2]],[],[]⟩
noncomputable def cW4:List (Ent U):=[cW2]
noncomputable def al7:aa0 × Unit→Option ((Bool × Unit) × Unit):=aa6 (U:=U) Tryz.prog cW4 cW3 0 Tryz.f13 ce9
noncomputable def ar6:Ent U:=⟨13,ce9,al7⟩
def cf0:Sig τ:=⟨[(false,aa3)],[ab5]⟩
def cW5:Adv:=⟨6,[[0],[2]],[],[]⟩
noncomputable def cW6:List (Ent U):=[]
noncomputable def bK6:(List UInt8) × Unit→Option ((Bool × Unit) × Unit):=aa6 (U:=U) Tryz.prog cW6 cW5 0 Tryz.f52 cf0
noncomputable def dj6:Ent U:=⟨52,cf0,bK6⟩
def ba4:Sig τ:=⟨[(false,aa3)],[ab5]⟩
def bD3:Adv:=⟨15,[[0],[6,7,8],[6,7,8,9],[4,6,7,8],[6,7,8,13],[2],[6,7,8],[2]],[],[]⟩
noncomputable def bD4:List (Ent U):=[]
noncomputable def bO7 (n:Nat):(List UInt8) × Unit→Option ((Bool × Unit) × Unit):=aa6 (U:=U) Tryz.prog bD4 bD3 n Tryz.f53 ba4
noncomputable def af2:(List UInt8) × Unit→Option ((Bool × Unit) × Unit):=bO7 fuel
noncomputable def aR6:Ent U:=⟨53,ba4,af2⟩
noncomputable def dF5:=lp (tab bD4) bD3 Tryz.f53 0 ba4
noncomputable def aV0 (n m:Nat) (a0:List UInt8) (x8:Int):Option ((Bool × Unit) × Unit):=
 dF5 n [.r,.l,.r,.l,.at m] [(6,.one (.bs 5 a0 .app)),(7,.one (.int .i64 (a0.length:Int))),(8,.one (.int .i64 x8))]
def bD5:Sig τ:=⟨[(false,ab4),(false,ab4)],[ab5]⟩
def cx0:Adv:=⟨23,[[0,1],[4]],[],[]⟩
noncomputable def cx1:List (Ent U):=[]
noncomputable def ab1:Int × Int × Unit→Option ((Bool × Unit) × Unit):=aa6 (U:=U) Tryz.prog cx1 cx0 0 Tryz.f54 bD5
noncomputable def aj5:Ent U:=⟨54,bD5,ab1⟩
def bO8:Sig τ:=⟨[(false,aa3),(false,ab4)],[aa3]⟩
def cG4:Adv:=⟨40,[[0,1],[0,1,11],[4],[0,1,5],[0,1,5,17],[4],[0,1,5,6],[0,1,5,6],[5],[4]],[],[]⟩
noncomputable def cG5:List (Ent U):=[]
noncomputable def aY2:(List UInt8) × Int × Unit→Option (((List UInt8) × Unit) × Unit):=aa6 (U:=U) Tryz.prog cG5 cG4 0 Tryz.f136 bO8
noncomputable def aY3:Ent U:=⟨136,bO8,aY2⟩
def bD6:Sig τ:=⟨[(false,aa3),(false,ab4)],[ab5]⟩
def cx2:Adv:=⟨10,[[0,1],[4]],[],[]⟩
noncomputable def cx3:List (Ent U):=[aY3]
noncomputable def aF8:(List UInt8) × Int × Unit→Option ((Bool × Unit) × Unit):=aa6 (U:=U) Tryz.prog cx3 cx2 0 Tryz.f93 bD6
noncomputable def bO9:Ent U:=⟨93,bD6,aF8⟩
def bi7:Sig τ:=⟨[(false,aa3),(false,ab4)],[ab5]⟩
def bZ4:Adv:=⟨29,[[0,1],[0,1,5],[4]],[],[]⟩
noncomputable def bZ5:List (Ent U):=[bO9]
noncomputable def af3:(List UInt8) × Int × Unit→Option ((Bool × Unit) × Unit):=aa6 (U:=U) Tryz.prog bZ5 bZ4 0 Tryz.f55 bi7
noncomputable def aF9:Ent U:=⟨55,bi7,af3⟩
def bP0:Sig τ:=⟨[(false,ab2)],[ab5]⟩
def cG6:Adv:=⟨129,[[1],[1,3],[2],[1,24],[2],[1,43],[2],[1,58],[2],[1,88],[2],[1,102],[2],[2]],[],[]⟩
noncomputable def cG7:List (Ent U):=[ar6,dj6,aR6,aj5,aF9]
noncomputable def bx4:aa0 × Unit→Option ((Bool × Unit) × Unit):=aa6 (U:=U) Tryz.prog cG7 cG6 0 Tryz.f24 bP0
noncomputable def cf1:Ent U:=⟨24,bP0,bx4⟩
def cf2:Sig τ:=⟨[(false,aa3)],[aa3,ab5]⟩
def cW7:Adv:=⟨9,[[0],[0,6],[2,3],[2,3]],[],[]⟩
noncomputable def cW8:List (Ent U):=[]
noncomputable def cs4:(List UInt8) × Unit→Option (((List UInt8) × Bool × Unit) × Unit):=aa6 (U:=U) Tryz.prog cW8 cW7 0 Tryz.f60 cf2
noncomputable def dj7:Ent U:=⟨60,cf2,cs4⟩
def bi8:Sig τ:=⟨[(false,ab2),(false,ab2)],[ab5]⟩
def bZ6:Adv:=⟨34,[[2,3],[4]],[],[]⟩
noncomputable def bZ7:List (Ent U):=[]
noncomputable def aV1:aa0 × aa0 × Unit→Option ((Bool × Unit) × Unit):=aa6 (U:=U) Tryz.prog bZ7 bZ6 0 Tryz.f61 bi8
noncomputable def ck9:Ent U:=⟨61,bi8,aV1⟩
def bs7:Sig τ:=⟨[(false,ab4)],[aa3]⟩
def cl0:Adv:=⟨7,[[0],[2]],[],[]⟩
noncomputable def cl1:List (Ent U):=[]
noncomputable def an4:Int × Unit→Option (((List UInt8) × Unit) × Unit):=aa6 (U:=U) Tryz.prog cl1 cl0 0 Tryz.f63 bs7
noncomputable def au4:Ent U:=⟨63,bs7,an4⟩
def cs5:Sig τ:=⟨[(false,ab4)],[aa3,ab5]⟩
def dj8:Adv:=⟨28,[[0],[0,10],[2,3],[4],[2,3]],[],[]⟩
noncomputable def dj9:List (Ent U):=[]
noncomputable def bZ8:Int × Unit→Option (((List UInt8) × Bool × Unit) × Unit):=aa6 (U:=U) Tryz.prog dj9 dj8 0 Tryz.f98 cs5
noncomputable def cG8:Ent U:=⟨98,cs5,bZ8⟩
def bi9:Sig τ:=⟨[(false,ab4),(false,ab4)],[aa3,ab5]⟩
def bP1:Adv:=⟨29,[[0,1],[0,1,11],[4,5],[0,1,6],[0,6,7],[0,6,7,17],[0,6,7],[0,6,7],[0,6,7],[4,5]],[],[]⟩
noncomputable def bP2:List (Ent U):=[aj5]
noncomputable def bx5 (n:Nat):Int × Int × Unit→Option (((List UInt8) × Bool × Unit) × Unit):=aa6 (U:=U) Tryz.prog bP2 bP1 n Tryz.f109 bi9
noncomputable def ak1:Int × Int × Unit→Option (((List UInt8) × Bool × Unit) × Unit):=bx5 fuel
noncomputable def aM6:Ent U:=⟨109,bi9,ak1⟩
noncomputable def dP1:=lp (tab bP2) bP1 Tryz.f109 0 bi9
noncomputable def aL8 (n m:Nat) (x0:Int) (x7:Int) (x13:List UInt8):Option (((List UInt8) × Bool × Unit) × Unit):=
 dP1 n [.r,.r,.r,.l,.r,.l,.at m] [(0,.one (.int .i64 x0)),(6,.one (.sref 13)),(7,.one (.int .i64 x7)),(13,.bblk 5 x13 true)]
def bP3:Sig τ:=⟨[(false,aw1)],[aa3,ab5]⟩
def cG9:Adv:=⟨76,[[1],[1,43],[2,3],[1,4],[1,4,6],[1,4,6,8],[2,3]],[],[]⟩
noncomputable def cH0:List (Ent U):=[aj5,aM6]
noncomputable def aM7:ae7 × Unit→Option (((List UInt8) × Bool × Unit) × Unit):=aa6 (U:=U) Tryz.prog cH0 cG9 0 Tryz.f99 bP3
noncomputable def cW9:Ent U:=⟨99,bP3,aM7⟩
def cf3:Sig τ:=⟨[(false,ab2)],[aa3]⟩
def cX0:Adv:=⟨39,[[1],[1,3],[1,3,25],[3],[4],[2]],[],[]⟩
noncomputable def cX1:List (Ent U):=[au4,cG8,cW9]
noncomputable def bj0:aa0 × Unit→Option (((List UInt8) × Unit) × Unit):=aa6 (U:=U) Tryz.prog cX1 cX0 0 Tryz.f62 cf3
noncomputable def dk0:Ent U:=⟨62,cf3,bj0⟩
def ba5:Sig τ:=⟨[(false,ae0)],[aa3,ab4,ab9]⟩
def bD7:Adv:=⟨84,[[0],[0,13,14,15],[0,13,14,15,16],[0,5,6,13,14,15],[0,5,13,14,15,22],[2,3,4],[0,13,14,15],[0,27],[2,3,4],[0,7],[0,7,8],[0,7,8,9,10],[0,7,8,9,47],[0,7,8],[0,7,8],[0,7,8,53,54,55],[0,7,8,53,54,55,56],[0,7,8,11,12,53,54,55],[0,7,8,11,12,53,54,55,60],[2,3,4],[0,7,8,11,12,53,54,55,65],[2,3,4],[0,7,8,53,54,55],[0,7,8,53,54,55],[2,3,4]],[48,77],[]⟩
noncomputable def bD8:List (Ent U):=[cf1,dj7,ck9,dk0]
noncomputable def bP4 (n:Nat):(List aa0) × Unit→Option (((List UInt8) × Int × Int × Unit) × Unit):=aa6 (U:=U) Tryz.prog bD8 bD7 n Tryz.f26 ba5
noncomputable def bP5:(List aa0) × Unit→Option (((List UInt8) × Int × Int × Unit) × Unit):=bP4 fuel
noncomputable def cH1:Ent U:=⟨26,ba5,bP5⟩
noncomputable def cx4:=lp (tab bD8) bD7 Tryz.f26 0 ba5
noncomputable def aV2 (n m:Nat) (a0:List aa0) (x15:Int):Option (((List UInt8) × Int × Int × Unit) × Unit):=
 cx4 n [.r,.l,.r,.l,.at m] [(0,.one (.sl 33 a0 .ro)),(13,.one (.sl 33 a0 .ro)),(14,.one (.int .i64 (a0.length:Int))),(15,.one (.int .i64 x15))]
noncomputable def ax0 (n m:Nat) (a0:List aa0) (x7:Int) (x8:List UInt8) (x55:Int):Option (((List UInt8) × Int × Int × Unit) × Unit):=
 cx4 n [.r,.r,.r,.r,.r,.r,.l,.r,.l,.at m] [(0,.one (.sl 33 a0 .ro)),(7,.one (.int .i64 x7)),(8,.one (.bs 5 x8 .app)),(53,.one (.sl 33 a0 .ro)),(54,.one (.int .i64 (a0.length:Int))),(55,.one (.int .i64 x55))]
def am7:Sig τ:=⟨[(false,aa3),(false,aa3)],[ab5]⟩
def aw4:Adv:=⟨18,[[0,1],[4]],[],[]⟩
noncomputable def aw5:List (Ent U):=[]
noncomputable def an8:(List UInt8) × (List UInt8) × Unit→Option ((Bool × Unit) × Unit):=aa6 (U:=U) Tryz.prog aw5 aw4 0 Tryz.f89 am7
noncomputable def an9:Ent U:=⟨89,am7,an8⟩
def aI7:Sig τ:=⟨[(false,aa3),(false,aa3)],[ab5]⟩
def bj1:Adv:=⟨8,[[0,1],[4]],[],[]⟩
noncomputable def bj2:List (Ent U):=[an9]
noncomputable def ay6:(List UInt8) × (List UInt8) × Unit→Option ((Bool × Unit) × Unit):=aa6 (U:=U) Tryz.prog bj2 bj1 0 Tryz.f100 aI7
noncomputable def bp9:Ent U:=⟨100,aI7,ay6⟩
def bP6:Sig τ:=⟨[(false,aa3)],[ab5]⟩
def cH2:Adv:=⟨10,[[0],[2]],[],[]⟩
noncomputable def cH3:List (Ent U):=[bp9]
noncomputable def ar7:(List UInt8) × Unit→Option ((Bool × Unit) × Unit):=aa6 (U:=U) Tryz.prog cH3 cH2 0 Tryz.f64 bP6
noncomputable def aM8:Ent U:=⟨64,bP6,ar7⟩
def bs8:Sig τ:=⟨[(false,ab2)],[ab5]⟩
def cl2:Adv:=⟨60,[[1],[1,3],[2],[1,28],[2],[2]],[],[]⟩
noncomputable def cl3:List (Ent U):=[ar6,aj5,aF9,au4,aM8]
noncomputable def ba6:aa0 × Unit→Option ((Bool × Unit) × Unit):=aa6 (U:=U) Tryz.prog cl3 cl2 0 Tryz.f27 bs8
noncomputable def cx5:Ent U:=⟨27,bs8,ba6⟩
def cs6:Sig τ:=⟨[(false,aw1)],[aa3,ab5]⟩
def dk1:Adv:=⟨52,[[1],[1,33],[2,3],[2,3]],[],[]⟩
noncomputable def dk2:List (Ent U):=[aj5]
noncomputable def bZ9:ae7 × Unit→Option (((List UInt8) × Bool × Unit) × Unit):=aa6 (U:=U) Tryz.prog dk2 dk1 0 Tryz.f140 cs6
noncomputable def dB0:Ent U:=⟨140,cs6,bZ9⟩
def aO1:Sig τ:=⟨[(true,ck4),(false,aw1)],[]⟩
def bq0:Adv:=⟨20,[[0,3],[0,4],[]],[15],[]⟩
noncomputable def bq1:List (Ent U):=[dB0]
noncomputable def ao4:ak0 × ae7 × Unit→Option ((Unit) × (ak0 × Unit)):=aa6 (U:=U) Tryz.prog bq1 bq0 0 Tryz.f102 aO1
noncomputable def bz9:Ent U:=⟨102,aO1,ao4⟩
def aG0:Sig τ:=⟨[(true,ck4),(false,ab2)],[]⟩
def bf4:Adv:=⟨32,[[0,3],[0,3,10],[0,3],[0,3],[]],[],[]⟩
noncomputable def bf5:List (Ent U):=[bz9]
noncomputable def av4:ak0 × aa0 × Unit→Option ((Unit) × (ak0 × Unit)):=aa6 (U:=U) Tryz.prog bf5 bf4 0 Tryz.f68 aG0
noncomputable def bj3:Ent U:=⟨68,aG0,av4⟩
def aP6:Sig τ:=⟨[(false,ae0)],[aa3,ab4,ab9]⟩
def bj4:Adv:=⟨65,[[0],[0,10,11,12],[0,10,11,12,13],[0,5,6,10,11,12],[0,5,10,11,12,19],[2,3,4],[0,10,11,12],[0,24],[2,3,4],[0,7],[0,7,34,35,36],[0,7,34,35,36,37],[0,7,8,9,34,35,36],[0,7,8,9,34,35,36,47],[2,3,4],[0,7,8,34,35,36],[0,7,8,34,35,36,57],[2,3,4],[0,7,34,35,36],[2,3,4]],[],[]⟩
noncomputable def bj5:List (Ent U):=[cx5,au4,bj3]
noncomputable def bs9 (n:Nat):(List aa0) × Unit→Option (((List UInt8) × Int × Int × Unit) × Unit):=aa6 (U:=U) Tryz.prog bj5 bj4 n Tryz.f29 aP6
noncomputable def bt0:(List aa0) × Unit→Option (((List UInt8) × Int × Int × Unit) × Unit):=bs9 fuel
noncomputable def cl4:Ent U:=⟨29,aP6,bt0⟩
noncomputable def ca0:=lp (tab bj5) bj4 Tryz.f29 0 aP6
noncomputable def aI8 (n m:Nat) (a0:List aa0) (x12:Int):Option (((List UInt8) × Int × Int × Unit) × Unit):=
 ca0 n [.r,.l,.r,.l,.at m] [(0,.one (.sl 33 a0 .ro)),(10,.one (.sl 33 a0 .ro)),(11,.one (.int .i64 (a0.length:Int))),(12,.one (.int .i64 x12))]
noncomputable def aI9 (n m:Nat) (a0:List aa0) (x33_0:List UInt8) (x33_1:List UInt8) (x36:Int):Option (((List UInt8) × Int × Int × Unit) × Unit):=
 ca0 n [.r,.r,.r,.r,.l,.r,.l,.at m] [(0,.one (.sl 33 a0 .ro)),(7,.one (.ref 33 0)),(33,.box [.bs 5 x33_0 .app,.str x33_1]),(34,.one (.sl 33 a0 .ro)),(35,.one (.int .i64 (a0.length:Int))),(36,.one (.int .i64 x36))]
def bx6:Sig τ:=⟨[(false,ai9),(false,ab4),(false,ab4)],[ab5]⟩
def cf4:Adv:=⟨32,[[0,1,2],[1,2,9,10,11],[1,2,9,10,11,12],[1,2,8,9,10,11],[1,2,9,10,11,30],[6],[1,2,9,10,11],[6]],[],[]⟩
noncomputable def cf5:List (Ent U):=[]
noncomputable def cs7 (n:Nat):(List aa8) × Int × Int × Unit→Option ((Bool × Unit) × Unit):=aa6 (U:=U) Tryz.prog cf5 cf4 n Tryz.f141 bx6
noncomputable def bK7:(List aa8) × Int × Int × Unit→Option ((Bool × Unit) × Unit):=cs7 fuel
noncomputable def cs8:Ent U:=⟨141,bx6,bK7⟩
noncomputable def dY8:=lp (tab cf5) cf4 Tryz.f141 0 bx6
noncomputable def bj6 (n m:Nat) (a1:Int) (a2:Int) (a0:List aa8) (x11:Int):Option ((Bool × Unit) × Unit):=
 dY8 n [.r,.l,.r,.l,.at m] [(1,.one (.int .i64 a1)),(2,.one (.int .i64 a2)),(9,.one (.sl 75 a0 .ro)),(10,.one (.int .i64 (a0.length:Int))),(11,.one (.int .i64 x11))]
def bP7:Sig τ:=⟨[(false,ai9)],[ab5]⟩
def cH4:Adv:=⟨5,[[0],[2]],[],[]⟩
noncomputable def cH5:List (Ent U):=[cs8]
noncomputable def aC8:(List aa8) × Unit→Option ((Bool × Unit) × Unit):=aa6 (U:=U) Tryz.prog cH5 cH4 0 Tryz.f103 bP7
noncomputable def aY4:Ent U:=⟨103,bP7,aC8⟩
def ba7:Sig τ:=⟨[(false,ab2)],[ab5]⟩
def bD9:Adv:=⟨59,[[1],[1,34],[2],[1,41,42,43],[1,41,42,43,44],[1,4,41,42,43],[1,41,42,43,49],[2],[1,41,42,43],[2]],[],[]⟩
noncomputable def bE0:List (Ent U):=[ar6,aj5,aY4]
noncomputable def bP8 (n:Nat):aa0 × Unit→Option ((Bool × Unit) × Unit):=aa6 (U:=U) Tryz.prog bE0 bD9 n Tryz.f69 ba7
noncomputable def bj7:aa0 × Unit→Option ((Bool × Unit) × Unit):=bP8 fuel
noncomputable def bP9:Ent U:=⟨69,ba7,bj7⟩
noncomputable def dF6:=lp (tab bE0) bD9 Tryz.f69 0 ba7
noncomputable def aV3 (n m:Nat) (a0:aa0) (x41:List Int) (x42:Int) (x43:Int):Option ((Bool × Unit) × Unit):=
 dF6 n [.r,.r,.l,.r,.l,.at m] [(1,.box [.int .i64 a0.kind,.int .i64 a0.cmd,.int .i64 a0.ver,.str a0.auth,.int .i64 a0.family,.int .i64 a0.ae,.str a0.prefix_,.int .i64 a0.plen,.int .i64 a0.tag,.str a0.next,.int .i64 a0.metric,.str a0.id,.int .i64 a0.seq,.int .i64 a0.seq2,.int .i64 a0.interval,.int .i64 a0.flags,.int .i64 a0.hops,.int .i64 a0.nonce,.int .i64 a0.cost,.str a0.addr,.str a0.orig,.sl 73 a0.list .ro,.int .i64 a0.type_,.str a0.data,.sl 75 a0.subs .ro]),(41,.one (.sl 3 x41 .app)),(42,.one (.int .i64 x42)),(43,.one (.int .i64 x43))]
def bE1:Sig τ:=⟨[(false,ab2)],[ab5]⟩
def cx6:Adv:=⟨63,[[1],[1,11],[2],[1,13],[1,13,14],[2],[1,16],[2],[2]],[],[]⟩
noncomputable def cx7:List (Ent U):=[ar6,aY4,aj5]
noncomputable def aR7:aa0 × Unit→Option ((Bool × Unit) × Unit):=aa6 (U:=U) Tryz.prog cx7 cx6 0 Tryz.f70 bE1
noncomputable def bQ0:Ent U:=⟨70,bE1,aR7⟩
def ba8:Sig τ:=⟨[(false,ab2)],[ab5]⟩
def bE2:Adv:=⟨56,[[1],[1,34],[2],[1,36,37,38],[1,36,37,38,39],[1,4,36,37,38],[1,36,37,38,51],[2],[1,36,37,38],[2]],[],[]⟩
noncomputable def bE3:List (Ent U):=[ar6,aj5,aY4]
noncomputable def bQ1 (n:Nat):aa0 × Unit→Option ((Bool × Unit) × Unit):=aa6 (U:=U) Tryz.prog bE3 bE2 n Tryz.f71 ba8
noncomputable def bj8:aa0 × Unit→Option ((Bool × Unit) × Unit):=bQ1 fuel
noncomputable def bQ2:Ent U:=⟨71,ba8,bj8⟩
noncomputable def dF7:=lp (tab bE3) bE2 Tryz.f71 0 ba8
noncomputable def ax1 (n m:Nat) (a0:aa0) (x38:Int):Option ((Bool × Unit) × Unit):=
 dF7 n [.r,.r,.l,.r,.l,.at m] [(1,.box [.int .i64 a0.kind,.int .i64 a0.cmd,.int .i64 a0.ver,.str a0.auth,.int .i64 a0.family,.int .i64 a0.ae,.str a0.prefix_,.int .i64 a0.plen,.int .i64 a0.tag,.str a0.next,.int .i64 a0.metric,.str a0.id,.int .i64 a0.seq,.int .i64 a0.seq2,.int .i64 a0.interval,.int .i64 a0.flags,.int .i64 a0.hops,.int .i64 a0.nonce,.int .i64 a0.cost,.str a0.addr,.str a0.orig,.sl 73 a0.list .ro,.int .i64 a0.type_,.str a0.data,.sl 75 a0.subs .ro]),(36,.one (.sl 73 a0.list .ro)),(37,.one (.int .i64 (a0.list.length:Int))),(38,.one (.int .i64 x38))]
def bE4:Sig τ:=⟨[(false,ab2)],[ab5]⟩
def cx8:Adv:=⟨13,[[1],[2]],[],[]⟩
noncomputable def cx9:List (Ent U):=[bP9,bQ0,bQ2]
noncomputable def bj9:aa0 × Unit→Option ((Bool × Unit) × Unit):=aa6 (U:=U) Tryz.prog cx9 cx8 0 Tryz.f30 bE4
noncomputable def cH6:Ent U:=⟨30,bE4,bj9⟩
def bk0:Sig τ:=⟨[(false,ai9)],[ab4]⟩
def bQ3:Adv:=⟨20,[[0],[0,3],[3,6,7,8],[3,6,7,8,9],[3,5,6,7,8],[3,6,7,8],[3,6,7,8],[2]],[],[]⟩
noncomputable def bQ4:List (Ent U):=[]
noncomputable def cf6 (n:Nat):(List aa8) × Unit→Option ((Int × Unit) × Unit):=aa6 (U:=U) Tryz.prog bQ4 bQ3 n Tryz.f144 bk0
noncomputable def bx7:(List aa8) × Unit→Option ((Int × Unit) × Unit):=cf6 fuel
noncomputable def bx8:Ent U:=⟨144,bk0,bx7⟩
noncomputable def dP2:=lp (tab bQ4) bQ3 Tryz.f144 0 bk0
noncomputable def ba9 (n m:Nat) (a0:List aa8) (x3:Int) (x8:Int):Option ((Int × Unit) × Unit):=
 dP2 n [.r,.r,.l,.r,.l,.at m] [(3,.one (.int .i64 x3)),(6,.one (.sl 75 a0 .ro)),(7,.one (.int .i64 (a0.length:Int))),(8,.one (.int .i64 x8))]
def bK8:Sig τ:=⟨[(false,ai9)],[aa3,ab5]⟩
def cs9:Adv:=⟨36,[[0],[0,9],[2,3],[0,4],[4,13,14,15],[4,13,14,15,16],[4,6,13,14,15],[4,6,13,14,15],[4,13,14,15],[4,13,14,15],[2,3]],[19,29],[]⟩
noncomputable def ct0:List (Ent U):=[aY4,bx8]
noncomputable def cH7 (n:Nat):(List aa8) × Unit→Option (((List UInt8) × Bool × Unit) × Unit):=aa6 (U:=U) Tryz.prog ct0 cs9 n Tryz.f107 bK8
noncomputable def bA0:(List aa8) × Unit→Option (((List UInt8) × Bool × Unit) × Unit):=cH7 fuel
noncomputable def ca1:Ent U:=⟨107,bK8,bA0⟩
noncomputable def ei5:=lp (tab ct0) cs9 Tryz.f107 0 bK8
noncomputable def bx9 (n m:Nat) (a0:List aa8) (x4:List UInt8) (x15:Int):Option (((List UInt8) × Bool × Unit) × Unit):=
 ei5 n [.r,.r,.r,.l,.r,.l,.at m] [(4,.one (.bs 5 x4 .app)),(13,.one (.sl 75 a0 .ro)),(14,.one (.int .i64 (a0.length:Int))),(15,.one (.int .i64 x15))]
def bQ5:Sig τ:=⟨[(false,ab4)],[aa3]⟩
def cH8:Adv:=⟨11,[[0],[3],[2]],[],[]⟩
noncomputable def cH9:List (Ent U):=[aM6]
noncomputable def aM9:Int × Unit→Option (((List UInt8) × Unit) × Unit):=aa6 (U:=U) Tryz.prog cH9 cH8 0 Tryz.f108 bQ5
noncomputable def cX2:Ent U:=⟨108,bQ5,aM9⟩
def cf7:Sig τ:=⟨[(false,ab2)],[aa3,ab5]⟩
def cX3:Adv:=⟨46,[[1],[1,9],[2,3],[1,4],[1,4,6],[2,3]],[],[]⟩
noncomputable def cX4:List (Ent U):=[bP9,ca1,cX2]
noncomputable def bK9:aa0 × Unit→Option (((List UInt8) × Bool × Unit) × Unit):=aa6 (U:=U) Tryz.prog cX4 cX3 0 Tryz.f73 cf7
noncomputable def dk3:Ent U:=⟨73,cf7,bK9⟩
def cf8:Sig τ:=⟨[(false,ab2)],[aa3,ab5]⟩
def cX5:Adv:=⟨60,[[1],[1,12],[2,3],[1,4],[1,4,21],[2,3],[1,4,6],[1,4,6,8],[2,3]],[],[]⟩
noncomputable def cX6:List (Ent U):=[bQ0,ca1,aM6]
noncomputable def bL0:aa0 × Unit→Option (((List UInt8) × Bool × Unit) × Unit):=aa6 (U:=U) Tryz.prog cX6 cX5 0 Tryz.f74 cf8
noncomputable def dk4:Ent U:=⟨74,cf8,bL0⟩
def by0:Sig τ:=⟨[(false,ab2)],[aa3,ab5]⟩
def cf9:Adv:=⟨54,[[1],[1,13],[2,3],[1,4],[1,4,24,25,26],[1,4,24,25,26,27],[1,4,6,24,25,26],[1,4,6,7,24,25,26],[1,4,7,24,25,26],[1,4,24,25,26],[1,4,24,25,26],[4,9],[2,3]],[36,40],[]⟩
noncomputable def cg0:List (Ent U):=[bQ2,aM6,ca1]
noncomputable def ct1 (n:Nat):aa0 × Unit→Option (((List UInt8) × Bool × Unit) × Unit):=aa6 (U:=U) Tryz.prog cg0 cf9 n Tryz.f75 by0
noncomputable def bL1:aa0 × Unit→Option (((List UInt8) × Bool × Unit) × Unit):=ct1 fuel
noncomputable def dk5:Ent U:=⟨75,by0,bL1⟩
noncomputable def dY9:=lp (tab cg0) cf9 Tryz.f75 0 by0
noncomputable def bk1 (n m:Nat) (a0:aa0) (x4:List UInt8) (x26:Int):Option (((List UInt8) × Bool × Unit) × Unit):=
 dY9 n [.r,.r,.r,.l,.r,.l,.at m] [(1,.box [.int .i64 a0.kind,.int .i64 a0.cmd,.int .i64 a0.ver,.str a0.auth,.int .i64 a0.family,.int .i64 a0.ae,.str a0.prefix_,.int .i64 a0.plen,.int .i64 a0.tag,.str a0.next,.int .i64 a0.metric,.str a0.id,.int .i64 a0.seq,.int .i64 a0.seq2,.int .i64 a0.interval,.int .i64 a0.flags,.int .i64 a0.hops,.int .i64 a0.nonce,.int .i64 a0.cost,.str a0.addr,.str a0.orig,.sl 73 a0.list .ro,.int .i64 a0.type_,.str a0.data,.sl 75 a0.subs .ro]),(4,.one (.bs 5 x4 .app)),(24,.one (.sl 73 a0.list .ro)),(25,.one (.int .i64 (a0.list.length:Int))),(26,.one (.int .i64 x26))]
def aV4:Sig τ:=⟨[(false,ae0)],[aa3,ab4,ab9]⟩
def bt1:Adv:=⟨56,[[0],[0,9,10],[0,9,10,11],[0,5,9,10],[0,5,9,10,18],[2,3,4],[0,9,10],[0,23],[2,3,4],[0,26],[2,3,4],[0,6,7],[0,6,7,35],[0,6,7],[0,6,44],[6],[6,54],[2,3,4],[2,3,4]],[],[]⟩
noncomputable def bt2:List (Ent U):=[cH6,dk3,dk4,dk5]
noncomputable def bE5 (n:Nat):(List aa0) × Unit→Option (((List UInt8) × Int × Int × Unit) × Unit):=aa6 (U:=U) Tryz.prog bt2 bt1 n Tryz.f32 aV4
noncomputable def bE6:(List aa0) × Unit→Option (((List UInt8) × Int × Int × Unit) × Unit):=bE5 fuel
noncomputable def cy0:Ent U:=⟨32,aV4,bE6⟩
noncomputable def dt4:=lp (tab bt2) bt1 Tryz.f32 0 aV4
noncomputable def aP7 (n m:Nat) (a0:List aa0) (x10:Int):Option (((List UInt8) × Int × Int × Unit) × Unit):=
 dt4 n [.r,.l,.r,.l,.at m] [(0,.one (.sl 33 a0 .ro)),(9,.one (.int .i64 (a0.length:Int))),(10,.one (.int .i64 x10))]
def bQ6:Sig τ:=⟨[(false,ai9)],[ab5]⟩
def cI0:Adv:=⟨10,[[0],[2]],[],[]⟩
noncomputable def cI1:List (Ent U):=[cs8,bx8]
noncomputable def aC9:(List aa8) × Unit→Option ((Bool × Unit) × Unit):=aa6 (U:=U) Tryz.prog cI1 cI0 0 Tryz.f110 bQ6
noncomputable def aY5:Ent U:=⟨110,bQ6,aC9⟩
def bk2:Sig τ:=⟨[],[dj4]⟩
def ca2:Adv:=⟨6,[[0],[0]],[],[]⟩
noncomputable def ca3:List (Ent U):=[]
noncomputable def aG1:Unit→Option ((bi0 × Unit) × Unit):=aa6 (U:=U) Tryz.prog ca3 ca2 0 Tryz.f145 bk2
noncomputable def aG2:Ent U:=⟨145,bk2,aG1⟩
def cg1:Sig τ:=⟨[(false,ab4),(false,aa3),(false,ab4)],[ab5]⟩
def cX7:Adv:=⟨47,[[0,1,2],[0,1,2,13],[6],[0,1,2,7],[6]],[],[]⟩
noncomputable def cX8:List (Ent U):=[aG2,bO9,aM8]
noncomputable def bk3:Int × (List UInt8) × Int × Unit→Option ((Bool × Unit) × Unit):=aa6 (U:=U) Tryz.prog cX8 cX7 0 Tryz.f111 cg1
noncomputable def ct2:Ent U:=⟨111,cg1,bk3⟩
def bt3:Sig τ:=⟨[(false,aa3)],[ab4]⟩
def cl5:Adv:=⟨9,[[0],[4],[4,5],[2],[7],[2],[2]],[],[]⟩
noncomputable def cl6:List (Ent U):=[]
noncomputable def aA9:(List UInt8) × Unit→Option ((Int × Unit) × Unit):=aa6 (U:=U) Tryz.prog cl6 cl5 0 Tryz.f113 bt3
noncomputable def bE7:Ent U:=⟨113,bt3,aA9⟩
def bE8:Sig τ:=⟨[(false,ab4)],[ab4]⟩
def cy1:Adv:=⟨9,[[0],[3],[3,4],[2],[3,6],[6],[2],[2]],[],[]⟩
noncomputable def cy2:List (Ent U):=[]
noncomputable def aR8:Int × Unit→Option ((Int × Unit) × Unit):=aa6 (U:=U) Tryz.prog cy2 cy1 0 Tryz.f114 bE8
noncomputable def aR9:Ent U:=⟨114,bE8,aR8⟩
def bE9:Sig τ:=⟨[(false,aa3),(false,ab5)],[ab5]⟩
def cy3:Adv:=⟨10,[[0,1],[4]],[],[]⟩
noncomputable def cy4:List (Ent U):=[]
noncomputable def bk4:(List UInt8) × Bool × Unit→Option ((Bool × Unit) × Unit):=aa6 (U:=U) Tryz.prog cy4 cy3 0 Tryz.f112 bE9
noncomputable def cI2:Ent U:=⟨112,bE9,bk4⟩
def bQ7:Sig τ:=⟨[(false,ab2)],[ab5]⟩
def cI3:Adv:=⟨76,[[1],[1,3],[2],[1,28],[2],[1,45],[2],[2]],[],[]⟩
noncomputable def cI4:List (Ent U):=[ar6,aY5,ct2,aj5,bE7,aR9,cI2]
noncomputable def by1:aa0 × Unit→Option ((Bool × Unit) × Unit):=aa6 (U:=U) Tryz.prog cI4 cI3 0 Tryz.f76 bQ7
noncomputable def cX9:Ent U:=⟨76,bQ7,by1⟩
def bt4:Sig τ:=⟨[(false,ab2)],[ab5]⟩
def cl7:Adv:=⟨52,[[1],[1,21],[2],[1,23],[1,23,24],[2],[1,26],[2],[2]],[],[]⟩
noncomputable def cl8:List (Ent U):=[ar6,aY5,ct2,aj5]
noncomputable def aB0:aa0 × Unit→Option ((Bool × Unit) × Unit):=aa6 (U:=U) Tryz.prog cl8 cl7 0 Tryz.f77 bt4
noncomputable def bF0:Ent U:=⟨77,bt4,aB0⟩
def bc4:Sig τ:=⟨[(false,ab4),(false,aa3)],[ab5]⟩
def bQ8:Adv:=⟨26,[[0,1],[0,1,5],[0,1,5,6],[4],[0,1,5,10],[4],[0,1,15],[4],[4]],[],[]⟩
noncomputable def bQ9:List (Ent U):=[bE7,aM8]
noncomputable def aB7:Int × (List UInt8) × Unit→Option ((Bool × Unit) × Unit):=aa6 (U:=U) Tryz.prog bQ9 bQ8 0 Tryz.f115 bc4
noncomputable def ca4:Ent U:=⟨115,bc4,aB7⟩
def aV5:Sig τ:=⟨[(false,ab2)],[ab5]⟩
def bt5:Adv:=⟨57,[[1],[1,13,14,15],[1,13,14,15,16],[1,4,13,14,15],[1,13,14,15,21],[2],[1,13,14,15],[1,31],[2],[1,33],[1,33,34],[1,33,34],[2],[1,37],[2],[2]],[],[]⟩
noncomputable def bt6:List (Ent U):=[aj5,ar6,aY5,ca4]
noncomputable def bF1 (n:Nat):aa0 × Unit→Option ((Bool × Unit) × Unit):=aa6 (U:=U) Tryz.prog bt6 bt5 n Tryz.f78 aV5
noncomputable def aL9:aa0 × Unit→Option ((Bool × Unit) × Unit):=bF1 fuel
noncomputable def bF2:Ent U:=⟨78,aV5,aL9⟩
noncomputable def dt5:=lp (tab bt6) bt5 Tryz.f78 0 aV5
noncomputable def at4 (n m:Nat) (a0:aa0) (x13:List Int) (x14:Int) (x15:Int):Option ((Bool × Unit) × Unit):=
 dt5 n [.r,.l,.r,.l,.at m] [(1,.box [.int .i64 a0.kind,.int .i64 a0.cmd,.int .i64 a0.ver,.str a0.auth,.int .i64 a0.family,.int .i64 a0.ae,.str a0.prefix_,.int .i64 a0.plen,.int .i64 a0.tag,.str a0.next,.int .i64 a0.metric,.str a0.id,.int .i64 a0.seq,.int .i64 a0.seq2,.int .i64 a0.interval,.int .i64 a0.flags,.int .i64 a0.hops,.int .i64 a0.nonce,.int .i64 a0.cost,.str a0.addr,.str a0.orig,.sl 73 a0.list .ro,.int .i64 a0.type_,.str a0.data,.sl 75 a0.subs .ro]),(13,.one (.sl 3 x13 .app)),(14,.one (.int .i64 x14)),(15,.one (.int .i64 x15))]
def bF3:Sig τ:=⟨[(false,ab2)],[ab5]⟩
def cy5:Adv:=⟨36,[[1],[1,4],[1,4,5],[2],[1,4,9],[1,4,9],[2],[1,14],[2],[2]],[],[]⟩
noncomputable def cy6:List (Ent U):=[cX9,bF0,ar6,bF2]
noncomputable def aS0:aa0 × Unit→Option ((Bool × Unit) × Unit):=aa6 (U:=U) Tryz.prog cy6 cy5 0 Tryz.f33 bF3
noncomputable def bR0:Ent U:=⟨33,bF3,aS0⟩
def bR1:Sig τ:=⟨[(false,ab4),(false,aa3)],[aa3,ab5]⟩
def cI5:Adv:=⟨26,[[0,1],[0,1,16],[4,5],[4,5]],[],[]⟩
noncomputable def cI6:List (Ent U):=[]
noncomputable def af4:Int × (List UInt8) × Unit→Option (((List UInt8) × Bool × Unit) × Unit):=aa6 (U:=U) Tryz.prog cI6 cI5 0 Tryz.f150 bR1
noncomputable def aN0:Ent U:=⟨150,bR1,af4⟩
def bL2:Sig τ:=⟨[(false,ai9)],[aa3,ab5]⟩
def ct3:Adv:=⟨32,[[0],[0,11],[2,3],[0,4],[4,12,13,14],[4,12,13,14,15],[4,6,12,13,14],[4,7,12,13,14],[4,12,13,14],[4,12,13,14],[2,3]],[26],[]⟩
noncomputable def ct4:List (Ent U):=[aY5,aN0]
noncomputable def cI7 (n:Nat):(List aa8) × Unit→Option (((List UInt8) × Bool × Unit) × Unit):=aa6 (U:=U) Tryz.prog ct4 ct3 n Tryz.f154 bL2
noncomputable def aq2:(List aa8) × Unit→Option (((List UInt8) × Bool × Unit) × Unit):=cI7 fuel
noncomputable def ca5:Ent U:=⟨154,bL2,aq2⟩
noncomputable def ei6:=lp (tab ct4) ct3 Tryz.f154 0 bL2
noncomputable def by2 (n m:Nat) (a0:List aa8) (x4:List UInt8) (x14:Int):Option (((List UInt8) × Bool × Unit) × Unit):=
 ei6 n [.r,.r,.r,.l,.r,.l,.at m] [(4,.one (.bs 5 x4 .app)),(12,.one (.sl 75 a0 .ro)),(13,.one (.int .i64 (a0.length:Int))),(14,.one (.int .i64 x14))]
def bk5:Sig τ:=⟨[(false,ab4)],[ab4]⟩
def ca6:Adv:=⟨7,[[0],[2]],[],[]⟩
noncomputable def ca7:List (Ent U):=[]
noncomputable def aV6:Int × Unit→Option ((Int × Unit) × Unit):=aa6 (U:=U) Tryz.prog ca7 ca6 0 Tryz.f204 bk5
noncomputable def bt7:Ent U:=⟨204,bk5,aV6⟩
def bF4:Sig τ:=⟨[(false,aa3),(false,ab4)],[aa3]⟩
def cy7:Adv:=⟨16,[[0,1],[1,5],[4]],[],[]⟩
noncomputable def cy8:List (Ent U):=[bt7,aY3]
noncomputable def aG3:(List UInt8) × Int × Unit→Option (((List UInt8) × Unit) × Unit):=aa6 (U:=U) Tryz.prog cy8 cy7 0 Tryz.f186 bF4
noncomputable def bR2:Ent U:=⟨186,bF4,aG3⟩
def bR3:Sig τ:=⟨[(false,ab2)],[aa3,ab5]⟩
def cI8:Adv:=⟨65,[[1],[1,10],[2,3],[1,4],[1,4,6],[1,4,6,7],[1,4,6,7,26],[1,4,6,7],[1,4,6,7],[1,4,6,7],[4,6,7],[2,3]],[27,40,44],[]⟩
noncomputable def cI9:List (Ent U):=[bF0,ca5,bR2,aG2,aN0]
noncomputable def aY6:aa0 × Unit→Option (((List UInt8) × Bool × Unit) × Unit):=aa6 (U:=U) Tryz.prog cI9 cI8 0 Tryz.f149 bR3
noncomputable def cY0:Ent U:=⟨149,bR3,aY6⟩
def ay7:Sig τ:=⟨[(true,dt3),(false,ei4)],[]⟩
def aO2:Adv:=⟨27,[[0,6,7,8],[0,6,7,8,9],[0,5,6,7,8],[0,6,7,8],[0,6,7,8]],[16],[]⟩
noncomputable def aO3:List (Ent U):=[]
noncomputable def aS1 (n:Nat):ah2 × (List Int) × Unit→Option ((Unit) × (ah2 × Unit)):=aa6 (U:=U) Tryz.prog aO3 aO2 n Tryz.f187 ay7
noncomputable def ao5:ah2 × (List Int) × Unit→Option ((Unit) × (ah2 × Unit)):=aS1 fuel
noncomputable def bA1:Ent U:=⟨187,ay7,ao5⟩
noncomputable def cD5:=lp (tab aO3) aO2 Tryz.f187 1 ay7
noncomputable def av5 (n m:Nat) (a1:List Int) (x8:Int) (x1000000:List UInt8):Option ((Unit) × (ah2 × Unit)):=
 cD5 n [.r,.l,.at m] [(0,.one (.ref 1000000 0)),(6,.one (.sl 3 a1 .ro)),(7,.one (.int .i64 (a1.length:Int))),(8,.one (.int .i64 x8)),(1000000,.box [.bs 5 x1000000 .app])]
def bF5:Sig τ:=⟨[(false,aa3)],[aa3,ab5]⟩
def cy9:Adv:=⟨9,[[0],[0,6],[2,3],[2,3]],[],[]⟩
noncomputable def cz0:List (Ent U):=[aM8]
noncomputable def aS2:(List UInt8) × Unit→Option (((List UInt8) × Bool × Unit) × Unit):=aa6 (U:=U) Tryz.prog cz0 cy9 0 Tryz.f153 bF5
noncomputable def bR4:Ent U:=⟨153,bF5,aS2⟩
def bR5:Sig τ:=⟨[(false,ab2)],[aa3,ab5]⟩
def cJ0:Adv:=⟨107,[[1],[1,11],[2,3],[1,4],[1,4,15],[1,4,15,16],[1,4],[1,4,15,25],[1,4],[1,4,15,32],[1,4],[1,4,44],[1,4],[1,4,5,6],[1,4,5,67],[1,4],[1,4],[1,4,7],[2,3]],[72,81],[]⟩
noncomputable def cJ1:List (Ent U):=[bF2,bA1,ca5,aN0,bR4]
noncomputable def aY7:aa0 × Unit→Option (((List UInt8) × Bool × Unit) × Unit):=aa6 (U:=U) Tryz.prog cJ1 cJ0 0 Tryz.f151 bR5
noncomputable def cY1:Ent U:=⟨151,bR5,aY7⟩
def bF6:Sig τ:=⟨[(false,ab2)],[aa3]⟩
def cz1:Adv:=⟨30,[[1],[1],[1,5],[3],[1,5,11],[1,5,11],[3],[1,19],[3],[2]],[],[]⟩
noncomputable def cz2:List (Ent U):=[cY0,aN0,cY1]
noncomputable def bk6:aa0 × Unit→Option (((List UInt8) × Unit) × Unit):=aa6 (U:=U) Tryz.prog cz2 cz1 0 Tryz.f120 bF6
noncomputable def cJ2:Ent U:=⟨120,bF6,bk6⟩
def aS3:Sig τ:=⟨[(true,aL1),(false,ab4),(false,aa3)],[]⟩
def bA2:Adv:=⟨23,[[0,6],[]],[18],[]⟩
noncomputable def bA3:List (Ent U):=[aN0]
noncomputable def ai8:ab0 × Int × (List UInt8) × Unit→Option ((Unit) × (ab0 × Unit)):=aa6 (U:=U) Tryz.prog bA3 bA2 0 Tryz.f152 aS3
noncomputable def aE2:Ent U:=⟨152,aS3,ai8⟩
def aX2:Sig τ:=⟨[(true,aL1),(false,aa3)],[]⟩
def bI4:Adv:=⟨13,[[0,1],[]],[],[]⟩
noncomputable def bI5:List (Ent U):=[aE2]
noncomputable def ax4:ab0 × (List UInt8) × Unit→Option ((Unit) × (ab0 × Unit)):=aa6 (U:=U) Tryz.prog bI5 bI4 0 Tryz.f121 aX2
noncomputable def bR6:Ent U:=⟨121,aX2,ax4⟩
def aS4:Sig τ:=⟨[(true,aL1),(false,ab4),(false,aa3)],[]⟩
def bA4:Adv:=⟨37,[[0,1,2,6,7],[0,1,2],[0,1,2,6,17],[0,1,2],[0,1,2,23],[0,1,2],[]],[],[]⟩
noncomputable def bA5:List (Ent U):=[bR4,aE2]
noncomputable def ak3:ab0 × Int × (List UInt8) × Unit→Option ((Unit) × (ab0 × Unit)):=aa6 (U:=U) Tryz.prog bA5 bA4 0 Tryz.f122 aS4
noncomputable def bI6:Ent U:=⟨122,aS4,ak3⟩
def bR7:Sig τ:=⟨[(false,ab4)],[ab4]⟩
def cJ3:Adv:=⟨5,[[0],[4],[2],[2]],[],[]⟩
noncomputable def cJ4:List (Ent U):=[]
noncomputable def aY8:Int × Unit→Option ((Int × Unit) × Unit):=aa6 (U:=U) Tryz.prog cJ4 cJ3 0 Tryz.f157 bR7
noncomputable def cg2:Ent U:=⟨157,bR7,aY8⟩
def bF7:Sig τ:=⟨[(false,ab2)],[aa3]⟩
def cz3:Adv:=⟨12,[[1],[2]],[],[]⟩
noncomputable def cz4:List (Ent U):=[bR2,cg2]
noncomputable def ax5:aa0 × Unit→Option (((List UInt8) × Unit) × Unit):=aa6 (U:=U) Tryz.prog cz4 cz3 0 Tryz.f155 bF7
noncomputable def bR8:Ent U:=⟨155,bF7,ax5⟩
def aX3:Sig τ:=⟨[(false,ck2)],[ab4]⟩
def bI7:Adv:=⟨6,[[0],[2]],[],[]⟩
noncomputable def bI8:List (Ent U):=[]
noncomputable def aJ0:Int × Unit→Option ((Int × Unit) × Unit):=aa6 (U:=U) Tryz.prog bI8 bI7 0 Tryz.f211 aX3
noncomputable def bR9:Ent U:=⟨211,aX3,aJ0⟩
def au5:Sig τ:=⟨[(false,ck2)],[ab4]⟩
def aM0:Adv:=⟨6,[[0],[2]],[],[]⟩
noncomputable def aM1:List (Ent U):=[bR9]
noncomputable def ao7:Int × Unit→Option ((Int × Unit) × Unit):=aa6 (U:=U) Tryz.prog aM1 aM0 0 Tryz.f206 au5
noncomputable def aP8:Ent U:=⟨206,au5,ao7⟩
def bb0:Sig τ:=⟨[(false,aa3),(false,aa3)],[ab4]⟩
def bF8:Adv:=⟨36,[[0,1],[0,1,11,12],[0,1,11,12,13],[0,1,5,11,12],[0,1,5,6,11,12],[0,1,5,6,11,12,23],[4],[0,1,11,12],[4]],[],[]⟩
noncomputable def bF9:List (Ent U):=[aP8]
noncomputable def bS0 (n:Nat):(List UInt8) × (List UInt8) × Unit→Option ((Int × Unit) × Unit):=aa6 (U:=U) Tryz.prog bF9 bF8 n Tryz.f188 bb0
noncomputable def bS1:(List UInt8) × (List UInt8) × Unit→Option ((Int × Unit) × Unit):=bS0 fuel
noncomputable def cJ5:Ent U:=⟨188,bb0,bS1⟩
noncomputable def dF8:=lp (tab bF9) bF8 Tryz.f188 0 bb0
noncomputable def aV7 (n m:Nat) (a0:List UInt8) (a1:List UInt8) (x11:Int) (x12:Int):Option ((Int × Unit) × Unit):=
 dF8 n [.r,.l,.r,.l,.at m] [(0,.one (.str a0)),(1,.one (.str a1)),(11,.one (.int .i64 x11)),(12,.one (.int .i64 x12))]
def bt8:Sig τ:=⟨[(false,aa3),(false,aa3)],[ab4]⟩
def cl9:Adv:=⟨9,[[0,1],[4]],[],[]⟩
noncomputable def cm0:List (Ent U):=[cJ5]
noncomputable def bb1:(List UInt8) × (List UInt8) × Unit→Option ((Int × Unit) × Unit):=aa6 (U:=U) Tryz.prog cm0 cl9 0 Tryz.f156 bt8
noncomputable def cz5:Ent U:=⟨156,bt8,bb1⟩
def aD0:Sig τ:=⟨[(true,aL1),(false,ab2)],[ab4]⟩
def aY9:Adv:=⟨24,[[0,3],[3,5],[3,5,15],[4],[4]],[],[]⟩
noncomputable def aZ0:List (Ent U):=[cg2,bR8,cz5]
noncomputable def ac7:ab0 × aa0 × Unit→Option ((Int × Unit) × (ab0 × Unit)):=aa6 (U:=U) Tryz.prog aZ0 aY9 0 Tryz.f124 aD0
noncomputable def bf6:Ent U:=⟨124,aD0,ac7⟩
def at5:Sig τ:=⟨[(true,aL1),(false,ab2),(false,ab4)],[]⟩
def aG4:Adv:=⟨72,[[0,2,4],[0,2,4,6],[0,2,4,6,22],[0,2,4,6],[0,2,4,6],[0,2,4,6,40,41,42],[0,2,4,6,40,41,42,43],[0,2,4,6,8,40,41,42],[0,2,4,6,40,41,42],[0,2,4,6,40,41,42],[0,2,4,6,9],[]],[46],[19]⟩
noncomputable def aG5:List (Ent U):=[ca5,bR8,aE2]
noncomputable def aJ1 (n:Nat):ab0 × aa0 × Int × Unit→Option ((Unit) × (ab0 × Unit)):=aa6 (U:=U) Tryz.prog aG5 aG4 n Tryz.f123 at5
noncomputable def ad2:ab0 × aa0 × Int × Unit→Option ((Unit) × (ab0 × Unit)):=aJ1 fuel
noncomputable def bk7:Ent U:=⟨123,at5,ad2⟩
noncomputable def bf7:=lp (tab aG5) aG4 Tryz.f123 1 at5
noncomputable def ar8 (n m:Nat) (a2:Int) (a1:aa0) (a0:ab0) (x19:List UInt8) (x40:List Int) (x41:Int) (x42:Int) (x1000000_1:List UInt8) (x1000000_2:List UInt8) (x1000000_3:List UInt8) (x1000000_4:List UInt8):Option ((Unit) × (ab0 × Unit)):=
 bf7 n [.r,.r,.r,.l,.r,.l,.at m] [(0,.one (.ref 1000000 0)),(2,.one (.int .i64 a2)),(4,.box [.int .i64 a1.kind,.int .i64 a1.cmd,.int .i64 a1.ver,.str a1.auth,.int .i64 a1.family,.int .i64 a1.ae,.str a1.prefix_,.int .i64 a1.plen,.int .i64 a1.tag,.str a1.next,.int .i64 a1.metric,.str a1.id,.int .i64 a1.seq,.int .i64 a1.seq2,.int .i64 a1.interval,.int .i64 a1.flags,.int .i64 a1.hops,.int .i64 a1.nonce,.int .i64 a1.cost,.str a1.addr,.str a1.orig,.sl 73 a1.list .ro,.int .i64 a1.type_,.str a1.data,.sl 75 a1.subs .ro]),(6,.one (.sref 19)),(19,.bblk 5 x19 true),(40,.one (.sl 3 x40 .app)),(41,.one (.int .i64 x41)),(42,.one (.int .i64 x42)),(1000000,.box [.bs 5 a0.b .app,.str x1000000_1,.str x1000000_2,.str x1000000_3,.str x1000000_4,.str a0.c_Next_c0,.str a0.c_Next_c1,.str a0.c_Id])]
noncomputable def ah6 (n m:Nat) (a2:Int) (a1:aa0) (x40:List Int) (x41:Int) (a0:ab0) (x1000000_1:List UInt8) (x1000000_2:List UInt8) (x1000000_3:List UInt8) (x1000000_4:List UInt8) (x6:List UInt8) (x42:Int):Option ((Unit) × (ab0 × Unit)):=
 bf7 n [.r,.r,.r,.l,.r,.l,.at m] [(0,.one (.ref 1000000 0)),(2,.one (.int .i64 a2)),(4,.box [.int .i64 a1.kind,.int .i64 a1.cmd,.int .i64 a1.ver,.str a1.auth,.int .i64 a1.family,.int .i64 a1.ae,.str a1.prefix_,.int .i64 a1.plen,.int .i64 a1.tag,.str a1.next,.int .i64 a1.metric,.str a1.id,.int .i64 a1.seq,.int .i64 a1.seq2,.int .i64 a1.interval,.int .i64 a1.flags,.int .i64 a1.hops,.int .i64 a1.nonce,.int .i64 a1.cost,.str a1.addr,.str a1.orig,.sl 73 a1.list .ro,.int .i64 a1.type_,.str a1.data,.sl 75 a1.subs .ro]),(6,.one (.bs 5 x6 .app)),(40,.one (.sl 3 x40 .app)),(41,.one (.int .i64 x41)),(42,.one (.int .i64 x42)),(1000000,.box [.bs 5 a0.b .app,.str x1000000_1,.str x1000000_2,.str x1000000_3,.str x1000000_4,.str a0.c_Next_c0,.str a0.c_Next_c1,.str a0.c_Id])]
def cg3:Sig τ:=⟨[(false,aR2),(false,ab2)],[aa3,aR2,ab9]⟩
def cY2:Adv:=⟨77,[[2,3,5],[2,3,5,9],[4,5,6],[2,3,5,14],[4,5,6],[2,3,5,7],[2,3,5,7,26],[2,3,5,7,8],[2,3,5,7,8,39],[4,5,6],[2,3,5,7,8,45],[2,3,5,7,8],[3,5,7,8,56],[3,5,7],[5,7],[4,5,6]],[],[]⟩
noncomputable def cY3:List (Ent U):=[bR0,cJ2,aR9,bR6,bI6,bf6,bk7]
noncomputable def bL3:af0 × aa0 × Unit→Option (((List UInt8) × af0 × Int × Unit) × Unit):=aa6 (U:=U) Tryz.prog cY3 cY2 0 Tryz.f83 cg3
noncomputable def dk6:Ent U:=⟨83,cg3,bL3⟩
def bG0:Sig τ:=⟨[(false,aa3)],[aa3,ab5]⟩
def cz6:Adv:=⟨23,[[0],[0,4,5],[0,4,18],[2,3],[2,3]],[],[]⟩
noncomputable def cz7:List (Ent U):=[aM6]
noncomputable def bk8:(List UInt8) × Unit→Option (((List UInt8) × Bool × Unit) × Unit):=aa6 (U:=U) Tryz.prog cz7 cz6 0 Tryz.f84 bG0
noncomputable def cJ6:Ent U:=⟨84,bG0,bk8⟩
def aJ2:Sig τ:=⟨[(false,ae0)],[aa3,ab4,ab9]⟩
def bc5:Adv:=⟨62,[[0],[0,16,17,18],[0,16,17,18,19],[0,5,6,16,17,18],[0,5,16,17,18,25],[2,3,4],[0,16,17,18],[0,7],[0,7,8],[7,8,28,29,30],[7,8,28,29,30,31],[7,8,9,10,28,29,30],[7,8,9,11,12,13,28,29,30],[7,8,9,11,12,13,28,29,30,43],[2,3,4],[7,8,9,28,29,30],[7,8,9,28,29,30,52],[2,3,4],[7,8,28,29,30],[14],[2,3,4]],[46],[]⟩
noncomputable def bc6:List (Ent U):=[bR0,dk6,cJ6]
noncomputable def bk9 (n:Nat):(List aa0) × Unit→Option (((List UInt8) × Int × Int × Unit) × Unit):=aa6 (U:=U) Tryz.prog bc6 bc5 n Tryz.f35 aJ2
noncomputable def bl0:(List aa0) × Unit→Option (((List UInt8) × Int × Int × Unit) × Unit):=bk9 fuel
noncomputable def ca8:Ent U:=⟨35,aJ2,bl0⟩
noncomputable def bS2:=lp (tab bc6) bc5 Tryz.f35 0 aJ2
noncomputable def aE3 (n m:Nat) (a0:List aa0) (x18:Int):Option (((List UInt8) × Int × Int × Unit) × Unit):=
 bS2 n [.r,.l,.r,.l,.at m] [(0,.one (.sl 33 a0 .ro)),(16,.one (.sl 33 a0 .ro)),(17,.one (.int .i64 (a0.length:Int))),(18,.one (.int .i64 x18))]
noncomputable def aE4 (n m:Nat) (a0:List aa0) (x7:List UInt8) (x8_0:List UInt8) (x8_1:List UInt8) (x8_2:List UInt8) (x8_3:List UInt8) (x8_4:List UInt8) (x8_5:List UInt8) (x8_6:List UInt8) (x30:Int):Option (((List UInt8) × Int × Int × Unit) × Unit):=
 bS2 n [.r,.r,.r,.r,.l,.r,.l,.at m] [(7,.one (.bs 5 x7 .app)),(8,.box [.str x8_0,.str x8_1,.str x8_2,.str x8_3,.str x8_4,.str x8_5,.str x8_6]),(28,.one (.sl 33 a0 .ro)),(29,.one (.int .i64 (a0.length:Int))),(30,.one (.int .i64 x30))]
def aB8:Sig τ:=⟨[(false,ab4),(false,ae0)],[aa3,ab4,ab9]⟩
def bl1:Adv:=⟨23,[[0,1],[1,7,8],[1,7,15],[4,5,6],[4,5,6]],[],[]⟩
noncomputable def bl2:List (Ent U):=[cH1,cl4,cy0,ca8]
def cY4:Adv:=⟨18,[[0,2],[2,4],[2,4,5],[2,3],[2,4,8],[2,3],[2,4,11],[2,3],[2,14],[2,3],[2,3]],[],[999999]⟩
noncomputable def aJ3:Tab U:=inl Tryz.prog 12 (tab bl2) cY4 0 Tryz.f12 (tab bl2)
noncomputable def aG6:Int × (List aa0) × Unit→Option (((List UInt8) × Int × Int × Unit) × Unit):=dj2 (U:=U) Tryz.prog aJ3 bl1 0 Tryz.f6 aB8
noncomputable def bt9:Ent U:=⟨6,aB8,aG6⟩
def cg4:Sig τ:=⟨[(false,aa3)],[ab4,ab9]⟩
def cY5:Adv:=⟨49,[[0],[0,4],[0,4,7],[2,3],[0,4,11],[2,3],[0,4,20],[2,3],[4,29],[2,3],[4,34],[2,3],[4,40],[2,3],[44],[2,3],[2,3]],[],[]⟩
noncomputable def cY6:List (Ent U):=[aR6]
noncomputable def ei7:(List UInt8) × Unit→Option ((Int × Int × Unit) × Unit):=aa6 (U:=U) Tryz.prog cY6 cY5 0 Tryz.f56 cg4
noncomputable def dk7:Ent U:=⟨56,cg4,ei7⟩
def am8:Sig τ:=⟨[(false,aa3),(false,aa3)],[aa3,ab5]⟩
def aw6:Adv:=⟨15,[[0,1],[0,1,9],[4,5],[4,5]],[],[]⟩
noncomputable def aw7:List (Ent U):=[an9]
noncomputable def bc7:(List UInt8) × (List UInt8) × Unit→Option (((List UInt8) × Bool × Unit) × Unit):=aa6 (U:=U) Tryz.prog aw7 aw6 0 Tryz.f44 am8
noncomputable def ax6:Ent U:=⟨44,am8,bc7⟩
def aJ4:Sig τ:=⟨[(false,aa3),(false,aa3)],[aa3,ab5]⟩
def bl3:Adv:=⟨11,[[0,1],[4,5]],[],[]⟩
noncomputable def bl4:List (Ent U):=[ax6]
noncomputable def cD6:(List UInt8) × (List UInt8) × Unit→Option (((List UInt8) × Bool × Unit) × Unit):=aa6 (U:=U) Tryz.prog bl4 bl3 0 Tryz.f21 aJ4
noncomputable def bq2:Ent U:=⟨21,aJ4,cD6⟩
def cg5:Sig τ:=⟨[(false,aa3)],[aa3,ab5]⟩
def cY7:Adv:=⟨19,[[0],[4,5],[4,17],[2,3],[2,3]],[],[]⟩
noncomputable def cY8:List (Ent U):=[bq2]
noncomputable def ei8:(List UInt8) × Unit→Option (((List UInt8) × Bool × Unit) × Unit):=aa6 (U:=U) Tryz.prog cY8 cY7 0 Tryz.f57 cg5
noncomputable def dk8:Ent U:=⟨57,cg5,ei8⟩
def bG1:Sig τ:=⟨[(false,aa3)],[aw2]⟩
def cz8:Adv:=⟨7,[[0,2],[2]],[],[]⟩
noncomputable def cz9:List (Ent U):=[]
noncomputable def dP3:(List UInt8) × Unit→Option ((ao3 × Unit) × Unit):=aa6 (U:=U) Tryz.prog cz9 cz8 0 Tryz.f94 bG1
noncomputable def am9:Ent U:=⟨94,bG1,dP3⟩
def bu0:Sig τ:=⟨[(false,aw2),(false,ab4)],[aw2,ab5]⟩
def cm1:Adv:=⟨29,[[1,2,4],[1,2,4,20],[2,4],[4,5],[2,4],[4,5]],[],[]⟩
noncomputable def cm2:List (Ent U):=[]
noncomputable def dF9:ao3 × Int × Unit→Option ((ao3 × Bool × Unit) × Unit):=aa6 (U:=U) Tryz.prog cm2 cm1 0 Tryz.f173 bu0
noncomputable def bG2:Ent U:=⟨173,bu0,dF9⟩
def bG3:Sig τ:=⟨[(false,aw2),(false,ab4)],[ab4,aw2]⟩
def cA0:Adv:=⟨49,[[1,2,5],[1,2,5,16],[2,5],[4,5],[2,5,6,7],[2,5,6,26],[4,5],[2,5,6,8],[5,6,8,35,36,37],[5,6,8,35,36,37,38],[5,6,8,10,35,36,37],[5,6,8,35,36,37],[5,6,8,35,36,37],[4,5]],[],[]⟩
noncomputable def cA1:List (Ent U):=[bG2]
noncomputable def dP4 (n:Nat):ao3 × Int × Unit→Option ((Int × ao3 × Unit) × Unit):=aa6 (U:=U) Tryz.prog cA1 cA0 n Tryz.f137 bG3
noncomputable def dP5:ao3 × Int × Unit→Option ((Int × ao3 × Unit) × Unit):=dP4 fuel
noncomputable def ap2:Ent U:=⟨137,bG3,dP5⟩
def aO4:Sig τ:=⟨[(true,ck6),(false,ab4)],[ab4]⟩
def bq3:Adv:=⟨21,[[0,1],[0,5,6],[5],[4]],[],[]⟩
noncomputable def bq4:List (Ent U):=[ap2]
noncomputable def cJ7:aF6 × Int × Unit→Option ((Int × Unit) × (aF6 × Unit)):=aa6 (U:=U) Tryz.prog bq4 bq3 0 Tryz.f95 aO4
noncomputable def bA6:Ent U:=⟨95,aO4,cJ7⟩
def bu1:Sig τ:=⟨[(false,aw2),(false,ab4)],[aa3,aw2]⟩
def cm3:Adv:=⟨25,[[1,2,5],[2,5,6,7],[2,5,6,15],[4,5],[4,5]],[],[]⟩
noncomputable def cm4:List (Ent U):=[bG2]
noncomputable def dG0:ao3 × Int × Unit→Option (((List UInt8) × ao3 × Unit) × Unit):=aa6 (U:=U) Tryz.prog cm4 cm3 0 Tryz.f138 bu1
noncomputable def an5:Ent U:=⟨138,bu1,dG0⟩
def aJ5:Sig τ:=⟨[(true,ck6)],[aa3]⟩
def bl5:Adv:=⟨18,[[0],[0,3,4],[3],[2]],[],[]⟩
noncomputable def bl6:List (Ent U):=[an5]
noncomputable def cD7:aF6 × Unit→Option (((List UInt8) × Unit) × (aF6 × Unit)):=aa6 (U:=U) Tryz.prog bl6 bl5 0 Tryz.f96 aJ5
noncomputable def bq5:Ent U:=⟨96,aJ5,cD7⟩
def bS3:Sig τ:=⟨[(false,aa3)],[aw1,ab5]⟩
def cJ8:Adv:=⟨33,[[0,2],[0,2,8],[2,3],[2,4],[2,4,5],[2,4,5],[2,4,5],[2,4,5],[2,4,5],[2,4,5],[2,5],[2,3]],[],[]⟩
noncomputable def cJ9:List (Ent U):=[am9,bA6,bq5]
noncomputable def dZ0:(List UInt8) × Unit→Option ((ae7 × Bool × Unit) × Unit):=aa6 (U:=U) Tryz.prog cJ9 cJ8 0 Tryz.f58 bS3
noncomputable def cY9:Ent U:=⟨58,bS3,dZ0⟩
def aS5:Sig τ:=⟨[(false,dP0)],[ab4]⟩
def bA7:Adv:=⟨19,[[0,2],[0,2,4],[0],[0,2],[0,2,8],[0,2],[0,2],[2]],[],[]⟩
noncomputable def bA8:List (Ent U):=[]
noncomputable def cU5:Int × Unit→Option ((Int × Unit) × Unit):=aa6 (U:=U) Tryz.prog bA8 bA7 0 Tryz.f174 aS5
noncomputable def bI9:Ent U:=⟨174,aS5,cU5⟩
def as5:Sig τ:=⟨[(false,dP0)],[ab4]⟩
def aH9:Adv:=⟨6,[[0],[2]],[],[]⟩
noncomputable def aI0:List (Ent U):=[bI9]
noncomputable def bG4:Int × Unit→Option ((Int × Unit) × Unit):=aa6 (U:=U) Tryz.prog aI0 aH9 0 Tryz.f139 as5
noncomputable def aM2:Ent U:=⟨139,as5,bG4⟩
def bS4:Sig τ:=⟨[(false,aa3)],[ab4,ab5]⟩
def cK0:Adv:=⟨41,[[0],[0,10],[2,3],[0,4],[0,5],[0,5,6],[5,39],[2,3],[2,3]],[],[]⟩
noncomputable def cK1:List (Ent U):=[aM2,cG8]
noncomputable def dZ1:(List UInt8) × Unit→Option ((Int × Bool × Unit) × Unit):=aa6 (U:=U) Tryz.prog cK1 cK0 0 Tryz.f97 bS4
noncomputable def cZ0:Ent U:=⟨97,bS4,dZ1⟩
def aO5:Sig τ:=⟨[(true,dO9),(false,aw1)],[ab2,ab9]⟩
def bq6:Adv:=⟨107,[[0,3,4],[0,3,4,6],[3,4,6,7,8],[3,4,6,7,46],[4,5],[3,4,6],[0,3,4,6,50],[4,6,69],[4,5],[4,5],[0,3,4,6,72],[4,5],[3,4,6,77],[3,4,6],[3,4,6,95],[4,5],[4,6,104],[4,5],[4,5]],[],[]⟩
noncomputable def bq7:List (Ent U):=[aR6,cf1,cZ0,aF9]
noncomputable def cK2:bO3 × ae7 × Unit→Option ((aa0 × Int × Unit) × (bO3 × Unit)):=aa6 (U:=U) Tryz.prog bq7 bq6 0 Tryz.f59 aO5
noncomputable def bA9:Ent U:=⟨59,aO5,cK2⟩
def bS5:Sig τ:=⟨[(false,aa3)],[ae0,ab4,ab9]⟩
def cK3:Adv:=⟨94,[[0],[0,5,6],[0,5,6,22],[2,3,4],[0,7],[0,7,8],[0,7,8,9,10],[0,7,8,9,46],[0,7,8],[0,7,8,54],[2,3,4],[0,7,8],[0,7,8,11],[0,7,8,11,67],[0,7,8,11],[0,7,8,11,12],[0,7,8,11,14,15],[0,7,8,11,14,15,86],[2,3,4],[0,7,8,11],[2,3,4]],[89],[]⟩
noncomputable def cK4:List (Ent U):=[dk7,dk8,cY9,bA9]
noncomputable def dZ2 (n:Nat):(List UInt8) × Unit→Option (((List aa0) × Int × Int × Unit) × Unit):=aa6 (U:=U) Tryz.prog cK4 cK3 n Tryz.f25 bS5
noncomputable def dZ3:(List UInt8) × Unit→Option (((List aa0) × Int × Int × Unit) × Unit):=dZ2 fuel
noncomputable def cZ1:Ent U:=⟨25,bS5,dZ3⟩
def bG5:Sig τ:=⟨[(false,aa3)],[ab4,ab9]⟩
def cA2:Adv:=⟨37,[[0],[0,4],[0,4,7],[2,3],[0,4,10],[2,3],[0,4,14],[2,3],[0,4,23],[2,3],[4,27],[2,3],[4,32],[2,3],[2,3]],[],[]⟩
noncomputable def cA3:List (Ent U):=[aR6]
noncomputable def dP6:(List UInt8) × Unit→Option ((Int × Int × Unit) × Unit):=aa6 (U:=U) Tryz.prog cA3 cA2 0 Tryz.f65 bG5
noncomputable def cK5:Ent U:=⟨65,bG5,dP6⟩
def ct5:Sig τ:=⟨[(false,aa3)],[aw1,ab5]⟩
def dk9:Adv:=⟨28,[[0,2],[0,2,7],[2,3],[0,2,4],[2,3]],[],[]⟩
noncomputable def dl0:List (Ent U):=[]
noncomputable def eq7:(List UInt8) × Unit→Option ((ae7 × Bool × Unit) × Unit):=aa6 (U:=U) Tryz.prog dl0 dk9 0 Tryz.f66 ct5
noncomputable def dB1:Ent U:=⟨66,ct5,eq7⟩
def aO6:Sig τ:=⟨[(true,ck3),(false,aw1)],[ab9]⟩
def bq8:Adv:=⟨23,[[0,3],[0,3,10],[4],[0,3],[0,3,17],[],[4]],[],[]⟩
noncomputable def bq9:List (Ent U):=[au4,aM8]
noncomputable def cK6:aF5 × ae7 × Unit→Option ((Int × Unit) × (aF5 × Unit)):=aa6 (U:=U) Tryz.prog bq9 bq8 0 Tryz.f101 aO6
noncomputable def bB0:Ent U:=⟨101,aO6,cK6⟩
def aG7:Sig τ:=⟨[(true,ck3),(false,aw1)],[ab9]⟩
def bf8:Adv:=⟨54,[[0,3],[0,3,5],[4],[0,3,12],[4],[0,3,19],[4],[],[4]],[32],[]⟩
noncomputable def bf9:List (Ent U):=[bB0,aF9]
noncomputable def ct6:aF5 × ae7 × Unit→Option ((Int × Unit) × (aF5 × Unit)):=aa6 (U:=U) Tryz.prog bf9 bf8 0 Tryz.f67 aG7
noncomputable def bl7:Ent U:=⟨67,aG7,ct6⟩
def bu2:Sig τ:=⟨[(false,aa3)],[ae0,ab4,ab9]⟩
def cm5:Adv:=⟨61,[[0],[0,5,6],[0,5,6,18],[2,3,4],[0,7],[0,7,8],[0,7,8,30],[0,7,8],[0,7,8,9],[0,7,8,11],[0,7,8,11,46],[2,3,4],[0,7,54],[2,3,4],[2,3,4]],[],[]⟩
noncomputable def cm6:List (Ent U):=[cK5,au4,dB1,bl7]
noncomputable def dG1 (n:Nat):(List UInt8) × Unit→Option (((List aa0) × Int × Int × Unit) × Unit):=aa6 (U:=U) Tryz.prog cm6 cm5 n Tryz.f28 bu2
noncomputable def dG2:(List UInt8) × Unit→Option (((List aa0) × Int × Int × Unit) × Unit):=dG1 fuel
noncomputable def cA4:Ent U:=⟨28,bu2,dG2⟩
def bu3:Sig τ:=⟨[(false,aw2)],[ab4]⟩
def cm7:Adv:=⟨10,[[1],[1,4],[2],[2]],[],[]⟩
noncomputable def cm8:List (Ent U):=[]
noncomputable def dG3:ao3 × Unit→Option ((Int × Unit) × Unit):=aa6 (U:=U) Tryz.prog cm8 cm7 0 Tryz.f117 bu3
noncomputable def bb2:Ent U:=⟨117,bu3,dG3⟩
def ct7:Sig τ:=⟨[(false,aa3)],[ai9,ab4,ab9]⟩
def dl1:Adv:=⟨44,[[0],[0,5],[5,6],[5,6,14],[5,6,7],[5,6,7,8],[5,6,7,8],[5,6,7,8],[5,6,7,8,9],[5,6,7,8],[5,6,7,8,36],[2,3,4],[5,6],[5,42],[5,6],[2,3,4]],[38],[]⟩
noncomputable def dl2:List (Ent U):=[am9,bb2,ap2,an5]
noncomputable def eq8 (n:Nat):(List UInt8) × Unit→Option (((List aa8) × Int × Int × Unit) × Unit):=aa6 (U:=U) Tryz.prog dl2 dl1 n Tryz.f142 ct7
noncomputable def eq9:(List UInt8) × Unit→Option (((List aa8) × Int × Int × Unit) × Unit):=eq8 fuel
noncomputable def bB1:Ent U:=⟨142,ct7,eq9⟩
def cg6:Sig τ:=⟨[(false,aa3)],[ab2,ab4,ab9]⟩
def cZ2:Adv:=⟨84,[[0,2],[0,2,13],[2,3,4],[0,2,23],[2,3,4],[0,2,5,6,7],[0,2,5,6,7,33],[2,3,4],[0,2,8],[2,8,10],[2,8,10],[2,8,10],[2,8,10],[2,8,10],[2,8],[2,3,4]],[],[]⟩
noncomputable def cZ3:List (Ent U):=[bB1,am9,an5,ap2]
noncomputable def ei9:(List UInt8) × Unit→Option ((aa0 × Int × Int × Unit) × Unit):=aa6 (U:=U) Tryz.prog cZ3 cZ2 0 Tryz.f104 cg6
noncomputable def dl3:Ent U:=⟨104,cg6,ei9⟩
def cg7:Sig τ:=⟨[(false,aa3)],[ab2,ab4,ab9]⟩
def cZ4:Adv:=⟨93,[[0,2],[0,2,12],[2,3,4],[0,2,19],[2,3,4],[0,2,28],[2,3,4],[0,2,5],[0,2,5,7],[0,2,5,7,46,47],[0,2,5,7,46,47,48],[0,2,5,7,8,46,47],[0,2,5,7,8,46,47],[0,2,5,7,8,46,47],[0,2,5,7,46,47],[0,2,5,7,46,47],[0,2,5,7,69],[2,3,4],[2,5,7,9,10,11],[2,5,7,9,10,11,83],[2,3,4],[2,5],[2,3,4]],[62],[]⟩
noncomputable def cZ5:List (Ent U):=[am9,an5,ap2,bB1]
noncomputable def ej0 (n:Nat):(List UInt8) × Unit→Option ((aa0 × Int × Int × Unit) × Unit):=aa6 (U:=U) Tryz.prog cZ5 cZ4 n Tryz.f105 cg7
noncomputable def ej1:(List UInt8) × Unit→Option ((aa0 × Int × Int × Unit) × Unit):=ej0 fuel
noncomputable def dl4:Ent U:=⟨105,cg7,ej1⟩
def cg8:Sig τ:=⟨[(false,aa3)],[ab2,ab4,ab9]⟩
def cZ6:Adv:=⟨33,[[0,2],[0,2,10],[2,3,4],[0,2,16],[2,3,4],[2,5,6,7],[2,5,6,7,26],[2,3,4],[2,3,4]],[],[]⟩
noncomputable def cZ7:List (Ent U):=[bB1]
noncomputable def ej2:(List UInt8) × Unit→Option ((aa0 × Int × Int × Unit) × Unit):=aa6 (U:=U) Tryz.prog cZ7 cZ6 0 Tryz.f143 cg8
noncomputable def dl5:Ent U:=⟨143,cg8,ej2⟩
def cg9:Sig τ:=⟨[(false,aa3)],[ab2,ab4,ab9]⟩
def cZ8:Adv:=⟨94,[[0,2],[0,2,17],[2,3,4],[0,2,25],[2,3,4],[0,2,36],[2,3,4],[0,2,5,6,7],[0,2,5,6,7,46],[2,3,4],[0,2,8],[2,8,10],[2,8,10],[2,8,10],[2,8,10],[2,8],[2,3,4]],[],[]⟩
noncomputable def cZ9:List (Ent U):=[dl5,bB1,am9,an5,ap2]
noncomputable def ej3:(List UInt8) × Unit→Option ((aa0 × Int × Int × Unit) × Unit):=aa6 (U:=U) Tryz.prog cZ9 cZ8 0 Tryz.f106 cg9
noncomputable def dl6:Ent U:=⟨106,cg9,ej3⟩
def ch0:Sig τ:=⟨[(false,aa3)],[ab2,ab4,ab9]⟩
def da0:Adv:=⟨26,[[0,2],[0,2,6],[0,2,6,7],[2,3,4],[0,2,14],[2,3,4],[2,3,4]],[],[]⟩
noncomputable def da1:List (Ent U):=[dl3,dl4,dl6]
noncomputable def ej4:(List UInt8) × Unit→Option ((aa0 × Int × Int × Unit) × Unit):=aa6 (U:=U) Tryz.prog da1 da0 0 Tryz.f72 ch0
noncomputable def dl7:Ent U:=⟨72,ch0,ej4⟩
def bG6:Sig τ:=⟨[(false,aa3)],[ae0,ab4,ab9]⟩
def cA5:Adv:=⟨37,[[0],[0,8],[2,3,4],[0,12],[2,3,4],[0,16],[2,3,4],[5,6,7],[5,6,7,32],[2,3,4],[2,3,4]],[],[]⟩
noncomputable def cA6:List (Ent U):=[dl7]
noncomputable def dP7:(List UInt8) × Unit→Option (((List aa0) × Int × Int × Unit) × Unit):=aa6 (U:=U) Tryz.prog cA6 cA5 0 Tryz.f31 bG6
noncomputable def cK7:Ent U:=⟨31,bG6,dP7⟩
def bG7:Sig τ:=⟨[(false,aa3)],[ab4]⟩
def cA7:Adv:=⟨11,[[0],[2]],[],[]⟩
noncomputable def cA8:List (Ent U):=[]
noncomputable def dP8:(List UInt8) × Unit→Option ((Int × Unit) × Unit):=aa6 (U:=U) Tryz.prog cA8 cA7 0 Tryz.f116 bG7
noncomputable def bS6:Ent U:=⟨116,bG7,dP8⟩
def bG8:Sig τ:=⟨[(false,aa3)],[aa3,ab4,ab9]⟩
def cA9:Adv:=⟨35,[[0],[0,5],[0,5,8],[2,3,4],[0,5,11],[2,3,4],[0,5,15],[2,3,4],[0,5,19],[2,3,4],[0,5,23],[2,3,4],[2,3,4]],[],[]⟩
noncomputable def cB0:List (Ent U):=[bS6]
noncomputable def dP9:(List UInt8) × Unit→Option (((List UInt8) × Int × Int × Unit) × Unit):=aa6 (U:=U) Tryz.prog cB0 cA9 0 Tryz.f79 bG8
noncomputable def cK8:Ent U:=⟨79,bG8,dP9⟩
def bG9:Sig τ:=⟨[(false,aw2)],[aw3,aw2]⟩
def cB1:Adv:=⟨34,[[1,2,3],[1,2,3,4],[1,2,3,4],[1,2,3,4,17],[2,3],[1,2,3,4,5],[1,2,3,4],[2,3]],[],[]⟩
noncomputable def cB2:List (Ent U):=[ap2,an5]
noncomputable def dQ0:ao3 × Unit→Option ((ak2 × ao3 × Unit) × Unit):=aa6 (U:=U) Tryz.prog cB2 cB1 0 Tryz.f118 bG9
noncomputable def cK9:Ent U:=⟨118,bG9,dQ0⟩
def bu4:Sig τ:=⟨[(false,aa3),(false,ab4)],[ck5,ab4,ab9]⟩
def cm9:Adv:=⟨37,[[0,1],[0,1,7],[1,7,8],[1,7,8,15],[1,7,8,9,10],[1,7,8,9,10],[1,7,8,9,10,27],[4,5,6],[1,7,8],[1,7,35],[1,7,8],[4,5,6]],[30],[]⟩
noncomputable def cn0:List (Ent U):=[am9,bb2,cK9]
noncomputable def dG4 (n:Nat):(List UInt8) × Int × Unit→Option (((List ak2) × Int × Int × Unit) × Unit):=aa6 (U:=U) Tryz.prog cn0 cm9 n Tryz.f80 bu4
noncomputable def dG5:(List UInt8) × Int × Unit→Option (((List ak2) × Int × Int × Unit) × Unit):=dG4 fuel
noncomputable def bH0:Ent U:=⟨80,bu4,dG5⟩
def bc8:Sig τ:=⟨[(false,aa3)],[aa3]⟩
def bS7:Adv:=⟨8,[[0],[2]],[],[]⟩
noncomputable def bS8:List (Ent U):=[bS6]
noncomputable def dl8:(List UInt8) × Unit→Option (((List UInt8) × Unit) × Unit):=aa6 (U:=U) Tryz.prog bS8 bS7 0 Tryz.f81 bc8
noncomputable def ca9:Ent U:=⟨81,bc8,dl8⟩
def ct8:Sig τ:=⟨[(false,aa3)],[ai9,ab5,ab9]⟩
def dl9:Adv:=⟨49,[[0],[5,7],[5,7,19],[2,3,4],[5,8],[5,8,9],[8,9,21,22,23],[8,9,21,22,23,24],[8,9,11,21,22,23],[8,9,11,21,22,23,27],[8,9,21,22,23],[8,9,11,21,22,23,31],[8,9,21,22,23],[8,9,21,22,23],[8,9,46],[2,3,4],[2,3,4]],[35],[]⟩
noncomputable def dm0:List (Ent U):=[bH0,bx8]
noncomputable def er0 (n:Nat):(List UInt8) × Unit→Option (((List aa8) × Bool × Int × Unit) × Unit):=aa6 (U:=U) Tryz.prog dm0 dl9 n Tryz.f180 ct8
noncomputable def er1:(List UInt8) × Unit→Option (((List aa8) × Bool × Int × Unit) × Unit):=er0 fuel
noncomputable def cb0:Ent U:=⟨180,ct8,er1⟩
def bH1:Sig τ:=⟨[(false,aa3),(false,ab4)],[ab5,ab9]⟩
def cB3:Adv:=⟨23,[[0,1],[0,1,12],[4,5],[7,8],[4,5]],[],[]⟩
noncomputable def cB4:List (Ent U):=[cb0]
noncomputable def dQ1:(List UInt8) × Int × Unit→Option ((Bool × Int × Unit) × Unit):=aa6 (U:=U) Tryz.prog cB4 cB3 0 Tryz.f198 bH1
noncomputable def bS9:Ent U:=⟨198,bH1,dQ1⟩
def aX4:Sig τ:=⟨[(true,az7),(false,aa3)],[ab9]⟩
def bJ0:Adv:=⟨20,[[0,1],[0,1,5,6],[0,1,6,12],[6],[4]],[],[]⟩
noncomputable def bJ1:List (Ent U):=[bS9]
noncomputable def dc9:ah1 × (List UInt8) × Unit→Option ((Int × Unit) × (ah1 × Unit)):=aa6 (U:=U) Tryz.prog bJ1 bJ0 0 Tryz.f175 aX4
noncomputable def bT0:Ent U:=⟨175,aX4,dc9⟩
def bT1:Sig τ:=⟨[(false,aa3)],[aa3,ab5]⟩
def cL0:Adv:=⟨9,[[0],[0,6],[2,3],[2,3]],[],[]⟩
noncomputable def cL1:List (Ent U):=[]
noncomputable def dZ4:(List UInt8) × Unit→Option (((List UInt8) × Bool × Unit) × Unit):=aa6 (U:=U) Tryz.prog cL1 cL0 0 Tryz.f199 bT1
noncomputable def aZ1:Ent U:=⟨199,bT1,dZ4⟩
def aS6:Sig τ:=⟨[(true,az7),(false,aa3)],[ab9]⟩
def bB2:Adv:=⟨53,[[0,1],[0,1,12],[4],[0,1,5],[0,1,5,21],[4],[0,1,5,6],[0,1,5,6,7,8],[0,1,5,6,8,33],[4],[0,5,9],[0,5,9,39],[0,5,9],[],[4]],[],[]⟩
noncomputable def bB3:List (Ent U):=[bS9,aZ1,aR9]
noncomputable def cU6:ah1 × (List UInt8) × Unit→Option ((Int × Unit) × (ah1 × Unit)):=aa6 (U:=U) Tryz.prog bB3 bB2 0 Tryz.f176 aS6
noncomputable def bJ2:Ent U:=⟨176,aS6,cU6⟩
def aO7:Sig τ:=⟨[(true,aU8),(false,ab4)],[ab4]⟩
def br0:Adv:=⟨21,[[0,1],[0,5,6],[5],[4]],[],[]⟩
noncomputable def br1:List (Ent U):=[ap2]
noncomputable def cL2:al6 × Int × Unit→Option ((Int × Unit) × (al6 × Unit)):=aa6 (U:=U) Tryz.prog br1 br0 0 Tryz.f181 aO7
noncomputable def aS7:Ent U:=⟨181,aO7,cL2⟩
def aJ6:Sig τ:=⟨[(true,aU8),(false,ab4)],[aa3]⟩
def bl8:Adv:=⟨21,[[0,1],[0,5,6],[5],[4]],[],[]⟩
noncomputable def bl9:List (Ent U):=[an5]
noncomputable def cD8:al6 × Int × Unit→Option (((List UInt8) × Unit) × (al6 × Unit)):=aa6 (U:=U) Tryz.prog bl9 bl8 0 Tryz.f182 aJ6
noncomputable def ay8:Ent U:=⟨182,aJ6,cD8⟩
def aD1:Sig τ:=⟨[(true,aU8),(false,ab4),(false,ab4),(false,ab4)],[aa3,ab9]⟩
def aZ2:Adv:=⟨46,[[0,1,2,3],[0,2,3,10],[0,2,10,11],[0,11,36],[8,9],[0,12],[12,44],[8,9],[8,9]],[],[]⟩
noncomputable def aZ3:List (Ent U):=[aG2,bt7,ay8]
noncomputable def cn1:al6 × Int × Int × Int × Unit→Option (((List UInt8) × Int × Unit) × (al6 × Unit)):=aa6 (U:=U) Tryz.prog aZ3 aZ2 0 Tryz.f183 aD1
noncomputable def aG8:Ent U:=⟨183,aD1,cn1⟩
def aJ7:Sig τ:=⟨[(true,aU8)],[ai9,ab5,ab9]⟩
def bm0:Adv:=⟨16,[[0],[2,3,4]],[],[]⟩
noncomputable def bm1:List (Ent U):=[bb2,ay8,cb0]
noncomputable def cD9:al6 × Unit→Option (((List aa8) × Bool × Int × Unit) × (al6 × Unit)):=aa6 (U:=U) Tryz.prog bm1 bm0 0 Tryz.f184 aJ7
noncomputable def aO8:Ent U:=⟨184,aJ7,cD9⟩
def bH2:Sig τ:=⟨[(false,aw3)],[bZ2,ab5,ab9]⟩
def cB5:Adv:=⟨93,[[1,2],[2,5],[2,5,6],[2,5,6,24,25,26],[2,5,6,24,25,26,27],[2,5,6,8,24,25,26],[2,5,6,24,25,26],[2,5,6,24,25,26],[2,5,6,38,39,40],[2,5,6,38,39,40,41],[2,5,6,10,38,39,40],[2,5,6,38,39,40],[2,5,6,38,39,40],[2,5,6,49],[2,3,4],[2,5,6,56],[2,3,4],[2,5,6,11,12],[2,5,6,11,12,73],[2,3,4],[2,6,11,12,13,14],[2,6,11,12,13,14,83],[2,3,4],[2,6,14],[2,6,90],[2,6],[2,3,4]],[],[]⟩
noncomputable def cB6:List (Ent U):=[am9,aS7,aG8,aO8]
noncomputable def dQ2 (n:Nat):ak2 × Unit→Option ((aR0 × Bool × Int × Unit) × Unit):=aa6 (U:=U) Tryz.prog cB6 cB5 n Tryz.f200 bH2
noncomputable def dQ3:ak2 × Unit→Option ((aR0 × Bool × Int × Unit) × Unit):=dQ2 fuel
noncomputable def cL3:Ent U:=⟨200,bH2,dQ3⟩
def bu5:Sig τ:=⟨[(false,aa3),(false,ab4)],[aa3]⟩
def cn2:Adv:=⟨18,[[0,1],[0,1,9],[4],[0,5],[5],[4]],[],[]⟩
noncomputable def cn3:List (Ent U):=[]
noncomputable def dG6:(List UInt8) × Int × Unit→Option (((List UInt8) × Unit) × Unit):=aa6 (U:=U) Tryz.prog cn3 cn2 0 Tryz.f205 bu5
noncomputable def bH3:Ent U:=⟨205,bu5,dG6⟩
def aD2:Sig τ:=⟨[(true,az7),(false,bZ2)],[aa3,ab5]⟩
def aZ4:Adv:=⟨56,[[0,3],[0,3,6,7],[0,3,6,7,16],[0,3,6,7],[3,6,7,8],[3,6,7,8,27],[3,6,7,8],[3,6,7,8,29],[4,5],[3,6,7,8],[3,7,9],[3,9,46],[3,9],[4,5]],[],[]⟩
noncomputable def aZ5:List (Ent U):=[bH3,aZ1,aY3]
noncomputable def cn4:ah1 × aR0 × Unit→Option (((List UInt8) × Bool × Unit) × (ah1 × Unit)):=aa6 (U:=U) Tryz.prog aZ5 aZ4 0 Tryz.f201 aD2
noncomputable def bg0:Ent U:=⟨201,aD2,cn4⟩
def aJ8:Sig τ:=⟨[(true,az7),(false,bZ2),(false,aa3)],[]⟩
def bm2:Adv:=⟨38,[[0,2,4],[0,2,4,9],[0,2,4,13],[0,2,4],[0,2,25],[0,6],[]],[],[]⟩
noncomputable def bm3:List (Ent U):=[au4]
noncomputable def cE0:ah1 × aR0 × (List UInt8) × Unit→Option ((Unit) × (ah1 × Unit)):=aa6 (U:=U) Tryz.prog bm3 bm2 0 Tryz.f202 aJ8
noncomputable def br2:Ent U:=⟨202,aJ8,cE0⟩
def aO9:Sig τ:=⟨[(true,az7),(false,bZ2)],[ab5]⟩
def br3:Adv:=⟨26,[[0,3],[4]],[],[]⟩
noncomputable def br4:List (Ent U):=[]
noncomputable def cL4:ah1 × aR0 × Unit→Option ((Bool × Unit) × (ah1 × Unit)):=aa6 (U:=U) Tryz.prog br4 br3 0 Tryz.f203 aO9
noncomputable def bB4:Ent U:=⟨203,aO9,cL4⟩
def aG9:Sig τ:=⟨[(true,az7),(false,aw3)],[ae0,ab9]⟩
def bg1:Adv:=⟨71,[[0,3],[0,6,7,8],[0,6,8,18],[4,5],[0,6,7,9],[0,6,9,27],[4,5],[0,6,9],[0,6,9,35],[4,5],[0,10],[0,10,52],[10],[4,5]],[],[]⟩
noncomputable def bg2:List (Ent U):=[cL3,bg0,br2,bB4,aR9]
noncomputable def ct9:ah1 × ak2 × Unit→Option (((List aa0) × Int × Unit) × (ah1 × Unit)):=aa6 (U:=U) Tryz.prog bg2 bg1 0 Tryz.f177 aG9
noncomputable def bm4:Ent U:=⟨177,aG9,ct9⟩
def ch1:Sig τ:=⟨[(false,aR2),(false,aw3)],[aR2,ae0,ab9]⟩
def da2:Adv:=⟨41,[[2,3,4],[3,4,7],[3,4,7,8],[3,4,7,8,9],[3,4,7,8,9,14],[3,4,7,8,9,14,15],[4,7,8,9],[3,4,7,8,9,14,21],[4,7,8,9],[3,4,7,8,9,27],[4,7,8,9],[4,5,6]],[],[]⟩
noncomputable def da3:List (Ent U):=[bT0,bJ2,bm4]
noncomputable def ej5:af0 × ak2 × Unit→Option ((af0 × (List aa0) × Int × Unit) × Unit):=aa6 (U:=U) Tryz.prog da3 da2 0 Tryz.f146 ch1
noncomputable def dm1:Ent U:=⟨146,ch1,ej5⟩
def aP0:Sig τ:=⟨[(true,ck7)],[ab4]⟩
def br5:Adv:=⟨18,[[0],[0,3,4],[3],[2]],[],[]⟩
noncomputable def br6:List (Ent U):=[ap2]
noncomputable def cL5:aF7 × Unit→Option ((Int × Unit) × (aF7 × Unit)):=aa6 (U:=U) Tryz.prog br6 br5 0 Tryz.f178 aP0
noncomputable def bB5:Ent U:=⟨178,aP0,cL5⟩
def aJ9:Sig τ:=⟨[(true,ck7),(false,ab4)],[aa3]⟩
def bm5:Adv:=⟨36,[[0,1],[0,1,5,6],[1,5],[1,5,7,8],[5,7,33],[4],[4]],[],[]⟩
noncomputable def bm6:List (Ent U):=[an5,aZ1]
noncomputable def cE1:aF7 × Int × Unit→Option (((List UInt8) × Unit) × (aF7 × Unit)):=aa6 (U:=U) Tryz.prog bm6 bm5 0 Tryz.f179 aJ9
noncomputable def br7:Ent U:=⟨179,aJ9,cE1⟩
def bT2:Sig τ:=⟨[(false,aw3)],[ab2,ab5,ab9]⟩
def cL6:Adv:=⟨103,[[1,2],[1,2,5],[1,2,5,6],[1,2,5,6,21],[1,2,5,6,21,22],[1,2,5,6],[1,2,5,6],[1,2,5,6,21,32],[1,2,5,6],[1,2,5,6,21,37],[1,2,5,6],[1,2,5,6,49],[1,2,5,6],[1,2,5,6,63],[1,2,5,6],[1,2,5,6,73],[2,3,4],[1,2,5,6,77],[2,3,4],[2,6,7,8,9],[2,6,7,9,97],[2,3,4],[2,6],[2,3,4]],[],[]⟩
noncomputable def cL7:List (Ent U):=[am9,bB5,cb0,br7]
noncomputable def dZ5:ak2 × Unit→Option ((aa0 × Bool × Int × Unit) × Unit):=aa6 (U:=U) Tryz.prog cL7 cL6 0 Tryz.f147 bT2
noncomputable def da4:Ent U:=⟨147,bT2,dZ5⟩
def bu6:Sig τ:=⟨[(false,ab4),(false,aa3),(false,ab4)],[aa3]⟩
def cn5:Adv:=⟨29,[[0,1,2],[0,1,2,7],[0,2,8],[2,8,20],[2,8],[6]],[],[]⟩
noncomputable def cn6:List (Ent U):=[aG2,bH3,aZ1,aY3]
noncomputable def dG7:Int × (List UInt8) × Int × Unit→Option (((List UInt8) × Unit) × Unit):=aa6 (U:=U) Tryz.prog cn6 cn5 0 Tryz.f185 bu6
noncomputable def cB7:Ent U:=⟨185,bu6,dG7⟩
def bT3:Sig τ:=⟨[(false,aw3)],[ab2,ab5,ab9]⟩
def cL8:Adv:=⟨102,[[1,2],[1,2,5],[1,2,5,6],[1,2,5,6],[1,2,5,6,25],[1,2,5,6],[1,2,5,6],[1,2,5,6],[1,2,5,6],[1,2,5,6,38],[2,3,4],[1,2,5,6,45],[2,3,4],[1,2,5,6,7,8],[1,2,5,6,7,8,60],[2,3,4],[1,2,6,7,8,9,10],[2,6,7,8,9,89],[2,3,4],[2,6],[2,3,4]],[],[]⟩
noncomputable def cL9:List (Ent U):=[am9,aS7,ay8,aG8,aO8,cB7]
noncomputable def dZ6:ak2 × Unit→Option ((aa0 × Bool × Int × Unit) × Unit):=aa6 (U:=U) Tryz.prog cL9 cL8 0 Tryz.f148 bT3
noncomputable def da5:Ent U:=⟨148,bT3,dZ6⟩
def bH4:Sig τ:=⟨[(false,aR2),(false,aw3)],[aR2,ae0,ab9]⟩
def cB8:Adv:=⟨62,[[2,3,4],[2,3,4,7],[2,3,4,7],[2,3,4,7,9],[2,3,4,7,9,11],[2,4,7,8,9],[2,3,4,7,9,11,17],[2,3,4,7,9,11,17],[4,5,6],[2,3,4,7,9,11,21],[2,3,4,7,9,11,21],[2,3,4,7,9,11,21],[4,5,6],[2,3,4,7,9,11,31],[2,3,4,7,9,11,31],[2,3,4,7,9,11,31],[2,3,4,7,9,11,31],[2,4,7,8,9],[2,3,4,7,9,11,42],[2,3,4,7,9,42],[2,4,7,8,9],[2,4,7,9,56],[4,5,6],[4,5,6]],[],[999999]⟩
noncomputable def cB9:List (Ent U):=[dm1,da4,da5]
noncomputable def dQ4:af0 × ak2 × Unit→Option ((af0 × (List aa0) × Int × Unit) × Unit):=aa6 (U:=U) Tryz.prog cB9 cB8 0 Tryz.f119 bH4
noncomputable def cM0:Ent U:=⟨119,bH4,dQ4⟩
def bu7:Sig τ:=⟨[(false,ck5)],[ae0,aR2,ab4,ab9]⟩
def cn7:Adv:=⟨43,[[0,3],[0,3,6],[0,3,6,7],[0,3,6,7,13,14],[0,3,6,7,13,14,15],[0,3,6,7,8,13,14],[0,3,6,7,8,9,10,11,13,14],[0,3,6,7,8,9,10,11,13,14,28],[2,3,4,5],[0,3,6,7,10,13,14],[0,3,6,7,13,14],[0,3,6,7,13,14],[2,3,4,5]],[37],[]⟩
noncomputable def cn8:List (Ent U):=[cM0]
noncomputable def dG8 (n:Nat):(List ak2) × Unit→Option (((List aa0) × af0 × Int × Int × Unit) × Unit):=aa6 (U:=U) Tryz.prog cn8 cn7 n Tryz.f82 bu7
noncomputable def dG9:(List ak2) × Unit→Option (((List aa0) × af0 × Int × Int × Unit) × Unit):=dG8 fuel
noncomputable def cC0:Ent U:=⟨82,bu7,dG9⟩
def bm7:Sig τ:=⟨[(false,aa3)],[ae0,ab4,ab9]⟩
def cb1:Adv:=⟨55,[[0],[0,5,6,7],[0,5,6,7,18],[2,3,4],[0,5,6,7,8],[0,5,6,7,8,28],[2,3,4],[6,7,8],[6,7,8,42],[2,3,4],[6,7,9],[2,3,4]],[],[]⟩
noncomputable def cb2:List (Ent U):=[cK8,bH0,ca9,cC0]
noncomputable def dt6:(List UInt8) × Unit→Option (((List aa0) × Int × Int × Unit) × Unit):=aa6 (U:=U) Tryz.prog cb2 cb1 0 Tryz.f34 bm7
noncomputable def cn9:Ent U:=⟨34,bm7,dt6⟩
def aH0:Sig τ:=⟨[(false,ab4),(false,aa3)],[ae0,ab4,ab9]⟩
def bu8:Adv:=⟨23,[[0,1],[1,7,8],[1,7,15],[4,5,6],[4,5,6]],[],[]⟩
noncomputable def bu9:List (Ent U):=[cZ1,cA4,cK7,cn9]
noncomputable def aP9:Tab U:=inl Tryz.prog 12 (tab bu9) cY4 0 Tryz.f12 (tab bu9)
noncomputable def dH0:Int × (List UInt8) × Unit→Option (((List aa0) × Int × Int × Unit) × Unit):=dj2 (U:=U) Tryz.prog aP9 bu8 0 Tryz.f10 aH0
noncomputable def cC1:Ent U:=⟨10,aH0,dH0⟩
def bv0:Sig τ:=⟨[(false,bZ1),(false,bZ1)],[ab5]⟩
def co0:Adv:=⟨26,[[0,1],[0,1,10],[4],[0,1,5],[0,1,5,14],[0,1,5],[0,1,5,25],[4],[4]],[],[]⟩
noncomputable def co1:List (Ent U):=[]
noncomputable def dH1 (n:Nat):(List ac1) × (List ac1) × Unit→Option ((Bool × Unit) × Unit):=aa6 (U:=U) Tryz.prog co1 co0 n Tryz.f50 bv0
noncomputable def dH2:(List ac1) × (List ac1) × Unit→Option ((Bool × Unit) × Unit):=dH1 fuel
noncomputable def cC2:Ent U:=⟨50,bv0,dH2⟩
def bH5:Sig τ:=⟨[(false,ai9),(false,ai9)],[ab5]⟩
def cC3:Adv:=⟨26,[[0,1],[0,1,10],[4],[0,1,5],[0,1,5,14],[0,1,5],[0,1,5,25],[4],[4]],[],[]⟩
noncomputable def cC4:List (Ent U):=[]
noncomputable def dQ5 (n:Nat):(List aa8) × (List aa8) × Unit→Option ((Bool × Unit) × Unit):=aa6 (U:=U) Tryz.prog cC4 cC3 n Tryz.f51 bH5
noncomputable def dQ6:(List aa8) × (List aa8) × Unit→Option ((Bool × Unit) × Unit):=dQ5 fuel
noncomputable def cM1:Ent U:=⟨51,bH5,dQ6⟩
def bH6:Sig τ:=⟨[(false,ab2),(false,ab2)],[ab5]⟩
def cC5:Adv:=⟨174,[[2,3],[2,3,79],[4],[2,3,161],[4],[4]],[],[]⟩
noncomputable def cC6:List (Ent U):=[cC2,cM1]
noncomputable def dQ7:aa0 × aa0 × Unit→Option ((Bool × Unit) × Unit):=aa6 (U:=U) Tryz.prog cC6 cC5 0 Tryz.f23 bH6
noncomputable def cM2:Ent U:=⟨23,bH6,dQ7⟩
def bc9:Sig τ:=⟨[(false,ae0),(false,ae0)],[ab5]⟩
def bT4:Adv:=⟨27,[[0,1],[0,1,10],[4],[0,1,5],[0,1,5,14],[0,1,5],[0,1,5,26],[4],[4]],[],[]⟩
noncomputable def bT5:List (Ent U):=[cM2]
noncomputable def dm2 (n:Nat):(List aa0) × (List aa0) × Unit→Option ((Bool × Unit) × Unit):=aa6 (U:=U) Tryz.prog bT5 bT4 n Tryz.f11 bc9
noncomputable def dm3:(List aa0) × (List aa0) × Unit→Option ((Bool × Unit) × Unit):=dm2 fuel
noncomputable def cb3:Ent U:=⟨11,bc9,dm3⟩
def bT6:Sig τ:=⟨[],[ab5]⟩
def cM3:Adv:=⟨38,[[],[1],[1,2,4],[1,2,4,5,7],[0]],[],[999999]⟩
noncomputable def cM4:List (Ent U):=[bt9,cC1,cb3]
noncomputable def aN1:Unit→Option ((Bool × Unit) × Unit):=aa6 (U:=U) Tryz.prog cM4 cM3 0 Tryz.f5 bT6
noncomputable def da6:Ent U:=⟨5,bT6,aN1⟩
def bH7:Sig τ:=⟨[(false,ab2)],[aa3,ab5]⟩
noncomputable def bT7:aa0 × Unit→Option (((List UInt8) × Bool × Unit) × Unit):=aR5
noncomputable def bT8:Ent U:=⟨7,bH7,bT7⟩
def bT9:Sig τ:=⟨[(false,aa3)],[ab2,ab5]⟩
noncomputable def by3:(List UInt8) × Unit→Option ((aa0 × Bool × Unit) × Unit):=aY1
noncomputable def ch2:Ent U:=⟨8,bT9,by3⟩
def ar2:Sig τ:=⟨[(false,ck2),(false,ae0)],[ab5]⟩
def bd0:Adv:=⟨82,[[0,1],[0,1,20],[4],[1,5],[1,5,6,8],[1,5,6,34],[4],[1,5,6,9],[1,5,6,9,10],[1,5,6,9,10,39],[1,5,6,9,10],[1,5,6,9,10,11,12],[1,5,6,9,10,12,13,14],[1,5,6,9,10,13,60],[4],[1,5,6,9,10],[6,15,17],[4]],[61],[]⟩
noncomputable def bd1:List (Ent U):=[ck8,da6,bt9,bT8,ch2]
noncomputable def bm8 (n:Nat):Int × (List aa0) × Unit→Option ((Bool × Unit) × Unit):=aa6 (U:=U) Tryz.prog bd1 bd0 n Tryz.f3 ar2
noncomputable def bm9:Int × (List aa0) × Unit→Option ((Bool × Unit) × Unit):=bm8 fuel
noncomputable def dm4:Ent U:=⟨3,ar2,bm9⟩
noncomputable def dd0:=lp (tab bd1) bd0 Tryz.f3 0 ar2
noncomputable def au9 (n m:Nat) (a1:List aa0) (r3:((List UInt8) × Int × Int × Unit) × Unit) (x5:Int) (x9:List aa0) (x10:Int):Option ((Bool × Unit) × Unit):=
 dd0 n [.r,.r,.r,.r,.r,.r,.l,.r,.l,.at m] [(1,.one (.sl 33 a1 .ro)),(5,.one (.int .i64 x5)),(6,.one (.str r3.1.1)),(9,.one (.sl 33 x9 .app)),(10,.one (.int .i64 x10))]
def bH8:Sig τ:=⟨[],[dY7]⟩
def cC7:Adv:=⟨2,[[0],[0]],[],[999999]⟩
noncomputable def cC8:List (Ent U):=[]
noncomputable def bn0:Unit→Option ((aM5 × Unit) × Unit):=aa6 (U:=U) Tryz.prog cC8 cC7 0 Tryz.f38 bH8
noncomputable def bU0:Ent U:=⟨38,bH8,bn0⟩
def bU1:Sig τ:=⟨[(false,ab4)],[aa3]⟩
def cM5:Adv:=⟨12,[[0],[0,8],[2],[2]],[],[999999]⟩
noncomputable def cM6:List (Ent U):=[bU0]
noncomputable def ch3:Int × Unit→Option (((List UInt8) × Unit) × Unit):=aa6 (U:=U) Tryz.prog cM6 cM5 0 Tryz.f15 bU1
noncomputable def dZ7:Ent U:=⟨15,bU1,ch3⟩
def bn1:Sig τ:=⟨[(false,aa3)],[ab4]⟩
def bU2:Adv:=⟨15,[[0],[0,5,6],[0,5,6,7],[0,3,4,5,6],[0,3,5,6,12],[2],[0,5,6],[2]],[],[999999]⟩
noncomputable def bU3:List (Ent U):=[bU0]
noncomputable def ch4 (n:Nat):(List UInt8) × Unit→Option ((Int × Unit) × Unit):=aa6 (U:=U) Tryz.prog bU3 bU2 n Tryz.f20 bn1
noncomputable def da7:(List UInt8) × Unit→Option ((Int × Unit) × Unit):=ch4 fuel
noncomputable def dZ8:Ent U:=⟨20,bn1,da7⟩
noncomputable def dQ8:=lp (tab bU3) bU2 Tryz.f20 0 bn1
noncomputable def an6 (n m:Nat) (a0:List UInt8) (r1:(aM5 × Unit) × Unit) (x6:Int):Option ((Int × Unit) × Unit):=
 dQ8 n [.r,.l,.r,.l,.at m] [(0,.one (.str a0)),(5,.agg [.str r1.1.1.c0,.str r1.1.1.c1,.str r1.1.1.c2,.str r1.1.1.c3,.str r1.1.1.c4,.str r1.1.1.c5,.str r1.1.1.c6,.str r1.1.1.c7,.str r1.1.1.c8,.str r1.1.1.c9,.str r1.1.1.c10,.str r1.1.1.c11,.str r1.1.1.c12,.str r1.1.1.c13,.str r1.1.1.c14]),(6,.one (.int .i64 x6))]
def aV8:Sig τ:=⟨[(false,aa3)],[aa3]⟩
def bv1:Adv:=⟨29,[[0],[0,3],[3,11,12,13],[3,11,12,13,14],[3,5,11,12,13],[3,11,12,13],[3,11,12,13],[2]],[17],[999999]⟩
noncomputable def bv2:List (Ent U):=[]
noncomputable def bH9 (n:Nat):(List UInt8) × Unit→Option (((List UInt8) × Unit) × Unit):=aa6 (U:=U) Tryz.prog bv2 bv1 n Tryz.f41 aV8
noncomputable def cC9:(List UInt8) × Unit→Option (((List UInt8) × Unit) × Unit):=bH9 fuel
noncomputable def dH3:Ent U:=⟨41,aV8,cC9⟩
noncomputable def dt7:=lp (tab bv2) bv1 Tryz.f41 0 aV8
noncomputable def aQ0 (n m:Nat) (a0:List UInt8) (x3:List UInt8) (x13:Int):Option (((List UInt8) × Unit) × Unit):=
 dt7 n [.r,.r,.l,.r,.l,.at m] [(3,.one (.bs 5 x3 .app)),(11,.one (.bs 5 a0 .app)),(12,.one (.int .i64 (a0.length:Int))),(13,.one (.int .i64 x13))]
def bn2:Sig τ:=⟨[(false,aa3),(false,ck2)],[ab4]⟩
noncomputable def ay9:(List UInt8) × Int × Unit→Option ((Int × Unit) × Unit):=aq5
noncomputable def aP1:Ent U:=⟨91,bn2,ay9⟩
def bb3:Sig τ:=⟨[(false,aa3)],[aa3,ab5]⟩
def bI0:Adv:=⟨49,[[0],[0,11],[2,3],[0,4],[0,4,17,18],[0,4,17,18,19],[0,4,5,17,18],[0,4,5,6,7,17,18],[0,4,5,6,7,17,18,37],[2,3],[0,4,17,18],[0,4,17,18],[2,3]],[],[999999]⟩
noncomputable def bI1:List (Ent U):=[aP1]
noncomputable def bU4 (n:Nat):(List UInt8) × Unit→Option (((List UInt8) × Bool × Unit) × Unit):=aa6 (U:=U) Tryz.prog bI1 bI0 n Tryz.f46 bb3
noncomputable def bn3:(List UInt8) × Unit→Option (((List UInt8) × Bool × Unit) × Unit):=bU4 fuel
noncomputable def bU5:Ent U:=⟨46,bb3,bn3⟩
noncomputable def dH4:=lp (tab bI1) bI0 Tryz.f46 0 bb3
noncomputable def aV9 (n m:Nat) (a0:List UInt8) (x15:List UInt8) (x17:Int) (x18:Int):Option (((List UInt8) × Bool × Unit) × Unit):=
 dH4 n [.r,.r,.r,.l,.r,.l,.at m] [(0,.one (.str a0)),(4,.one (.sref 15)),(15,.bblk 5 x15 true),(17,.one (.int .i64 x17)),(18,.one (.int .i64 x18))]
def co2:Sig τ:=⟨[(false,aa3),(false,aa3)],[aa3,aa3,ab5]⟩
noncomputable def bb4:(List UInt8) × (List UInt8) × Unit→Option (((List UInt8) × (List UInt8) × Bool × Unit) × Unit):=aL6
noncomputable def bb5:Ent U:=⟨19,co2,bb4⟩
def co3:Sig τ:=⟨[(false,aa3)],[ab4,ab5]⟩
noncomputable def bb6:(List UInt8) × Unit→Option ((Int × Bool × Unit) × Unit):=aL7
noncomputable def bb7:Ent U:=⟨45,co3,bb6⟩
def bU6:Sig τ:=⟨[(false,aa3)],[aI5,ab5]⟩
def cM7:Adv:=⟨37,[[0,2],[2,4,5,6],[2,5,6,7,8],[2,6,7,8,9,10],[2,3]],[],[999999]⟩
noncomputable def cM8:List (Ent U):=[bb5,bU5,bb7]
noncomputable def ch5:(List UInt8) × Unit→Option ((ac1 × Bool × Unit) × Unit):=aa6 (U:=U) Tryz.prog cM8 cM7 0 Tryz.f48 bU6
noncomputable def dZ9:Ent U:=⟨48,bU6,ch5⟩
def ch6:Sig τ:=⟨[(false,aa3)],[aR1,ab5]⟩
def da8:Adv:=⟨37,[[0,2],[2,4,5,6],[2,5,6,7,8],[2,6,7,8,9,10],[2,3]],[],[999999]⟩
noncomputable def da9:List (Ent U):=[bb5,bb7,bU5]
noncomputable def cu0:(List UInt8) × Unit→Option ((aa8 × Bool × Unit) × Unit):=aa6 (U:=U) Tryz.prog da9 da8 0 Tryz.f49 ch6
noncomputable def ej6:Ent U:=⟨49,ch6,cu0⟩
end Go.VI
