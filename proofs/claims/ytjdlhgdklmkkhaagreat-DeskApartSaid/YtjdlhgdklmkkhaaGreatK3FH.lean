import Derived.Test.YtjdlhgdklmkkhaaGreatK3FTy
import Derived.Test.YtjdlhgdklmkkhaaGreatK3XM
set_option linter.unusedVariables false
set_option linter.unusedSimpArgs false
set_option maxRecDepth 1000000
set_option maxHeartbeats 4000000
namespace Go.VI
open Go Go.Proofs
def bp8:Sig τ:=⟨[(false,ac2)],[ab4]⟩
def ca9:Adv:=⟨81,[[1],[1,50],[2],[1,3],[1,3,55],[1,3],[1,3,65],[2],[1,4],[1,4,70],[1,4],[1,4,80],[2],[2]],[],[]⟩
noncomputable def cb0:List (Ent U):=[]
noncomputable def cr8 (n:Nat):aa0 × Unit→Option ((Bool × Unit) × Unit):=aa5 (U:=U) Tryz.prog cb0 ca9 n Tryz.f25 bp8
noncomputable def cr9:aa0 × Unit→Option ((Bool × Unit) × Unit):=cr8 fuel
noncomputable def di7:Ent U:=⟨25,bp8,cr9⟩
noncomputable def cT9:=lp (tab cb0) ca9 Tryz.f25 0 bp8
noncomputable def bh5 (n m:Nat) (a0:aa0) (x3:Int):Option ((Bool × Unit) × Unit):=
 cT9 n [.r,.r,.l,.r,.l,.at m] [(1,.box [.int .i64 a0.kind,.int .i64 a0.cmd,.int .i64 a0.ver,.str a0.auth,.int .i64 a0.family,.int .i64 a0.ae,.str a0.prefix_,.int .i64 a0.plen,.int .i64 a0.tag,.str a0.next,.int .i64 a0.metric,.str a0.id,.int .i64 a0.seq,.int .i64 a0.seq2,.int .i64 a0.interval,.int .i64 a0.flags,.int .i64 a0.hops,.int .i64 a0.nonce,.int .i64 a0.cost,.str a0.addr,.str a0.orig,.sl 94 a0.list .ro,.int .i64 a0.type_,.str a0.data,.sl 96 a0.subs .ro]),(3,.one (.int .i64 x3))]
noncomputable def bh6 (n m:Nat) (a0:aa0) (x4:Int):Option ((Bool × Unit) × Unit):=
 cT9 n [.r,.r,.r,.l,.r,.l,.at m] [(1,.box [.int .i64 a0.kind,.int .i64 a0.cmd,.int .i64 a0.ver,.str a0.auth,.int .i64 a0.family,.int .i64 a0.ae,.str a0.prefix_,.int .i64 a0.plen,.int .i64 a0.tag,.str a0.next,.int .i64 a0.metric,.str a0.id,.int .i64 a0.seq,.int .i64 a0.seq2,.int .i64 a0.interval,.int .i64 a0.flags,.int .i64 a0.hops,.int .i64 a0.nonce,.int .i64 a0.cost,.str a0.addr,.str a0.orig,.sl 94 a0.list .ro,.int .i64 a0.type_,.str a0.data,.sl 96 a0.subs .ro]),(4,.one (.int .i64 x4))]
def aT2:Sig τ:=⟨[(false,ad3),(false,ab0)],[ab4]⟩
def bp9:Adv:=⟨22,[[0,1],[0,9],[4],[0,5],[0,5,13],[0,5],[0,5,21],[4],[4]],[],[]⟩
noncomputable def bq0:List (Ent U):=[di7]
noncomputable def bA6 (n:Nat):(List aa0) × Int × Unit→Option ((Bool × Unit) × Unit):=aa5 (U:=U) Tryz.prog bq0 bp9 n Tryz.f14 aT2
noncomputable def bA7:(List aa0) × Int × Unit→Option ((Bool × Unit) × Unit):=bA6 fuel
noncomputable def cy8:Ent U:=⟨14,aT2,bA7⟩
noncomputable def dw2:=lp (tab bq0) bp9 Tryz.f14 0 aT2
noncomputable def aM4 (n m:Nat) (a0:List aa0) (x5:Int):Option ((Bool × Unit) × Unit):=
 dw2 n [.r,.r,.l,.r,.l,.at m] [(0,.one (.sl 77 a0 .ro)),(5,.one (.int .i64 x5))]
def bq1:Sig τ:=⟨[(false,bj9)],[ab4]⟩
def cb1:Adv:=⟨29,[[0],[0,6],[2],[0,3],[0,3,10],[0,3],[0,3,28],[2],[2]],[],[999999]⟩
noncomputable def cb2:List (Ent U):=[cy8]
noncomputable def cs1 (n:Nat):(List ae1) × Unit→Option ((Bool × Unit) × Unit):=aa5 (U:=U) Tryz.prog cb2 cb1 n Tryz.f7 bq1
noncomputable def cs3:(List ae1) × Unit→Option ((Bool × Unit) × Unit):=cs1 fuel
noncomputable def di8:Ent U:=⟨7,bq1,cs3⟩
noncomputable def ec5:=lp (tab cb2) cb1 Tryz.f7 0 bq1
noncomputable def bh7 (n m:Nat) (a0:List ae1) (x3:Int):Option ((Bool × Unit) × Unit):=
 ec5 n [.r,.r,.l,.r,.l,.at m] [(0,.one (.sl 39 a0 .ro)),(3,.one (.int .i64 x3))]
def dG7:Sig τ:=⟨[],[ab4]⟩
noncomputable def aP6:Unit→Option ((Bool × Unit) × Unit):=dU1
noncomputable def bM9:Ent U:=⟨8,dG7,aP6⟩
def ba4:Sig τ:=⟨[(false,cm7),(false,cm7)],[ab4]⟩
def bA8:Adv:=⟨26,[[0,1],[0,1,10],[4],[0,1,5],[0,1,5,14],[0,1,5],[0,1,5,25],[4],[4]],[],[]⟩
noncomputable def bA9:List (Ent U):=[]
noncomputable def bN0 (n:Nat):(List af5) × (List af5) × Unit→Option ((Bool × Unit) × Unit):=aa5 (U:=U) Tryz.prog bA9 bA8 n Tryz.f49 ba4
noncomputable def bN1:(List af5) × (List af5) × Unit→Option ((Bool × Unit) × Unit):=bN0 fuel
noncomputable def cL2:Ent U:=⟨49,ba4,bN1⟩
noncomputable def dG8:=lp (tab bA9) bA8 Tryz.f49 0 ba4
noncomputable def aT3 (n m:Nat) (a0:List af5) (a1:List af5) (x5:Int):Option ((Bool × Unit) × Unit):=
 dG8 n [.r,.r,.l,.r,.l,.at m] [(0,.one (.sl 94 a0 .ro)),(1,.one (.sl 94 a1 .ro)),(5,.one (.int .i64 x5))]
def bh8:Sig τ:=⟨[(false,ak1),(false,ak1)],[ab4]⟩
def bN2:Adv:=⟨26,[[0,1],[0,1,10],[4],[0,1,5],[0,1,5,14],[0,1,5],[0,1,5,25],[4],[4]],[],[]⟩
noncomputable def bN3:List (Ent U):=[]
noncomputable def cb3 (n:Nat):(List aa7) × (List aa7) × Unit→Option ((Bool × Unit) × Unit):=aa5 (U:=U) Tryz.prog bN3 bN2 n Tryz.f50 bh8
noncomputable def cb4:(List aa7) × (List aa7) × Unit→Option ((Bool × Unit) × Unit):=cb3 fuel
noncomputable def cU0:Ent U:=⟨50,bh8,cb4⟩
noncomputable def dU2:=lp (tab bN3) bN2 Tryz.f50 0 bh8
noncomputable def ba5 (n m:Nat) (a0:List aa7) (a1:List aa7) (x5:Int):Option ((Bool × Unit) × Unit):=
 dU2 n [.r,.r,.l,.r,.l,.at m] [(0,.one (.sl 96 a0 .ro)),(1,.one (.sl 96 a1 .ro)),(5,.one (.int .i64 x5))]
def bN4:Sig τ:=⟨[(false,ac2),(false,ac2)],[ab4]⟩
def cL3:Adv:=⟨174,[[2,3],[2,3,79],[4],[2,3,161],[4],[4]],[],[]⟩
noncomputable def cL4:List (Ent U):=[cL2,cU0]
noncomputable def bq2:aa0 × aa0 × Unit→Option ((Bool × Unit) × Unit):=aa5 (U:=U) Tryz.prog cL4 cL3 0 Tryz.f31 bN4
noncomputable def cU1:Ent U:=⟨31,bN4,bq2⟩
def aw9:Sig τ:=⟨[(true,cL1),(false,ab4),(false,ab4)],[ab4]⟩
noncomputable def ak4:ag5 × Bool × Bool × Unit→Option ((Bool × Unit) × (ag5 × Unit)):=ao3
noncomputable def ao4:Ent U:=⟨22,aw9,ak4⟩
def aV9:Sig τ:=⟨[(true,aQ6)],[ab4]⟩
def bI4:Adv:=⟨7,[[0],[2]],[],[999999]⟩
noncomputable def bI5:List (Ent U):=[ao4]
noncomputable def aG6:ab2 × Unit→Option ((Bool × Unit) × (ab2 × Unit)):=aa5 (U:=U) Tryz.prog bI5 bI4 0 Tryz.f10 aV9
noncomputable def bT7:Ent U:=⟨10,aV9,aG6⟩
def aW0:Sig τ:=⟨[(true,cL1)],[ab4]⟩
noncomputable def ar8:ag5 × Unit→Option ((Bool × Unit) × (ag5 × Unit)):=bd7
noncomputable def ar9:Ent U:=⟨28,aW0,ar8⟩
def cb5:Sig τ:=⟨[(false,ac2)],[ek3]⟩
def cU2:Adv:=⟨50,[[1,2],[2]],[],[]⟩
noncomputable def cU3:List (Ent U):=[]
noncomputable def cs4:aa0 × Unit→Option ((cr6 × Unit) × Unit):=aa5 (U:=U) Tryz.prog cU3 cU2 0 Tryz.f183 cb5
noncomputable def di9:Ent U:=⟨183,cb5,cs4⟩
def cs5:Sig τ:=⟨[(false,ac2)],[ab4]⟩
def dj0:Adv:=⟨116,[[1],[1,3],[1,3,4,5],[1,3,4,5,13],[2],[1,3,4,5,13,14],[1,3,4,5,13,14],[1,3,4],[1,3,4,25],[1,3,4],[1,3,4,5],[1,3,4,5,13,33],[1,3,4,5],[1,3,4,5,13,42],[1,3,4,5],[1,3,4,5,13,51],[1,3,4,5],[1,3,4,5,13,54],[1,3,4,5,13,56],[1,3,4,5],[1,3,4,5,13,60],[1,3,4,5],[1,3,4,5,13,63],[1,3,4,5],[1,3,4,5,13,68],[1,3,4,5],[1,3,4,5,13,74],[1,3,4,5],[1,3,4,5,13,84],[1,3,4,5],[1,3,4,5,13,89],[1,3,4,5],[1,3,4,97],[1,3,4],[1,3,4,5],[2]],[],[]⟩
noncomputable def dj1:List (Ent U):=[di9]
noncomputable def an0:aa0 × Unit→Option ((Bool × Unit) × Unit):=aa5 (U:=U) Tryz.prog dj1 dj0 0 Tryz.f121 cs5
noncomputable def at7:Ent U:=⟨121,cs5,an0⟩
def cs6:Sig τ:=⟨[(false,aa3)],[ab4]⟩
def dj2:Adv:=⟨6,[[0],[2]],[],[]⟩
noncomputable def dj3:List (Ent U):=[]
noncomputable def bW5:(List UInt8) × Unit→Option ((Bool × Unit) × Unit):=aa5 (U:=U) Tryz.prog dj3 dj2 0 Tryz.f122 cs6
noncomputable def dw3:Ent U:=⟨122,cs6,bW5⟩
def bh9:Sig τ:=⟨[(false,aa3)],[ab4]⟩
def bN5:Adv:=⟨15,[[0],[6,7,8],[6,7,8,9],[4,6,7,8],[6,7,8,13],[2],[6,7,8],[2]],[],[]⟩
noncomputable def bN6:List (Ent U):=[]
noncomputable def cb6 (n:Nat):(List UInt8) × Unit→Option ((Bool × Unit) × Unit):=aa5 (U:=U) Tryz.prog bN6 bN5 n Tryz.f123 bh9
noncomputable def ad4:(List UInt8) × Unit→Option ((Bool × Unit) × Unit):=cb6 fuel
noncomputable def aW1:Ent U:=⟨123,bh9,ad4⟩
noncomputable def dU3:=lp (tab bN6) bN5 Tryz.f123 0 bh9
noncomputable def ba6 (n m:Nat) (a0:List UInt8) (x8:Int):Option ((Bool × Unit) × Unit):=
 dU3 n [.r,.l,.r,.l,.at m] [(6,.one (.bs 5 a0 .app)),(7,.one (.int .i64 (a0.length:Int))),(8,.one (.int .i64 x8))]
def bN7:Sig τ:=⟨[(false,ab0),(false,ab0)],[ab4]⟩
def cL5:Adv:=⟨23,[[0,1],[4]],[],[]⟩
noncomputable def cL6:List (Ent U):=[]
noncomputable def ab1:Int × Int × Unit→Option ((Bool × Unit) × Unit):=aa5 (U:=U) Tryz.prog cL6 cL5 0 Tryz.f124 bN7
noncomputable def ak9:Ent U:=⟨124,bN7,ab1⟩
def cb7:Sig τ:=⟨[(false,aa3),(false,ab0)],[aa3]⟩
def cU4:Adv:=⟨40,[[0,1],[0,1,11],[4],[0,1,5],[0,1,5,17],[4],[0,1,5,6],[0,1,5,6],[5],[4]],[],[]⟩
noncomputable def cU5:List (Ent U):=[]
noncomputable def ao5:(List UInt8) × Int × Unit→Option (((List UInt8) × Unit) × Unit):=aa5 (U:=U) Tryz.prog cU5 cU4 0 Tryz.f242 cb7
noncomputable def bf3:Ent U:=⟨242,cb7,ao5⟩
def bN8:Sig τ:=⟨[(false,aa3),(false,ab0)],[ab4]⟩
def cL7:Adv:=⟨10,[[0,1],[4]],[],[]⟩
noncomputable def cL8:List (Ent U):=[bf3]
noncomputable def aJ0:(List UInt8) × Int × Unit→Option ((Bool × Unit) × Unit):=aa5 (U:=U) Tryz.prog cL8 cL7 0 Tryz.f184 bN8
noncomputable def cb8:Ent U:=⟨184,bN8,aJ0⟩
def bq3:Sig τ:=⟨[(false,aa3),(false,ab0)],[ab4]⟩
def cn0:Adv:=⟨29,[[0,1],[0,1,5],[4]],[],[]⟩
noncomputable def cn1:List (Ent U):=[cb8]
noncomputable def ag3:(List UInt8) × Int × Unit→Option ((Bool × Unit) × Unit):=aa5 (U:=U) Tryz.prog cn1 cn0 0 Tryz.f125 bq3
noncomputable def aJ1:Ent U:=⟨125,bq3,ag3⟩
def cb9:Sig τ:=⟨[(false,ac2)],[ab4]⟩
def cU6:Adv:=⟨129,[[1],[1,3],[2],[1,24],[2],[1,43],[2],[1,58],[2],[1,88],[2],[1,102],[2],[2]],[],[]⟩
noncomputable def cU7:List (Ent U):=[at7,dw3,aW1,ak9,aJ1]
noncomputable def aQ7:aa0 × Unit→Option ((Bool × Unit) × Unit):=aa5 (U:=U) Tryz.prog cU7 cU6 0 Tryz.f75 cb9
noncomputable def bF4:Ent U:=⟨75,cb9,aQ7⟩
def bB0:Sig τ:=⟨[(false,ab0)],[aa3]⟩
def cy9:Adv:=⟨7,[[0],[2]],[],[]⟩
noncomputable def cz0:List (Ent U):=[]
noncomputable def ah9:Int × Unit→Option (((List UInt8) × Unit) × Unit):=aa5 (U:=U) Tryz.prog cz0 cy9 0 Tryz.f133 bB0
noncomputable def aw3:Ent U:=⟨133,bB0,ah9⟩
def ao6:Sig τ:=⟨[(false,aa3),(false,aa3)],[ab4]⟩
def az4:Adv:=⟨18,[[0,1],[4]],[],[]⟩
noncomputable def az5:List (Ent U):=[]
noncomputable def ak8:(List UInt8) × (List UInt8) × Unit→Option ((Bool × Unit) × Unit):=aa5 (U:=U) Tryz.prog az5 az4 0 Tryz.f247 ao6
noncomputable def ap4:Ent U:=⟨247,ao6,ak8⟩
def aM5:Sig τ:=⟨[(false,aa3),(false,aa3)],[ab4]⟩
def bq4:Adv:=⟨8,[[0,1],[4]],[],[]⟩
noncomputable def bq5:List (Ent U):=[ap4]
noncomputable def aB9:(List UInt8) × (List UInt8) × Unit→Option ((Bool × Unit) × Unit):=aa5 (U:=U) Tryz.prog bq5 bq4 0 Tryz.f192 aM5
noncomputable def by0:Ent U:=⟨192,aM5,aB9⟩
def cc0:Sig τ:=⟨[(false,aa3)],[ab4]⟩
def cU8:Adv:=⟨10,[[0],[2]],[],[]⟩
noncomputable def cU9:List (Ent U):=[by0]
noncomputable def aq8:(List UInt8) × Unit→Option ((Bool × Unit) × Unit):=aa5 (U:=U) Tryz.prog cU9 cU8 0 Tryz.f134 cc0
noncomputable def aQ8:Ent U:=⟨134,cc0,aq8⟩
def bB1:Sig τ:=⟨[(false,ac2)],[ab4]⟩
def cz1:Adv:=⟨60,[[1],[1,3],[2],[1,28],[2],[2]],[],[]⟩
noncomputable def cz2:List (Ent U):=[at7,ak9,aJ1,aw3,aQ8]
noncomputable def aP7:aa0 × Unit→Option ((Bool × Unit) × Unit):=aa5 (U:=U) Tryz.prog cz2 cz1 0 Tryz.f78 bB1
noncomputable def bN9:Ent U:=⟨78,bB1,aP7⟩
def bF5:Sig τ:=⟨[(false,ak1),(false,ab0),(false,ab0)],[ab4]⟩
def cs7:Adv:=⟨32,[[0,1,2],[1,2,9,10,11],[1,2,9,10,11,12],[1,2,8,9,10,11],[1,2,9,10,11,30],[6],[1,2,9,10,11],[6]],[],[]⟩
noncomputable def cs8:List (Ent U):=[]
noncomputable def cF9 (n:Nat):(List aa7) × Int × Int × Unit→Option ((Bool × Unit) × Unit):=aa5 (U:=U) Tryz.prog cs8 cs7 n Tryz.f249 bF5
noncomputable def bW6:(List aa7) × Int × Int × Unit→Option ((Bool × Unit) × Unit):=cF9 fuel
noncomputable def cG0:Ent U:=⟨249,bF5,bW6⟩
noncomputable def ek4:=lp (tab cs8) cs7 Tryz.f249 0 bF5
noncomputable def bq6 (n m:Nat) (a1:Int) (a2:Int) (a0:List aa7) (x11:Int):Option ((Bool × Unit) × Unit):=
 ek4 n [.r,.l,.r,.l,.at m] [(1,.one (.int .i64 a1)),(2,.one (.int .i64 a2)),(9,.one (.sl 96 a0 .ro)),(10,.one (.int .i64 (a0.length:Int))),(11,.one (.int .i64 x11))]
def cc1:Sig τ:=⟨[(false,ak1)],[ab4]⟩
def cV0:Adv:=⟨5,[[0],[2]],[],[]⟩
noncomputable def cV1:List (Ent U):=[cG0]
noncomputable def aF2:(List aa7) × Unit→Option ((Bool × Unit) × Unit):=aa5 (U:=U) Tryz.prog cV1 cV0 0 Tryz.f195 cc1
noncomputable def bf4:Ent U:=⟨195,cc1,aF2⟩
def bi0:Sig τ:=⟨[(false,ac2)],[ab4]⟩
def bO0:Adv:=⟨59,[[1],[1,34],[2],[1,41,42,43],[1,41,42,43,44],[1,4,41,42,43],[1,41,42,43,49],[2],[1,41,42,43],[2]],[],[]⟩
noncomputable def bO1:List (Ent U):=[at7,ak9,bf4]
noncomputable def cc2 (n:Nat):aa0 × Unit→Option ((Bool × Unit) × Unit):=aa5 (U:=U) Tryz.prog bO1 bO0 n Tryz.f139 bi0
noncomputable def bq7:aa0 × Unit→Option ((Bool × Unit) × Unit):=cc2 fuel
noncomputable def cc3:Ent U:=⟨139,bi0,bq7⟩
noncomputable def dU4:=lp (tab bO1) bO0 Tryz.f139 0 bi0
noncomputable def ba7 (n m:Nat) (a0:aa0) (x41:List Int) (x42:Int) (x43:Int):Option ((Bool × Unit) × Unit):=
 dU4 n [.r,.r,.l,.r,.l,.at m] [(1,.box [.int .i64 a0.kind,.int .i64 a0.cmd,.int .i64 a0.ver,.str a0.auth,.int .i64 a0.family,.int .i64 a0.ae,.str a0.prefix_,.int .i64 a0.plen,.int .i64 a0.tag,.str a0.next,.int .i64 a0.metric,.str a0.id,.int .i64 a0.seq,.int .i64 a0.seq2,.int .i64 a0.interval,.int .i64 a0.flags,.int .i64 a0.hops,.int .i64 a0.nonce,.int .i64 a0.cost,.str a0.addr,.str a0.orig,.sl 94 a0.list .ro,.int .i64 a0.type_,.str a0.data,.sl 96 a0.subs .ro]),(41,.one (.sl 3 x41 .app)),(42,.one (.int .i64 x42)),(43,.one (.int .i64 x43))]
def bO2:Sig τ:=⟨[(false,ac2)],[ab4]⟩
def cL9:Adv:=⟨63,[[1],[1,11],[2],[1,13],[1,13,14],[2],[1,16],[2],[2]],[],[]⟩
noncomputable def cM0:List (Ent U):=[at7,bf4,ak9]
noncomputable def aW2:aa0 × Unit→Option ((Bool × Unit) × Unit):=aa5 (U:=U) Tryz.prog cM0 cL9 0 Tryz.f140 bO2
noncomputable def cc4:Ent U:=⟨140,bO2,aW2⟩
def bi1:Sig τ:=⟨[(false,ac2)],[ab4]⟩
def bO3:Adv:=⟨56,[[1],[1,34],[2],[1,36,37,38],[1,36,37,38,39],[1,4,36,37,38],[1,36,37,38,51],[2],[1,36,37,38],[2]],[],[]⟩
noncomputable def bO4:List (Ent U):=[at7,ak9,bf4]
noncomputable def cc5 (n:Nat):aa0 × Unit→Option ((Bool × Unit) × Unit):=aa5 (U:=U) Tryz.prog bO4 bO3 n Tryz.f141 bi1
noncomputable def bq8:aa0 × Unit→Option ((Bool × Unit) × Unit):=cc5 fuel
noncomputable def cc6:Ent U:=⟨141,bi1,bq8⟩
noncomputable def dU5:=lp (tab bO4) bO3 Tryz.f141 0 bi1
noncomputable def aA1 (n m:Nat) (a0:aa0) (x38:Int):Option ((Bool × Unit) × Unit):=
 dU5 n [.r,.r,.l,.r,.l,.at m] [(1,.box [.int .i64 a0.kind,.int .i64 a0.cmd,.int .i64 a0.ver,.str a0.auth,.int .i64 a0.family,.int .i64 a0.ae,.str a0.prefix_,.int .i64 a0.plen,.int .i64 a0.tag,.str a0.next,.int .i64 a0.metric,.str a0.id,.int .i64 a0.seq,.int .i64 a0.seq2,.int .i64 a0.interval,.int .i64 a0.flags,.int .i64 a0.hops,.int .i64 a0.nonce,.int .i64 a0.cost,.str a0.addr,.str a0.orig,.sl 94 a0.list .ro,.int .i64 a0.type_,.str a0.data,.sl 96 a0.subs .ro]),(36,.one (.sl 94 a0.list .ro)),(37,.one (.int .i64 (a0.list.length:Int))),(38,.one (.int .i64 x38))]
def bO5:Sig τ:=⟨[(false,ac2)],[ab4]⟩
def cM1:Adv:=⟨13,[[1],[2]],[],[]⟩
noncomputable def cM2:List (Ent U):=[cc3,cc4,cc6]
noncomputable def aW3:aa0 × Unit→Option ((Bool × Unit) × Unit):=aa5 (U:=U) Tryz.prog cM2 cM1 0 Tryz.f81 bO5
noncomputable def cc7:Ent U:=⟨81,bO5,aW3⟩
def bq9:Sig τ:=⟨[(false,ak1)],[ab0]⟩
def cc8:Adv:=⟨20,[[0],[0,3],[3,6,7,8],[3,6,7,8,9],[3,5,6,7,8],[3,6,7,8],[3,6,7,8],[2]],[],[]⟩
noncomputable def cc9:List (Ent U):=[]
noncomputable def cs9 (n:Nat):(List aa7) × Unit→Option ((Int × Unit) × Unit):=aa5 (U:=U) Tryz.prog cc9 cc8 n Tryz.f252 bq9
noncomputable def aQ9:(List aa7) × Unit→Option ((Int × Unit) × Unit):=cs9 fuel
noncomputable def bF6:Ent U:=⟨252,bq9,aQ9⟩
noncomputable def ec6:=lp (tab cc9) cc8 Tryz.f252 0 bq9
noncomputable def bi2 (n m:Nat) (a0:List aa7) (x3:Int) (x8:Int):Option ((Int × Unit) × Unit):=
 ec6 n [.r,.r,.l,.r,.l,.at m] [(3,.one (.int .i64 x3)),(6,.one (.sl 96 a0 .ro)),(7,.one (.int .i64 (a0.length:Int))),(8,.one (.int .i64 x8))]
def cd0:Sig τ:=⟨[(false,ak1)],[ab4]⟩
def cV2:Adv:=⟨10,[[0],[2]],[],[]⟩
noncomputable def cV3:List (Ent U):=[cG0,bF6]
noncomputable def aF3:(List aa7) × Unit→Option ((Bool × Unit) × Unit):=aa5 (U:=U) Tryz.prog cV3 cV2 0 Tryz.f202 cd0
noncomputable def bf5:Ent U:=⟨202,cd0,aF3⟩
def br0:Sig τ:=⟨[],[dw1]⟩
def cn2:Adv:=⟨6,[[0],[0]],[],[]⟩
noncomputable def cn3:List (Ent U):=[]
noncomputable def as9:Unit→Option ((bp7 × Unit) × Unit):=aa5 (U:=U) Tryz.prog cn3 cn2 0 Tryz.f253 br0
noncomputable def aJ2:Ent U:=⟨253,br0,as9⟩
def ct0:Sig τ:=⟨[(false,ab0),(false,aa3),(false,ab0)],[ab4]⟩
def dj4:Adv:=⟨47,[[0,1,2],[0,1,2,13],[6],[0,1,2,7],[6]],[],[]⟩
noncomputable def dj5:List (Ent U):=[aJ2,cb8,aQ8]
noncomputable def br1:Int × (List UInt8) × Int × Unit→Option ((Bool × Unit) × Unit):=aa5 (U:=U) Tryz.prog dj5 dj4 0 Tryz.f203 ct0
noncomputable def cG1:Ent U:=⟨203,ct0,br1⟩
def bB2:Sig τ:=⟨[(false,aa3)],[ab0]⟩
def cz3:Adv:=⟨9,[[0],[4],[4,5],[2],[7],[2],[2]],[],[]⟩
noncomputable def cz4:List (Ent U):=[]
noncomputable def aC9:(List UInt8) × Unit→Option ((Int × Unit) × Unit):=aa5 (U:=U) Tryz.prog cz4 cz3 0 Tryz.f205 bB2
noncomputable def bO6:Ent U:=⟨205,bB2,aC9⟩
def bO7:Sig τ:=⟨[(false,ab0)],[ab0]⟩
def cM3:Adv:=⟨9,[[0],[3],[3,4],[2],[3,6],[6],[2],[2]],[],[]⟩
noncomputable def cM4:List (Ent U):=[]
noncomputable def au2:Int × Unit→Option ((Int × Unit) × Unit):=aa5 (U:=U) Tryz.prog cM4 cM3 0 Tryz.f206 bO7
noncomputable def aW4:Ent U:=⟨206,bO7,au2⟩
def bO8:Sig τ:=⟨[(false,aa3),(false,ab4)],[ab4]⟩
def cM5:Adv:=⟨10,[[0,1],[4]],[],[]⟩
noncomputable def cM6:List (Ent U):=[]
noncomputable def br2:(List UInt8) × Bool × Unit→Option ((Bool × Unit) × Unit):=aa5 (U:=U) Tryz.prog cM6 cM5 0 Tryz.f204 bO8
noncomputable def cV4:Ent U:=⟨204,bO8,br2⟩
def cd1:Sig τ:=⟨[(false,ac2)],[ab4]⟩
def cV5:Adv:=⟨76,[[1],[1,3],[2],[1,28],[2],[1,45],[2],[2]],[],[]⟩
noncomputable def cV6:List (Ent U):=[at7,bf5,cG1,ak9,bO6,aW4,cV4]
noncomputable def bF7:aa0 × Unit→Option ((Bool × Unit) × Unit):=aa5 (U:=U) Tryz.prog cV6 cV5 0 Tryz.f146 cd1
noncomputable def dj6:Ent U:=⟨146,cd1,bF7⟩
def bB3:Sig τ:=⟨[(false,ac2)],[ab4]⟩
def cz5:Adv:=⟨52,[[1],[1,21],[2],[1,23],[1,23,24],[2],[1,26],[2],[2]],[],[]⟩
noncomputable def cz6:List (Ent U):=[at7,bf5,cG1,ak9]
noncomputable def aD0:aa0 × Unit→Option ((Bool × Unit) × Unit):=aa5 (U:=U) Tryz.prog cz6 cz5 0 Tryz.f147 bB3
noncomputable def bO9:Ent U:=⟨147,bB3,aD0⟩
def bk0:Sig τ:=⟨[(false,ab0),(false,aa3)],[ab4]⟩
def cd2:Adv:=⟨26,[[0,1],[0,1,5],[0,1,5,6],[4],[0,1,5,10],[4],[0,1,15],[4],[4]],[],[]⟩
noncomputable def cd3:List (Ent U):=[bO6,aQ8]
noncomputable def aD8:Int × (List UInt8) × Unit→Option ((Bool × Unit) × Unit):=aa5 (U:=U) Tryz.prog cd3 cd2 0 Tryz.f207 bk0
noncomputable def cn4:Ent U:=⟨207,bk0,aD8⟩
def ba8:Sig τ:=⟨[(false,ac2)],[ab4]⟩
def bB4:Adv:=⟨57,[[1],[1,13,14,15],[1,13,14,15,16],[1,4,13,14,15],[1,13,14,15,21],[2],[1,13,14,15],[1,31],[2],[1,33],[1,33,34],[1,33,34],[2],[1,37],[2],[2]],[],[]⟩
noncomputable def bB5:List (Ent U):=[ak9,at7,bf5,cn4]
noncomputable def bP0 (n:Nat):aa0 × Unit→Option ((Bool × Unit) × Unit):=aa5 (U:=U) Tryz.prog bB5 bB4 n Tryz.f148 ba8
noncomputable def aP8:aa0 × Unit→Option ((Bool × Unit) × Unit):=bP0 fuel
noncomputable def bP1:Ent U:=⟨148,ba8,aP8⟩
noncomputable def dG9:=lp (tab bB5) bB4 Tryz.f148 0 ba8
noncomputable def av2 (n m:Nat) (a0:aa0) (x13:List Int) (x14:Int) (x15:Int):Option ((Bool × Unit) × Unit):=
 dG9 n [.r,.l,.r,.l,.at m] [(1,.box [.int .i64 a0.kind,.int .i64 a0.cmd,.int .i64 a0.ver,.str a0.auth,.int .i64 a0.family,.int .i64 a0.ae,.str a0.prefix_,.int .i64 a0.plen,.int .i64 a0.tag,.str a0.next,.int .i64 a0.metric,.str a0.id,.int .i64 a0.seq,.int .i64 a0.seq2,.int .i64 a0.interval,.int .i64 a0.flags,.int .i64 a0.hops,.int .i64 a0.nonce,.int .i64 a0.cost,.str a0.addr,.str a0.orig,.sl 94 a0.list .ro,.int .i64 a0.type_,.str a0.data,.sl 96 a0.subs .ro]),(13,.one (.sl 3 x13 .app)),(14,.one (.int .i64 x14)),(15,.one (.int .i64 x15))]
def bP2:Sig τ:=⟨[(false,ac2)],[ab4]⟩
def cM7:Adv:=⟨36,[[1],[1,4],[1,4,5],[2],[1,4,9],[1,4,9],[2],[1,14],[2],[2]],[],[]⟩
noncomputable def cM8:List (Ent U):=[dj6,bO9,at7,bP1]
noncomputable def aJ3:aa0 × Unit→Option ((Bool × Unit) × Unit):=aa5 (U:=U) Tryz.prog cM8 cM7 0 Tryz.f84 bP2
noncomputable def br3:Ent U:=⟨84,bP2,aJ3⟩
def aJ4:Sig τ:=⟨[(false,ab0),(false,ac2)],[ab4]⟩
def bB6:Adv:=⟨19,[[0,3],[3,5,6],[4]],[],[]⟩
noncomputable def bB7:List (Ent U):=[bF4,bN9,cc7,br3]
def ct1:Adv:=⟨18,[[0,2],[2,4],[2,4,5],[2,3],[2,4,8],[2,3],[2,4,11],[2,3],[2,14],[2,3],[2,3]],[],[999999]⟩
noncomputable def aT4:Tab U:=inl Tryz.prog 44 (tab bB7) ct1 0 Tryz.f44 (tab bB7)
noncomputable def bi3:Int × aa0 × Unit→Option ((Bool × Unit) × Unit):=cF5 (U:=U) Tryz.prog aT4 bB6 0 Tryz.f87 aJ4
noncomputable def cM9:Ent U:=⟨87,aJ4,bi3⟩
def ct2:Sig τ:=⟨[(false,aa3)],[aa3,ab4]⟩
def dj7:Adv:=⟨9,[[0],[0,6],[2,3],[2,3]],[],[]⟩
noncomputable def dj8:List (Ent U):=[]
noncomputable def cG2:(List UInt8) × Unit→Option (((List UInt8) × Bool × Unit) × Unit):=aa5 (U:=U) Tryz.prog dj8 dj7 0 Tryz.f130 ct2
noncomputable def dw4:Ent U:=⟨130,ct2,cG2⟩
def br4:Sig τ:=⟨[(false,ac2),(false,ac2)],[ab4]⟩
def cn5:Adv:=⟨34,[[2,3],[4]],[],[]⟩
noncomputable def cn6:List (Ent U):=[]
noncomputable def ba9:aa0 × aa0 × Unit→Option ((Bool × Unit) × Unit):=aa5 (U:=U) Tryz.prog cn6 cn5 0 Tryz.f131 br4
noncomputable def cz7:Ent U:=⟨131,br4,ba9⟩
def cG3:Sig τ:=⟨[(false,ab0)],[aa3,ab4]⟩
def dw5:Adv:=⟨28,[[0],[0,10],[2,3],[4],[2,3]],[],[]⟩
noncomputable def dw6:List (Ent U):=[]
noncomputable def bm8:Int × Unit→Option (((List UInt8) × Bool × Unit) × Unit):=aa5 (U:=U) Tryz.prog dw6 dw5 0 Tryz.f190 cG3
noncomputable def cV7:Ent U:=⟨190,cG3,bm8⟩
def br5:Sig τ:=⟨[(false,ab0),(false,ab0)],[aa3,ab4]⟩
def cd4:Adv:=⟨29,[[0,1],[0,1,11],[4,5],[0,1,6],[0,6,7],[0,6,7,17],[0,6,7],[0,6,7],[0,6,7],[4,5]],[],[]⟩
noncomputable def cd5:List (Ent U):=[ak9]
noncomputable def bF8 (n:Nat):Int × Int × Unit→Option (((List UInt8) × Bool × Unit) × Unit):=aa5 (U:=U) Tryz.prog cd5 cd4 n Tryz.f201 br5
noncomputable def al5:Int × Int × Unit→Option (((List UInt8) × Bool × Unit) × Unit):=bF8 fuel
noncomputable def aR0:Ent U:=⟨201,br5,al5⟩
noncomputable def ec7:=lp (tab cd5) cd4 Tryz.f201 0 br5
noncomputable def aP9 (n m:Nat) (x0:Int) (x7:Int) (x13:List UInt8):Option (((List UInt8) × Bool × Unit) × Unit):=
 ec7 n [.r,.r,.r,.l,.r,.l,.at m] [(0,.one (.int .i64 x0)),(6,.one (.sref 13)),(7,.one (.int .i64 x7)),(13,.bblk 5 x13 true)]
def cd6:Sig τ:=⟨[(false,az1)],[aa3,ab4]⟩
def cV8:Adv:=⟨76,[[1],[1,43],[2,3],[1,4],[1,4,6],[1,4,6,8],[2,3]],[],[]⟩
noncomputable def cV9:List (Ent U):=[ak9,aR0]
noncomputable def aR1:ad7 × Unit→Option (((List UInt8) × Bool × Unit) × Unit):=aa5 (U:=U) Tryz.prog cV9 cV8 0 Tryz.f191 cd6
noncomputable def dj9:Ent U:=⟨191,cd6,aR1⟩
def ct3:Sig τ:=⟨[(false,ac2)],[aa3]⟩
def dk0:Adv:=⟨39,[[1],[1,3],[1,3,25],[3],[4],[2]],[],[]⟩
noncomputable def dk1:List (Ent U):=[aw3,cV7,dj9]
noncomputable def br6:aa0 × Unit→Option (((List UInt8) × Unit) × Unit):=aa5 (U:=U) Tryz.prog dk1 dk0 0 Tryz.f132 ct3
noncomputable def dw7:Ent U:=⟨132,ct3,br6⟩
def bi4:Sig τ:=⟨[(false,ad3)],[aa3,ab0,ab3]⟩
def bP3:Adv:=⟨84,[[0],[0,13,14,15],[0,13,14,15,16],[0,5,6,13,14,15],[0,5,13,14,15,22],[2,3,4],[0,13,14,15],[0,27],[2,3,4],[0,7],[0,7,8],[0,7,8,9,10],[0,7,8,9,47],[0,7,8],[0,7,8],[0,7,8,53,54,55],[0,7,8,53,54,55,56],[0,7,8,11,12,53,54,55],[0,7,8,11,12,53,54,55,60],[2,3,4],[0,7,8,11,12,53,54,55,65],[2,3,4],[0,7,8,53,54,55],[0,7,8,53,54,55],[2,3,4]],[48,77],[]⟩
noncomputable def bP4:List (Ent U):=[bF4,dw4,cz7,dw7]
noncomputable def cd7 (n:Nat):(List aa0) × Unit→Option (((List UInt8) × Int × Int × Unit) × Unit):=aa5 (U:=U) Tryz.prog bP4 bP3 n Tryz.f77 bi4
noncomputable def cd8:(List aa0) × Unit→Option (((List UInt8) × Int × Int × Unit) × Unit):=cd7 fuel
noncomputable def cW0:Ent U:=⟨77,bi4,cd8⟩
noncomputable def cN0:=lp (tab bP4) bP3 Tryz.f77 0 bi4
noncomputable def bb0 (n m:Nat) (a0:List aa0) (x15:Int):Option (((List UInt8) × Int × Int × Unit) × Unit):=
 cN0 n [.r,.l,.r,.l,.at m] [(0,.one (.sl 77 a0 .ro)),(13,.one (.sl 77 a0 .ro)),(14,.one (.int .i64 (a0.length:Int))),(15,.one (.int .i64 x15))]
noncomputable def aA2 (n m:Nat) (a0:List aa0) (x7:Int) (x8:List UInt8) (x55:Int):Option (((List UInt8) × Int × Int × Unit) × Unit):=
 cN0 n [.r,.r,.r,.r,.r,.r,.l,.r,.l,.at m] [(0,.one (.sl 77 a0 .ro)),(7,.one (.int .i64 x7)),(8,.one (.bs 5 x8 .app)),(53,.one (.sl 77 a0 .ro)),(54,.one (.int .i64 (a0.length:Int))),(55,.one (.int .i64 x55))]
def cG4:Sig τ:=⟨[(false,az1)],[aa3,ab4]⟩
def dw8:Adv:=⟨52,[[1],[1,33],[2,3],[2,3]],[],[]⟩
noncomputable def dw9:List (Ent U):=[ak9]
noncomputable def cn7:ad7 × Unit→Option (((List UInt8) × Bool × Unit) × Unit):=aa5 (U:=U) Tryz.prog dw9 dw8 0 Tryz.f248 cG4
noncomputable def dQ2:Ent U:=⟨248,cG4,cn7⟩
def aR7:Sig τ:=⟨[(true,cy5),(false,az1)],[]⟩
def by1:Adv:=⟨20,[[0,3],[0,4],[]],[15],[]⟩
noncomputable def by2:List (Ent U):=[dQ2]
noncomputable def ap7:al3 × ad7 × Unit→Option ((Unit) × (al3 × Unit)):=aa5 (U:=U) Tryz.prog by2 by1 0 Tryz.f194 aR7
noncomputable def bI6:Ent U:=⟨194,aR7,ap7⟩
def aJ5:Sig τ:=⟨[(true,cy5),(false,ac2)],[]⟩
def bm9:Adv:=⟨32,[[0,3],[0,3,10],[0,3],[0,3],[]],[],[]⟩
noncomputable def bn0:List (Ent U):=[bI6]
noncomputable def ax9:al3 × aa0 × Unit→Option ((Unit) × (al3 × Unit)):=aa5 (U:=U) Tryz.prog bn0 bm9 0 Tryz.f138 aJ5
noncomputable def br7:Ent U:=⟨138,aJ5,ax9⟩
def aT5:Sig τ:=⟨[(false,ad3)],[aa3,ab0,ab3]⟩
def br8:Adv:=⟨65,[[0],[0,10,11,12],[0,10,11,12,13],[0,5,6,10,11,12],[0,5,10,11,12,19],[2,3,4],[0,10,11,12],[0,24],[2,3,4],[0,7],[0,7,34,35,36],[0,7,34,35,36,37],[0,7,8,9,34,35,36],[0,7,8,9,34,35,36,47],[2,3,4],[0,7,8,34,35,36],[0,7,8,34,35,36,57],[2,3,4],[0,7,34,35,36],[2,3,4]],[],[]⟩
noncomputable def br9:List (Ent U):=[bN9,aw3,br7]
noncomputable def bB8 (n:Nat):(List aa0) × Unit→Option (((List UInt8) × Int × Int × Unit) × Unit):=aa5 (U:=U) Tryz.prog br9 br8 n Tryz.f80 aT5
noncomputable def bB9:(List aa0) × Unit→Option (((List UInt8) × Int × Int × Unit) × Unit):=bB8 fuel
noncomputable def cz8:Ent U:=⟨80,aT5,bB9⟩
noncomputable def cn8:=lp (tab br9) br8 Tryz.f80 0 aT5
noncomputable def aM6 (n m:Nat) (a0:List aa0) (x12:Int):Option (((List UInt8) × Int × Int × Unit) × Unit):=
 cn8 n [.r,.l,.r,.l,.at m] [(0,.one (.sl 77 a0 .ro)),(10,.one (.sl 77 a0 .ro)),(11,.one (.int .i64 (a0.length:Int))),(12,.one (.int .i64 x12))]
noncomputable def aM7 (n m:Nat) (a0:List aa0) (x33_0:List UInt8) (x33_1:List UInt8) (x36:Int):Option (((List UInt8) × Int × Int × Unit) × Unit):=
 cn8 n [.r,.r,.r,.r,.l,.r,.l,.at m] [(0,.one (.sl 77 a0 .ro)),(7,.one (.ref 33 0)),(33,.box [.bs 5 x33_0 .app,.str x33_1]),(34,.one (.sl 77 a0 .ro)),(35,.one (.int .i64 (a0.length:Int))),(36,.one (.int .i64 x36))]
def bW7:Sig τ:=⟨[(false,ak1)],[aa3,ab4]⟩
def cG5:Adv:=⟨36,[[0],[0,9],[2,3],[0,4],[4,13,14,15],[4,13,14,15,16],[4,6,13,14,15],[4,6,13,14,15],[4,13,14,15],[4,13,14,15],[2,3]],[19,29],[]⟩
noncomputable def cG6:List (Ent U):=[bf4,bF6]
noncomputable def cW1 (n:Nat):(List aa7) × Unit→Option (((List UInt8) × Bool × Unit) × Unit):=aa5 (U:=U) Tryz.prog cG6 cG5 n Tryz.f199 bW7
noncomputable def bI7:(List aa7) × Unit→Option (((List UInt8) × Bool × Unit) × Unit):=cW1 fuel
noncomputable def cn9:Ent U:=⟨199,bW7,bI7⟩
noncomputable def es1:=lp (tab cG6) cG5 Tryz.f199 0 bW7
noncomputable def bF9 (n m:Nat) (a0:List aa7) (x4:List UInt8) (x15:Int):Option (((List UInt8) × Bool × Unit) × Unit):=
 es1 n [.r,.r,.r,.l,.r,.l,.at m] [(4,.one (.bs 5 x4 .app)),(13,.one (.sl 96 a0 .ro)),(14,.one (.int .i64 (a0.length:Int))),(15,.one (.int .i64 x15))]
def cd9:Sig τ:=⟨[(false,ab0)],[aa3]⟩
def cW2:Adv:=⟨11,[[0],[3],[2]],[],[]⟩
noncomputable def cW3:List (Ent U):=[aR0]
noncomputable def aR2:Int × Unit→Option (((List UInt8) × Unit) × Unit):=aa5 (U:=U) Tryz.prog cW3 cW2 0 Tryz.f200 cd9
noncomputable def dk2:Ent U:=⟨200,cd9,aR2⟩
def ct4:Sig τ:=⟨[(false,ac2)],[aa3,ab4]⟩
def dk3:Adv:=⟨46,[[1],[1,9],[2,3],[1,4],[1,4,6],[2,3]],[],[]⟩
noncomputable def dk4:List (Ent U):=[cc3,cn9,dk2]
noncomputable def bW8:aa0 × Unit→Option (((List UInt8) × Bool × Unit) × Unit):=aa5 (U:=U) Tryz.prog dk4 dk3 0 Tryz.f143 ct4
noncomputable def dx0:Ent U:=⟨143,ct4,bW8⟩
def ct5:Sig τ:=⟨[(false,ac2)],[aa3,ab4]⟩
def dk5:Adv:=⟨60,[[1],[1,12],[2,3],[1,4],[1,4,21],[2,3],[1,4,6],[1,4,6,8],[2,3]],[],[]⟩
noncomputable def dk6:List (Ent U):=[cc4,cn9,aR0]
noncomputable def bW9:aa0 × Unit→Option (((List UInt8) × Bool × Unit) × Unit):=aa5 (U:=U) Tryz.prog dk6 dk5 0 Tryz.f144 ct5
noncomputable def dx1:Ent U:=⟨144,ct5,bW9⟩
def bG0:Sig τ:=⟨[(false,ac2)],[aa3,ab4]⟩
def ct6:Adv:=⟨54,[[1],[1,13],[2,3],[1,4],[1,4,24,25,26],[1,4,24,25,26,27],[1,4,6,24,25,26],[1,4,6,7,24,25,26],[1,4,7,24,25,26],[1,4,24,25,26],[1,4,24,25,26],[4,9],[2,3]],[36,40],[]⟩
noncomputable def ct7:List (Ent U):=[cc6,aR0,cn9]
noncomputable def cG7 (n:Nat):aa0 × Unit→Option (((List UInt8) × Bool × Unit) × Unit):=aa5 (U:=U) Tryz.prog ct7 ct6 n Tryz.f145 bG0
noncomputable def bX0:aa0 × Unit→Option (((List UInt8) × Bool × Unit) × Unit):=cG7 fuel
noncomputable def dx2:Ent U:=⟨145,bG0,bX0⟩
noncomputable def ek5:=lp (tab ct7) ct6 Tryz.f145 0 bG0
noncomputable def bs0 (n m:Nat) (a0:aa0) (x4:List UInt8) (x26:Int):Option (((List UInt8) × Bool × Unit) × Unit):=
 ek5 n [.r,.r,.r,.l,.r,.l,.at m] [(1,.box [.int .i64 a0.kind,.int .i64 a0.cmd,.int .i64 a0.ver,.str a0.auth,.int .i64 a0.family,.int .i64 a0.ae,.str a0.prefix_,.int .i64 a0.plen,.int .i64 a0.tag,.str a0.next,.int .i64 a0.metric,.str a0.id,.int .i64 a0.seq,.int .i64 a0.seq2,.int .i64 a0.interval,.int .i64 a0.flags,.int .i64 a0.hops,.int .i64 a0.nonce,.int .i64 a0.cost,.str a0.addr,.str a0.orig,.sl 94 a0.list .ro,.int .i64 a0.type_,.str a0.data,.sl 96 a0.subs .ro]),(4,.one (.bs 5 x4 .app)),(24,.one (.sl 94 a0.list .ro)),(25,.one (.int .i64 (a0.list.length:Int))),(26,.one (.int .i64 x26))]
def bb1:Sig τ:=⟨[(false,ad3)],[aa3,ab0,ab3]⟩
def bC0:Adv:=⟨56,[[0],[0,9,10],[0,9,10,11],[0,5,9,10],[0,5,9,10,18],[2,3,4],[0,9,10],[0,23],[2,3,4],[0,26],[2,3,4],[0,6,7],[0,6,7,35],[0,6,7],[0,6,44],[6],[6,54],[2,3,4],[2,3,4]],[],[]⟩
noncomputable def bC1:List (Ent U):=[cc7,dx0,dx1,dx2]
noncomputable def bP5 (n:Nat):(List aa0) × Unit→Option (((List UInt8) × Int × Int × Unit) × Unit):=aa5 (U:=U) Tryz.prog bC1 bC0 n Tryz.f83 bb1
noncomputable def bP6:(List aa0) × Unit→Option (((List UInt8) × Int × Int × Unit) × Unit):=bP5 fuel
noncomputable def cN1:Ent U:=⟨83,bb1,bP6⟩
noncomputable def dH0:=lp (tab bC1) bC0 Tryz.f83 0 bb1
noncomputable def aT6 (n m:Nat) (a0:List aa0) (x10:Int):Option (((List UInt8) × Int × Int × Unit) × Unit):=
 dH0 n [.r,.l,.r,.l,.at m] [(0,.one (.sl 77 a0 .ro)),(9,.one (.int .i64 (a0.length:Int))),(10,.one (.int .i64 x10))]
def ce0:Sig τ:=⟨[(false,ab0),(false,aa3)],[aa3,ab4]⟩
def cW4:Adv:=⟨26,[[0,1],[0,1,16],[4,5],[4,5]],[],[]⟩
noncomputable def cW5:List (Ent U):=[]
noncomputable def ah4:Int × (List UInt8) × Unit→Option (((List UInt8) × Bool × Unit) × Unit):=aa5 (U:=U) Tryz.prog cW5 cW4 0 Tryz.f258 ce0
noncomputable def aR3:Ent U:=⟨258,ce0,ah4⟩
def bX1:Sig τ:=⟨[(false,ak1)],[aa3,ab4]⟩
def cG8:Adv:=⟨32,[[0],[0,11],[2,3],[0,4],[4,12,13,14],[4,12,13,14,15],[4,6,12,13,14],[4,7,12,13,14],[4,12,13,14],[4,12,13,14],[2,3]],[26],[]⟩
noncomputable def cG9:List (Ent U):=[bf5,aR3]
noncomputable def cW6 (n:Nat):(List aa7) × Unit→Option (((List UInt8) × Bool × Unit) × Unit):=aa5 (U:=U) Tryz.prog cG9 cG8 n Tryz.f262 bX1
noncomputable def ar5:(List aa7) × Unit→Option (((List UInt8) × Bool × Unit) × Unit):=cW6 fuel
noncomputable def co0:Ent U:=⟨262,bX1,ar5⟩
noncomputable def es2:=lp (tab cG9) cG8 Tryz.f262 0 bX1
noncomputable def bG1 (n m:Nat) (a0:List aa7) (x4:List UInt8) (x14:Int):Option (((List UInt8) × Bool × Unit) × Unit):=
 es2 n [.r,.r,.r,.l,.r,.l,.at m] [(4,.one (.bs 5 x4 .app)),(12,.one (.sl 96 a0 .ro)),(13,.one (.int .i64 (a0.length:Int))),(14,.one (.int .i64 x14))]
def bs1:Sig τ:=⟨[(false,ab0)],[ab0]⟩
def co1:Adv:=⟨7,[[0],[2]],[],[]⟩
noncomputable def co2:List (Ent U):=[]
noncomputable def aJ6:Int × Unit→Option ((Int × Unit) × Unit):=aa5 (U:=U) Tryz.prog co2 co1 0 Tryz.f300 bs1
noncomputable def bC2:Ent U:=⟨300,bs1,aJ6⟩
def bP7:Sig τ:=⟨[(false,aa3),(false,ab0)],[aa3]⟩
def cN2:Adv:=⟨16,[[0,1],[1,5],[4]],[],[]⟩
noncomputable def cN3:List (Ent U):=[bC2,bf3]
noncomputable def aJ7:(List UInt8) × Int × Unit→Option (((List UInt8) × Unit) × Unit):=aa5 (U:=U) Tryz.prog cN3 cN2 0 Tryz.f290 bP7
noncomputable def ce1:Ent U:=⟨290,bP7,aJ7⟩
def ce2:Sig τ:=⟨[(false,ac2)],[aa3,ab4]⟩
def cW7:Adv:=⟨65,[[1],[1,10],[2,3],[1,4],[1,4,6],[1,4,6,7],[1,4,6,7,26],[1,4,6,7],[1,4,6,7],[1,4,6,7],[4,6,7],[2,3]],[27,40,44],[]⟩
noncomputable def cW8:List (Ent U):=[bO9,co0,ce1,aJ2,aR3]
noncomputable def bf6:aa0 × Unit→Option (((List UInt8) × Bool × Unit) × Unit):=aa5 (U:=U) Tryz.prog cW8 cW7 0 Tryz.f257 ce2
noncomputable def dk7:Ent U:=⟨257,ce2,bf6⟩
def aC0:Sig τ:=⟨[(true,dG6),(false,es0)],[]⟩
def aR8:Adv:=⟨27,[[0,6,7,8],[0,6,7,8,9],[0,5,6,7,8],[0,6,7,8],[0,6,7,8]],[16],[]⟩
noncomputable def aR9:List (Ent U):=[]
noncomputable def aW5 (n:Nat):ai8 × (List Int) × Unit→Option ((Unit) × (ai8 × Unit)):=aa5 (U:=U) Tryz.prog aR9 aR8 n Tryz.f291 aC0
noncomputable def ap8:ai8 × (List Int) × Unit→Option ((Unit) × (ai8 × Unit)):=aW5 fuel
noncomputable def bI8:Ent U:=⟨291,aC0,ap8⟩
noncomputable def cR5:=lp (tab aR9) aR8 Tryz.f291 1 aC0
noncomputable def ay0 (n m:Nat) (a1:List Int) (x8:Int) (x1000000:List UInt8):Option ((Unit) × (ai8 × Unit)):=
 cR5 n [.r,.l,.at m] [(0,.one (.ref 1000000 0)),(6,.one (.sl 3 a1 .ro)),(7,.one (.int .i64 (a1.length:Int))),(8,.one (.int .i64 x8)),(1000000,.box [.bs 5 x1000000 .app])]
def bP8:Sig τ:=⟨[(false,aa3)],[aa3,ab4]⟩
def cN4:Adv:=⟨9,[[0],[0,6],[2,3],[2,3]],[],[]⟩
noncomputable def cN5:List (Ent U):=[aQ8]
noncomputable def aW6:(List UInt8) × Unit→Option (((List UInt8) × Bool × Unit) × Unit):=aa5 (U:=U) Tryz.prog cN5 cN4 0 Tryz.f261 bP8
noncomputable def ce3:Ent U:=⟨261,bP8,aW6⟩
def ce4:Sig τ:=⟨[(false,ac2)],[aa3,ab4]⟩
def cW9:Adv:=⟨107,[[1],[1,11],[2,3],[1,4],[1,4,15],[1,4,15,16],[1,4],[1,4,15,25],[1,4],[1,4,15,32],[1,4],[1,4,44],[1,4],[1,4,5,6],[1,4,5,67],[1,4],[1,4],[1,4,7],[2,3]],[72,81],[]⟩
noncomputable def cX0:List (Ent U):=[bP1,bI8,co0,aR3,ce3]
noncomputable def bf7:aa0 × Unit→Option (((List UInt8) × Bool × Unit) × Unit):=aa5 (U:=U) Tryz.prog cX0 cW9 0 Tryz.f259 ce4
noncomputable def dk8:Ent U:=⟨259,ce4,bf7⟩
def bP9:Sig τ:=⟨[(false,ac2)],[aa3]⟩
def cN6:Adv:=⟨30,[[1],[1],[1,5],[3],[1,5,11],[1,5,11],[3],[1,19],[3],[2]],[],[]⟩
noncomputable def cN7:List (Ent U):=[dk7,aR3,dk8]
noncomputable def bs2:aa0 × Unit→Option (((List UInt8) × Unit) × Unit):=aa5 (U:=U) Tryz.prog cN7 cN6 0 Tryz.f212 bP9
noncomputable def cX1:Ent U:=⟨212,bP9,bs2⟩
def aW7:Sig τ:=⟨[(true,aP5),(false,ab0),(false,aa3)],[]⟩
def bI9:Adv:=⟨23,[[0,6],[]],[18],[]⟩
noncomputable def bJ0:List (Ent U):=[aR3]
noncomputable def ak0:aa8 × Int × (List UInt8) × Unit→Option ((Unit) × (aa8 × Unit)):=aa5 (U:=U) Tryz.prog bJ0 bI9 0 Tryz.f260 aW7
noncomputable def aG7:Ent U:=⟨260,aW7,ak0⟩
def be0:Sig τ:=⟨[(true,aP5),(false,aa3)],[]⟩
def bT8:Adv:=⟨13,[[0,1],[]],[],[]⟩
noncomputable def bT9:List (Ent U):=[aG7]
noncomputable def aA8:aa8 × (List UInt8) × Unit→Option ((Unit) × (aa8 × Unit)):=aa5 (U:=U) Tryz.prog bT9 bT8 0 Tryz.f213 be0
noncomputable def ce5:Ent U:=⟨213,be0,aA8⟩
def aW8:Sig τ:=⟨[(true,aP5),(false,ab0),(false,aa3)],[]⟩
def bJ1:Adv:=⟨37,[[0,1,2,6,7],[0,1,2],[0,1,2,6,17],[0,1,2],[0,1,2,23],[0,1,2],[]],[],[]⟩
noncomputable def bJ2:List (Ent U):=[ce3,aG7]
noncomputable def al6:aa8 × Int × (List UInt8) × Unit→Option ((Unit) × (aa8 × Unit)):=aa5 (U:=U) Tryz.prog bJ2 bJ1 0 Tryz.f214 aW8
noncomputable def bU0:Ent U:=⟨214,aW8,al6⟩
def ce6:Sig τ:=⟨[(false,ab0)],[ab0]⟩
def cX2:Adv:=⟨5,[[0],[4],[2],[2]],[],[]⟩
noncomputable def cX3:List (Ent U):=[]
noncomputable def bf8:Int × Unit→Option ((Int × Unit) × Unit):=aa5 (U:=U) Tryz.prog cX3 cX2 0 Tryz.f265 ce6
noncomputable def ct8:Ent U:=⟨265,ce6,bf8⟩
def bQ0:Sig τ:=⟨[(false,ac2)],[aa3]⟩
def cN8:Adv:=⟨12,[[1],[2]],[],[]⟩
noncomputable def cN9:List (Ent U):=[ce1,ct8]
noncomputable def aA9:aa0 × Unit→Option (((List UInt8) × Unit) × Unit):=aa5 (U:=U) Tryz.prog cN9 cN8 0 Tryz.f263 bQ0
noncomputable def ce7:Ent U:=⟨263,bQ0,aA9⟩
def be1:Sig τ:=⟨[(false,en2)],[ab0]⟩
def bU1:Adv:=⟨6,[[0],[2]],[],[]⟩
noncomputable def bU2:List (Ent U):=[]
noncomputable def aM8:Int × Unit→Option ((Int × Unit) × Unit):=aa5 (U:=U) Tryz.prog bU2 bU1 0 Tryz.f303 be1
noncomputable def ce8:Ent U:=⟨303,be1,aM8⟩
def aw4:Sig τ:=⟨[(false,en2)],[ab0]⟩
def aQ0:Adv:=⟨6,[[0],[2]],[],[]⟩
noncomputable def aQ1:List (Ent U):=[ce8]
noncomputable def aq4:Int × Unit→Option ((Int × Unit) × Unit):=aa5 (U:=U) Tryz.prog aQ1 aQ0 0 Tryz.f302 aw4
noncomputable def aT7:Ent U:=⟨302,aw4,aq4⟩
def bi5:Sig τ:=⟨[(false,aa3),(false,aa3)],[ab0]⟩
def bQ1:Adv:=⟨36,[[0,1],[0,1,11,12],[0,1,11,12,13],[0,1,5,11,12],[0,1,5,6,11,12],[0,1,5,6,11,12,23],[4],[0,1,11,12],[4]],[],[]⟩
noncomputable def bQ2:List (Ent U):=[aT7]
noncomputable def ce9 (n:Nat):(List UInt8) × (List UInt8) × Unit→Option ((Int × Unit) × Unit):=aa5 (U:=U) Tryz.prog bQ2 bQ1 n Tryz.f292 bi5
noncomputable def cf0:(List UInt8) × (List UInt8) × Unit→Option ((Int × Unit) × Unit):=ce9 fuel
noncomputable def cX4:Ent U:=⟨292,bi5,cf0⟩
noncomputable def dU6:=lp (tab bQ2) bQ1 Tryz.f292 0 bi5
noncomputable def bb2 (n m:Nat) (a0:List UInt8) (a1:List UInt8) (x11:Int) (x12:Int):Option ((Int × Unit) × Unit):=
 dU6 n [.r,.l,.r,.l,.at m] [(0,.one (.str a0)),(1,.one (.str a1)),(11,.one (.int .i64 x11)),(12,.one (.int .i64 x12))]
def bC3:Sig τ:=⟨[(false,aa3),(false,aa3)],[ab0]⟩
def cz9:Adv:=⟨9,[[0,1],[4]],[],[]⟩
noncomputable def cA0:List (Ent U):=[cX4]
noncomputable def bi6:(List UInt8) × (List UInt8) × Unit→Option ((Int × Unit) × Unit):=aa5 (U:=U) Tryz.prog cA0 cz9 0 Tryz.f264 bC3
noncomputable def cO0:Ent U:=⟨264,bC3,bi6⟩
def aF4:Sig τ:=⟨[(true,aP5),(false,ac2)],[ab0]⟩
def bf9:Adv:=⟨24,[[0,3],[3,5],[3,5,15],[4],[4]],[],[]⟩
noncomputable def bg0:List (Ent U):=[ct8,ce7,cO0]
noncomputable def ad5:aa8 × aa0 × Unit→Option ((Int × Unit) × (aa8 × Unit)):=aa5 (U:=U) Tryz.prog bg0 bf9 0 Tryz.f216 aF4
noncomputable def bn1:Ent U:=⟨216,aF4,ad5⟩
def av3:Sig τ:=⟨[(true,aP5),(false,ac2),(false,ab0)],[]⟩
def aJ8:Adv:=⟨72,[[0,2,4],[0,2,4,6],[0,2,4,6,22],[0,2,4,6],[0,2,4,6],[0,2,4,6,40,41,42],[0,2,4,6,40,41,42,43],[0,2,4,6,8,40,41,42],[0,2,4,6,40,41,42],[0,2,4,6,40,41,42],[0,2,4,6,9],[]],[46],[19]⟩
noncomputable def aJ9:List (Ent U):=[co0,ce7,aG7]
noncomputable def aM9 (n:Nat):aa8 × aa0 × Int × Unit→Option ((Unit) × (aa8 × Unit)):=aa5 (U:=U) Tryz.prog aJ9 aJ8 n Tryz.f215 av3
noncomputable def ae5:aa8 × aa0 × Int × Unit→Option ((Unit) × (aa8 × Unit)):=aM9 fuel
noncomputable def bs3:Ent U:=⟨215,av3,ae5⟩
noncomputable def bn2:=lp (tab aJ9) aJ8 Tryz.f215 1 av3
noncomputable def at8 (n m:Nat) (a2:Int) (a1:aa0) (a0:aa8) (x19:List UInt8) (x40:List Int) (x41:Int) (x42:Int) (x1000000_1:List UInt8) (x1000000_2:List UInt8) (x1000000_3:List UInt8) (x1000000_4:List UInt8):Option ((Unit) × (aa8 × Unit)):=
 bn2 n [.r,.r,.r,.l,.r,.l,.at m] [(0,.one (.ref 1000000 0)),(2,.one (.int .i64 a2)),(4,.box [.int .i64 a1.kind,.int .i64 a1.cmd,.int .i64 a1.ver,.str a1.auth,.int .i64 a1.family,.int .i64 a1.ae,.str a1.prefix_,.int .i64 a1.plen,.int .i64 a1.tag,.str a1.next,.int .i64 a1.metric,.str a1.id,.int .i64 a1.seq,.int .i64 a1.seq2,.int .i64 a1.interval,.int .i64 a1.flags,.int .i64 a1.hops,.int .i64 a1.nonce,.int .i64 a1.cost,.str a1.addr,.str a1.orig,.sl 94 a1.list .ro,.int .i64 a1.type_,.str a1.data,.sl 96 a1.subs .ro]),(6,.one (.sref 19)),(19,.bblk 5 x19 true),(40,.one (.sl 3 x40 .app)),(41,.one (.int .i64 x41)),(42,.one (.int .i64 x42)),(1000000,.box [.bs 5 a0.b .app,.str x1000000_1,.str x1000000_2,.str x1000000_3,.str x1000000_4,.str a0.c_Next_c0,.str a0.c_Next_c1,.str a0.c_Id])]
noncomputable def aj5 (n m:Nat) (a2:Int) (a1:aa0) (x40:List Int) (x41:Int) (a0:aa8) (x1000000_1:List UInt8) (x1000000_2:List UInt8) (x1000000_3:List UInt8) (x1000000_4:List UInt8) (x6:List UInt8) (x42:Int):Option ((Unit) × (aa8 × Unit)):=
 bn2 n [.r,.r,.r,.l,.r,.l,.at m] [(0,.one (.ref 1000000 0)),(2,.one (.int .i64 a2)),(4,.box [.int .i64 a1.kind,.int .i64 a1.cmd,.int .i64 a1.ver,.str a1.auth,.int .i64 a1.family,.int .i64 a1.ae,.str a1.prefix_,.int .i64 a1.plen,.int .i64 a1.tag,.str a1.next,.int .i64 a1.metric,.str a1.id,.int .i64 a1.seq,.int .i64 a1.seq2,.int .i64 a1.interval,.int .i64 a1.flags,.int .i64 a1.hops,.int .i64 a1.nonce,.int .i64 a1.cost,.str a1.addr,.str a1.orig,.sl 94 a1.list .ro,.int .i64 a1.type_,.str a1.data,.sl 96 a1.subs .ro]),(6,.one (.bs 5 x6 .app)),(40,.one (.sl 3 x40 .app)),(41,.one (.int .i64 x41)),(42,.one (.int .i64 x42)),(1000000,.box [.bs 5 a0.b .app,.str x1000000_1,.str x1000000_2,.str x1000000_3,.str x1000000_4,.str a0.c_Next_c0,.str a0.c_Next_c1,.str a0.c_Id])]
def ct9:Sig τ:=⟨[(false,aV7),(false,ac2)],[aa3,aV7,ab3]⟩
def dk9:Adv:=⟨77,[[2,3,5],[2,3,5,9],[4,5,6],[2,3,5,14],[4,5,6],[2,3,5,7],[2,3,5,7,26],[2,3,5,7,8],[2,3,5,7,8,39],[4,5,6],[2,3,5,7,8,45],[2,3,5,7,8],[3,5,7,8,56],[3,5,7],[5,7],[4,5,6]],[],[]⟩
noncomputable def dl0:List (Ent U):=[br3,cX1,aW4,ce5,bU0,bn1,bs3]
noncomputable def bX2:ad8 × aa0 × Unit→Option (((List UInt8) × ad8 × Int × Unit) × Unit):=aa5 (U:=U) Tryz.prog dl0 dk9 0 Tryz.f153 ct9
noncomputable def dx3:Ent U:=⟨153,ct9,bX2⟩
def bQ3:Sig τ:=⟨[(false,aa3)],[aa3,ab4]⟩
def cO1:Adv:=⟨23,[[0],[0,4,5],[0,4,18],[2,3],[2,3]],[],[]⟩
noncomputable def cO2:List (Ent U):=[aR0]
noncomputable def bs4:(List UInt8) × Unit→Option (((List UInt8) × Bool × Unit) × Unit):=aa5 (U:=U) Tryz.prog cO2 cO1 0 Tryz.f154 bQ3
noncomputable def cX5:Ent U:=⟨154,bQ3,bs4⟩
def aN0:Sig τ:=⟨[(false,ad3)],[aa3,ab0,ab3]⟩
def bk1:Adv:=⟨62,[[0],[0,16,17,18],[0,16,17,18,19],[0,5,6,16,17,18],[0,5,16,17,18,25],[2,3,4],[0,16,17,18],[0,7],[0,7,8],[7,8,28,29,30],[7,8,28,29,30,31],[7,8,9,10,28,29,30],[7,8,9,11,12,13,28,29,30],[7,8,9,11,12,13,28,29,30,43],[2,3,4],[7,8,9,28,29,30],[7,8,9,28,29,30,52],[2,3,4],[7,8,28,29,30],[14],[2,3,4]],[46],[]⟩
noncomputable def bk2:List (Ent U):=[br3,dx3,cX5]
noncomputable def bs5 (n:Nat):(List aa0) × Unit→Option (((List UInt8) × Int × Int × Unit) × Unit):=aa5 (U:=U) Tryz.prog bk2 bk1 n Tryz.f86 aN0
noncomputable def bs6:(List aa0) × Unit→Option (((List UInt8) × Int × Int × Unit) × Unit):=bs5 fuel
noncomputable def co3:Ent U:=⟨86,aN0,bs6⟩
noncomputable def cf1:=lp (tab bk2) bk1 Tryz.f86 0 aN0
noncomputable def aG8 (n m:Nat) (a0:List aa0) (x18:Int):Option (((List UInt8) × Int × Int × Unit) × Unit):=
 cf1 n [.r,.l,.r,.l,.at m] [(0,.one (.sl 77 a0 .ro)),(16,.one (.sl 77 a0 .ro)),(17,.one (.int .i64 (a0.length:Int))),(18,.one (.int .i64 x18))]
noncomputable def aG9 (n m:Nat) (a0:List aa0) (x7:List UInt8) (x8_0:List UInt8) (x8_1:List UInt8) (x8_2:List UInt8) (x8_3:List UInt8) (x8_4:List UInt8) (x8_5:List UInt8) (x8_6:List UInt8) (x30:Int):Option (((List UInt8) × Int × Int × Unit) × Unit):=
 cf1 n [.r,.r,.r,.r,.l,.r,.l,.at m] [(7,.one (.bs 5 x7 .app)),(8,.box [.str x8_0,.str x8_1,.str x8_2,.str x8_3,.str x8_4,.str x8_5,.str x8_6]),(28,.one (.sl 77 a0 .ro)),(29,.one (.int .i64 (a0.length:Int))),(30,.one (.int .i64 x30))]
def aD9:Sig τ:=⟨[(false,ab0),(false,ad3)],[aa3,ab0,ab3]⟩
def bs7:Adv:=⟨23,[[0,1],[1,7,8],[1,7,15],[4,5,6],[4,5,6]],[],[]⟩
noncomputable def bs8:List (Ent U):=[cW0,cz8,cN1,co3]
noncomputable def aN1:Tab U:=inl Tryz.prog 44 (tab bs8) ct1 0 Tryz.f44 (tab bs8)
noncomputable def bb3:Int × (List aa0) × Unit→Option (((List UInt8) × Int × Int × Unit) × Unit):=cF5 (U:=U) Tryz.prog aN1 bs7 0 Tryz.f26 aD9
noncomputable def cA1:Ent U:=⟨26,aD9,bb3⟩
def bk3:Sig τ:=⟨[(false,ab0),(false,ad3),(false,ab0)],[aa3,ab4]⟩
def cf2:Adv:=⟨27,[[0,1,2],[2,8,10],[6,7]],[],[]⟩
noncomputable def cf3:List (Ent U):=[cA1]
noncomputable def aE0:Int × (List aa0) × Int × Unit→Option (((List UInt8) × Bool × Unit) × Unit):=aa5 (U:=U) Tryz.prog cf3 cf2 0 Tryz.f47 bk3
noncomputable def bs9:Ent U:=⟨47,bk3,aE0⟩
def cf4:Sig τ:=⟨[(false,ab0),(false,ad3),(false,ab0)],[ab4]⟩
def cX6:Adv:=⟨17,[[0,1,2],[8],[6]],[],[]⟩
noncomputable def cX7:List (Ent U):=[bs9]
noncomputable def bG2:Int × (List aa0) × Int × Unit→Option ((Bool × Unit) × Unit):=aa5 (U:=U) Tryz.prog cX7 cX6 0 Tryz.f88 cf4
noncomputable def dl1:Ent U:=⟨88,cf4,bG2⟩
def bi7:Sig τ:=⟨[(false,ab0),(false,ad3),(false,ab0)],[ab0,ab3]⟩
def bQ4:Adv:=⟨46,[[0,1,2],[0,1,2,16],[6,7],[0,1,2,17,18,19],[0,1,2,17,18,19,20],[0,1,2,8,9,17,18,19],[0,1,2,8,17,18,19,27],[6,7],[0,1,2,17,18,19],[0,1,2,31,32],[0,1,2,31,32,33],[0,1,2,10,31,32],[0,1,2,10,31,32,43],[6,7],[0,1,2,31,32],[6,7]],[],[]⟩
noncomputable def bQ5:List (Ent U):=[cM9,dl1]
noncomputable def cf5 (n:Nat):Int × (List aa0) × Int × Unit→Option ((Int × Int × Unit) × Unit):=aa5 (U:=U) Tryz.prog bQ5 bQ4 n Tryz.f46 bi7
noncomputable def cf6:Int × (List aa0) × Int × Unit→Option ((Int × Int × Unit) × Unit):=cf5 fuel
noncomputable def cX8:Ent U:=⟨46,bi7,cf6⟩
noncomputable def cO3:=lp (tab bQ5) bQ4 Tryz.f46 0 bi7
noncomputable def bb4 (n m:Nat) (a0:Int) (a1:List aa0) (a2:Int) (x19:Int):Option ((Int × Int × Unit) × Unit):=
 cO3 n [.r,.r,.l,.r,.l,.at m] [(0,.one (.int .i64 a0)),(1,.one (.sl 77 a1 .ro)),(2,.one (.int .i64 a2)),(17,.one (.sl 77 a1 .ro)),(18,.one (.int .i64 (a1.length:Int))),(19,.one (.int .i64 x19))]
noncomputable def bb5 (n m:Nat) (a0:Int) (a1:List aa0) (a2:Int) (x32:Int):Option ((Int × Int × Unit) × Unit):=
 cO3 n [.r,.r,.r,.l,.r,.l,.at m] [(0,.one (.int .i64 a0)),(1,.one (.sl 77 a1 .ro)),(2,.one (.int .i64 a2)),(31,.one (.int .i64 (a1.length:Int))),(32,.one (.int .i64 x32))]
def bt0:Sig τ:=⟨[(false,ab0),(false,ad3),(false,ab0)],[bh4,ab0,ab3]⟩
def cf7:Adv:=⟨57,[[0,1,2],[0,1,2,9,10],[0,1,2,9,10,24],[6,7,8],[0,1,2,11],[0,1,2,11,29],[0,1,2,11,12,13],[0,1,2,11,12,13,33],[0,1,2,11,12,13,14,15],[0,1,2,11,12,13,14,45],[0,1,2,11,12,13],[0,1,2,11],[6,7,8]],[49],[]⟩
noncomputable def cf8:List (Ent U):=[cX8,bs9]
noncomputable def cu0 (n:Nat):Int × (List aa0) × Int × Unit→Option (((List (List UInt8)) × Int × Int × Unit) × Unit):=aa5 (U:=U) Tryz.prog cf8 cf7 n Tryz.f29 bt0
noncomputable def cu1:Int × (List aa0) × Int × Unit→Option (((List (List UInt8)) × Int × Int × Unit) × Unit):=cu0 fuel
noncomputable def dl2:Ent U:=⟨29,bt0,cu1⟩
noncomputable def cX9:=lp (tab cf8) cf7 Tryz.f29 0 bt0
noncomputable def ar6 (n m:Nat) (a0:Int) (a2:Int) (x1:List aa0) (x11:List (List UInt8)):Option (((List (List UInt8)) × Int × Int × Unit) × Unit):=
 cX9 n [.r,.r,.r,.l,.l,.at m] [(0,.one (.int .i64 a0)),(1,.one (.sl 77 x1 .ro)),(2,.one (.int .i64 a2)),(11,.one (.sl 9 x11 .app))]
noncomputable def bi8 (n m0 m:Nat) (a0:Int) (x1:List aa0) (a2:Int) (x11:List (List UInt8)) (x12:List UInt8) (x13:Int):Option (((List (List UInt8)) × Int × Int × Unit) × Unit):=
 cX9 n [.r,.r,.r,.l,.l,.inn m0,.r,.l,.r,.l,.l,.at m] [(0,.one (.int .i64 a0)),(1,.one (.sl 77 x1 .ro)),(2,.one (.int .i64 a2)),(11,.one (.sl 9 x11 .app)),(12,.one (.str x12)),(13,.one (.int .i64 x13))]
def aW9:Sig τ:=⟨[(true,cy2),(false,dG5)],[dG5]⟩
noncomputable def an2:af6 × Int × Unit→Option ((Int × Unit) × (af6 × Unit)):=bd8
noncomputable def aC6:Ent U:=⟨48,aW9,an2⟩
def aX0:Sig τ:=⟨[(true,aQ6),(false,ab0),(false,ab3)],[]⟩
def bJ3:Adv:=⟨21,[[0,1,2],[0,1,11],[],[]],[],[999999]⟩
noncomputable def bJ4:List (Ent U):=[aC6]
noncomputable def ax0:ab2 × Int × Int × Unit→Option ((Unit) × (ab2 × Unit)):=aa5 (U:=U) Tryz.prog bJ4 bJ3 0 Tryz.f30 aX0
noncomputable def be3:Ent U:=⟨30,aX0,ax0⟩
def aH0:Sig τ:=⟨[(true,aQ6),(false,ab0),(false,ad3),(false,ab0)],[bh4,ab0,ab3]⟩
def be4:Adv:=⟨47,[[0,1,2,3],[0,1,2,3,20],[8,9,10],[0,11,12,13],[0,11,12,13,14],[0,11,12,13,14,29,30,31],[0,11,12,13,14,29,30,31,32],[0,11,12,13,14,16,29,30,31],[0,11,12,13,14,29,30,31],[0,11,12,13,14,29,30,31],[11,12,13],[8,9,10]],[],[999999]⟩
noncomputable def be5:List (Ent U):=[ar9,dl2,be3]
noncomputable def bk4 (n:Nat):ab2 × Int × (List aa0) × Int × Unit→Option (((List (List UInt8)) × Int × Int × Unit) × (ab2 × Unit)):=aa5 (U:=U) Tryz.prog be5 be4 n Tryz.f16 aH0
noncomputable def bk5:ab2 × Int × (List aa0) × Int × Unit→Option (((List (List UInt8)) × Int × Int × Unit) × (ab2 × Unit)):=bk4 fuel
noncomputable def cf9:Ent U:=⟨16,aH0,bk5⟩
noncomputable def dg9:=lp (tab be5) be4 Tryz.f16 1 aH0
noncomputable def aE1 (n m:Nat) (r2:((List (List UInt8)) × Int × Int × Unit) × Unit) (a0:ab2) (r1:(Bool × Unit) × (ag5 × Unit)) (x14:Int) (x31:Int):Option (((List (List UInt8)) × Int × Int × Unit) × (ab2 × Unit)):=
 dg9 n [.r,.r,.r,.r,.l,.r,.l,.at m] [(0,.one (.ref 1000000 0)),(11,.one (.sl 9 r2.1.1 .ro)),(12,.one (.int .i64 r2.1.2.1)),(13,.one (.int .i64 r2.1.2.2.1)),(14,.one (.int .i64 x14)),(29,.one (.sl 9 r2.1.1 .ro)),(30,.one (.int .i64 (r2.1.1.length:Int))),(31,.one (.int .i64 x31)),(1000000,.box [.int .u32 a0.once_done_v,.int .i32 a0.once_m_mu_state,.int .u32 a0.once_m_mu_sema,.any,.int .u32 r1.2.1.v,.int .i64 a0.calls_v,.int .i64 a0.failed_v,.int .i64 a0.bytes_v])]
def cu2:Sig τ:=⟨[(false,aa3)],[ab0,ab3]⟩
def dl3:Adv:=⟨49,[[0],[0,4],[0,4,7],[2,3],[0,4,11],[2,3],[0,4,20],[2,3],[4,29],[2,3],[4,34],[2,3],[4,40],[2,3],[44],[2,3],[2,3]],[],[]⟩
noncomputable def dl4:List (Ent U):=[aW1]
noncomputable def bX3:(List UInt8) × Unit→Option ((Int × Int × Unit) × Unit):=aa5 (U:=U) Tryz.prog dl4 dl3 0 Tryz.f126 cu2
noncomputable def dx4:Ent U:=⟨126,cu2,bX3⟩
def ao7:Sig τ:=⟨[(false,aa3),(false,aa3)],[aa3,ab4]⟩
def az6:Adv:=⟨15,[[0,1],[0,1,9],[4,5],[4,5]],[],[]⟩
noncomputable def az7:List (Ent U):=[ap4]
noncomputable def ap5:(List UInt8) × (List UInt8) × Unit→Option (((List UInt8) × Bool × Unit) × Unit):=aa5 (U:=U) Tryz.prog az7 az6 0 Tryz.f243 ao7
noncomputable def aB0:Ent U:=⟨243,ao7,ap5⟩
def aN2:Sig τ:=⟨[(false,aa3),(false,aa3)],[aa3,ab4]⟩
def bt1:Adv:=⟨11,[[0,1],[4,5]],[],[]⟩
noncomputable def bt2:List (Ent U):=[aB0]
noncomputable def aS0:(List UInt8) × (List UInt8) × Unit→Option (((List UInt8) × Bool × Unit) × Unit):=aa5 (U:=U) Tryz.prog bt2 bt1 0 Tryz.f185 aN2
noncomputable def by3:Ent U:=⟨185,aN2,aS0⟩
def cu3:Sig τ:=⟨[(false,aa3)],[aa3,ab4]⟩
def dl5:Adv:=⟨19,[[0],[4,5],[4,17],[2,3],[2,3]],[],[]⟩
noncomputable def dl6:List (Ent U):=[by3]
noncomputable def bX4:(List UInt8) × Unit→Option (((List UInt8) × Bool × Unit) × Unit):=aa5 (U:=U) Tryz.prog dl6 dl5 0 Tryz.f127 cu3
noncomputable def dx5:Ent U:=⟨127,cu3,bX4⟩
def bQ6:Sig τ:=⟨[(false,aa3)],[az3]⟩
def cO4:Adv:=⟨7,[[0,2],[2]],[],[]⟩
noncomputable def cO5:List (Ent U):=[]
noncomputable def ak2:(List UInt8) × Unit→Option ((ac1 × Unit) × Unit):=aa5 (U:=U) Tryz.prog cO5 cO4 0 Tryz.f186 bQ6
noncomputable def ao8:Ent U:=⟨186,bQ6,ak2⟩
def bC4:Sig τ:=⟨[(false,az3),(false,ab0)],[az3,ab4]⟩
def cA2:Adv:=⟨29,[[1,2,4],[1,2,4,20],[2,4],[4,5],[2,4],[4,5]],[],[]⟩
noncomputable def cA3:List (Ent U):=[]
noncomputable def aD1:ac1 × Int × Unit→Option ((ac1 × Bool × Unit) × Unit):=aa5 (U:=U) Tryz.prog cA3 cA2 0 Tryz.f277 bC4
noncomputable def bQ7:Ent U:=⟨277,bC4,aD1⟩
def bi9:Sig τ:=⟨[(false,az3),(false,ab0)],[ab0,az3]⟩
def bQ8:Adv:=⟨49,[[1,2,5],[1,2,5,16],[2,5],[4,5],[2,5,6,7],[2,5,6,26],[4,5],[2,5,6,8],[5,6,8,35,36,37],[5,6,8,35,36,37,38],[5,6,8,10,35,36,37],[5,6,8,35,36,37],[5,6,8,35,36,37],[4,5]],[],[]⟩
noncomputable def bQ9:List (Ent U):=[bQ7]
noncomputable def bt3 (n:Nat):ac1 × Int × Unit→Option ((Int × ac1 × Unit) × Unit):=aa5 (U:=U) Tryz.prog bQ9 bQ8 n Tryz.f244 bi9
noncomputable def ag8:ac1 × Int × Unit→Option ((Int × ac1 × Unit) × Unit):=bt3 fuel
noncomputable def ar1:Ent U:=⟨244,bi9,ag8⟩
noncomputable def dU7:=lp (tab bQ9) bQ8 Tryz.f244 0 bi9
noncomputable def bb6 (n m:Nat) (r1:(ac1 × Bool × Unit) × Unit) (x8:Int) (x35:List UInt8) (x36:Int) (x37:Int):Option ((Int × ac1 × Unit) × Unit):=
 dU7 n [.r,.r,.r,.r,.r,.l,.r,.l,.at m] [(5,.box [.str ([]:List UInt8),.int .i64 0,.int .i64 0,.bool false]),(6,.box [.str r1.1.1.s,.int .i64 r1.1.1.at_,.int .i64 r1.1.1.end_,.bool r1.1.1.bad]),(8,.one (.int .i64 x8)),(35,.one (.bs 5 x35 .app)),(36,.one (.int .i64 x36)),(37,.one (.int .i64 x37))]
def aS1:Sig τ:=⟨[(true,cy6),(false,ab0)],[ab0]⟩
def by4:Adv:=⟨21,[[0,1],[0,5,6],[5],[4]],[],[]⟩
noncomputable def by5:List (Ent U):=[ar1]
noncomputable def ap9:al4 × Int × Unit→Option ((Int × Unit) × (al4 × Unit)):=aa5 (U:=U) Tryz.prog by5 by4 0 Tryz.f187 aS1
noncomputable def bJ5:Ent U:=⟨187,aS1,ap9⟩
def bC5:Sig τ:=⟨[(false,az3),(false,ab0)],[aa3,az3]⟩
def cA4:Adv:=⟨25,[[1,2,5],[2,5,6,7],[2,5,6,15],[4,5],[4,5]],[],[]⟩
noncomputable def cA5:List (Ent U):=[bQ7]
noncomputable def ae8:ac1 × Int × Unit→Option (((List UInt8) × ac1 × Unit) × Unit):=aa5 (U:=U) Tryz.prog cA5 cA4 0 Tryz.f245 bC5
noncomputable def ap0:Ent U:=⟨245,bC5,ae8⟩
def aN3:Sig τ:=⟨[(true,cy6)],[aa3]⟩
def bt4:Adv:=⟨18,[[0],[0,3,4],[3],[2]],[],[]⟩
noncomputable def bt5:List (Ent U):=[ap0]
noncomputable def an9:al4 × Unit→Option (((List UInt8) × Unit) × (al4 × Unit)):=aa5 (U:=U) Tryz.prog bt5 bt4 0 Tryz.f188 aN3
noncomputable def by6:Ent U:=⟨188,aN3,an9⟩
def cg0:Sig τ:=⟨[(false,aa3)],[az1,ab4]⟩
def cY0:Adv:=⟨33,[[0,2],[0,2,8],[2,3],[2,4],[2,4,5],[2,4,5],[2,4,5],[2,4,5],[2,4,5],[2,4,5],[2,5],[2,3]],[],[]⟩
noncomputable def cY1:List (Ent U):=[ao8,bJ5,by6]
noncomputable def bG3:(List UInt8) × Unit→Option ((ad7 × Bool × Unit) × Unit):=aa5 (U:=U) Tryz.prog cY1 cY0 0 Tryz.f128 cg0
noncomputable def dl7:Ent U:=⟨128,cg0,bG3⟩
def aX1:Sig τ:=⟨[(false,ec3)],[ab0]⟩
def bJ6:Adv:=⟨19,[[0,2],[0,2,4],[0],[0,2],[0,2,8],[0,2],[0,2],[2]],[],[]⟩
noncomputable def bJ7:List (Ent U):=[]
noncomputable def ax1:Int × Unit→Option ((Int × Unit) × Unit):=aa5 (U:=U) Tryz.prog bJ7 bJ6 0 Tryz.f278 aX1
noncomputable def bU3:Ent U:=⟨278,aX1,ax1⟩
def au3:Sig τ:=⟨[(false,ec3)],[ab0]⟩
def aL9:Adv:=⟨6,[[0],[2]],[],[]⟩
noncomputable def aM0:List (Ent U):=[bU3]
noncomputable def aw5:Int × Unit→Option ((Int × Unit) × Unit):=aa5 (U:=U) Tryz.prog aM0 aL9 0 Tryz.f246 au3
noncomputable def aQ2:Ent U:=⟨246,au3,aw5⟩
def cg1:Sig τ:=⟨[(false,aa3)],[ab0,ab4]⟩
def cY2:Adv:=⟨41,[[0],[0,10],[2,3],[0,4],[0,5],[0,5,6],[5,39],[2,3],[2,3]],[],[]⟩
noncomputable def cY3:List (Ent U):=[aQ2,cV7]
noncomputable def bG4:(List UInt8) × Unit→Option ((Int × Bool × Unit) × Unit):=aa5 (U:=U) Tryz.prog cY3 cY2 0 Tryz.f189 cg1
noncomputable def dl8:Ent U:=⟨189,cg1,bG4⟩
def aS2:Sig τ:=⟨[(true,ec4),(false,az1)],[ac2,ab3]⟩
def by7:Adv:=⟨107,[[0,3,4],[0,3,4,6],[3,4,6,7,8],[3,4,6,7,46],[4,5],[3,4,6],[0,3,4,6,50],[4,6,69],[4,5],[4,5],[0,3,4,6,72],[4,5],[3,4,6,77],[3,4,6],[3,4,6,95],[4,5],[4,6,104],[4,5],[4,5]],[],[]⟩
noncomputable def by8:List (Ent U):=[aW1,bF4,dl8,aJ1]
noncomputable def aE2:aI7 × ad7 × Unit→Option ((aa0 × Int × Unit) × (aI7 × Unit)):=aa5 (U:=U) Tryz.prog by8 by7 0 Tryz.f129 aS2
noncomputable def bJ8:Ent U:=⟨129,aS2,aE2⟩
def bt6:Sig τ:=⟨[(false,aa3)],[ad3,ab0,ab3]⟩
def cg2:Adv:=⟨94,[[0],[0,5,6],[0,5,6,22],[2,3,4],[0,7],[0,7,8],[0,7,8,9,10],[0,7,8,9,46],[0,7,8],[0,7,8,54],[2,3,4],[0,7,8],[0,7,8,11],[0,7,8,11,67],[0,7,8,11],[0,7,8,11,12],[0,7,8,11,14,15],[0,7,8,11,14,15,86],[2,3,4],[0,7,8,11],[2,3,4]],[89],[]⟩
noncomputable def cg3:List (Ent U):=[dx4,dx5,dl7,bJ8]
noncomputable def cu4 (n:Nat):(List UInt8) × Unit→Option (((List aa0) × Int × Int × Unit) × Unit):=aa5 (U:=U) Tryz.prog cg3 cg2 n Tryz.f76 bt6
noncomputable def cu5:(List UInt8) × Unit→Option (((List aa0) × Int × Int × Unit) × Unit):=cu4 fuel
noncomputable def dl9:Ent U:=⟨76,bt6,cu5⟩
noncomputable def ec8:=lp (tab cg3) cg2 Tryz.f76 0 bt6
noncomputable def aw6 (n m:Nat) (a0:List UInt8) (x8:Int) (x11:List aa0) (x32_0:Int) (x32_1:Int) (x32_2:List UInt8) (x32_3:Bool):Option (((List aa0) × Int × Int × Unit) × Unit):=
 ec8 n [.r,.r,.r,.r,.r,.r,.r,.r,.l,.l,.at m] [(0,.one (.str a0)),(7,.one (.ref 32 0)),(8,.one (.int .i64 x8)),(11,.one (.sl 77 x11 .app)),(32,.box [.int .i64 x32_0,.int .i64 x32_1,.str x32_2,.bool x32_3])]
def bR0:Sig τ:=⟨[(false,aa3)],[ab0,ab3]⟩
def cO6:Adv:=⟨37,[[0],[0,4],[0,4,7],[2,3],[0,4,10],[2,3],[0,4,14],[2,3],[0,4,23],[2,3],[4,27],[2,3],[4,32],[2,3],[2,3]],[],[]⟩
noncomputable def cO7:List (Ent U):=[aW1]
noncomputable def bt7:(List UInt8) × Unit→Option ((Int × Int × Unit) × Unit):=aa5 (U:=U) Tryz.prog cO7 cO6 0 Tryz.f135 bR0
noncomputable def cY4:Ent U:=⟨135,bR0,bt7⟩
def cH0:Sig τ:=⟨[(false,aa3)],[az1,ab4]⟩
def dx6:Adv:=⟨28,[[0,2],[0,2,7],[2,3],[0,2,4],[2,3]],[],[]⟩
noncomputable def dx7:List (Ent U):=[]
noncomputable def co4:(List UInt8) × Unit→Option ((ad7 × Bool × Unit) × Unit):=aa5 (U:=U) Tryz.prog dx7 dx6 0 Tryz.f136 cH0
noncomputable def dQ3:Ent U:=⟨136,cH0,co4⟩
def aS3:Sig τ:=⟨[(true,cy4),(false,az1)],[ab3]⟩
def by9:Adv:=⟨23,[[0,3],[0,3,10],[4],[0,3],[0,3,17],[],[4]],[],[]⟩
noncomputable def bz0:List (Ent U):=[aw3,aQ8]
noncomputable def aE3:ai7 × ad7 × Unit→Option ((Int × Unit) × (ai7 × Unit)):=aa5 (U:=U) Tryz.prog bz0 by9 0 Tryz.f193 aS3
noncomputable def bJ9:Ent U:=⟨193,aS3,aE3⟩
def aK0:Sig τ:=⟨[(true,cy4),(false,az1)],[ab3]⟩
def bn3:Adv:=⟨54,[[0,3],[0,3,5],[4],[0,3,12],[4],[0,3,19],[4],[],[4]],[32],[]⟩
noncomputable def bn4:List (Ent U):=[bJ9,aJ1]
noncomputable def ay1:ai7 × ad7 × Unit→Option ((Int × Unit) × (ai7 × Unit)):=aa5 (U:=U) Tryz.prog bn4 bn3 0 Tryz.f137 aK0
noncomputable def bt8:Ent U:=⟨137,aK0,ay1⟩
def bb7:Sig τ:=⟨[(false,aa3)],[ad3,ab0,ab3]⟩
def bC6:Adv:=⟨61,[[0],[0,5,6],[0,5,6,18],[2,3,4],[0,7],[0,7,8],[0,7,8,30],[0,7,8],[0,7,8,9],[0,7,8,11],[0,7,8,11,46],[2,3,4],[0,7,54],[2,3,4],[2,3,4]],[],[]⟩
noncomputable def bC7:List (Ent U):=[cY4,aw3,dQ3,bt8]
noncomputable def bR1 (n:Nat):(List UInt8) × Unit→Option (((List aa0) × Int × Int × Unit) × Unit):=aa5 (U:=U) Tryz.prog bC7 bC6 n Tryz.f79 bb7
noncomputable def bR2:(List UInt8) × Unit→Option (((List aa0) × Int × Int × Unit) × Unit):=bR1 fuel
noncomputable def cO8:Ent U:=⟨79,bb7,bR2⟩
noncomputable def dH1:=lp (tab bC7) bC6 Tryz.f79 0 bb7
noncomputable def aT8 (n m:Nat) (a0:List UInt8) (x8:Int) (x26_0:Int) (x26_1:List UInt8) (x26_2:List aa0):Option (((List aa0) × Int × Int × Unit) × Unit):=
 dH1 n [.r,.r,.r,.l,.r,.l,.at m] [(0,.one (.str a0)),(7,.one (.ref 26 0)),(8,.one (.int .i64 x8)),(26,.box [.int .i64 x26_0,.str x26_1,.sl 77 x26_2 .app])]
def bC8:Sig τ:=⟨[(false,az3)],[ab0]⟩
def cA6:Adv:=⟨10,[[1],[1,4],[2],[2]],[],[]⟩
noncomputable def cA7:List (Ent U):=[]
noncomputable def aw7:ac1 × Unit→Option ((Int × Unit) × Unit):=aa5 (U:=U) Tryz.prog cA7 cA6 0 Tryz.f209 bC8
noncomputable def bj0:Ent U:=⟨209,bC8,aw7⟩
def bX5:Sig τ:=⟨[(false,aa3)],[ak1,ab0,ab3]⟩
def cH1:Adv:=⟨44,[[0],[0,5],[5,6],[5,6,14],[5,6,7],[5,6,7,8],[5,6,7,8],[5,6,7,8],[5,6,7,8,9],[5,6,7,8],[5,6,7,8,36],[2,3,4],[5,6],[5,42],[5,6],[2,3,4]],[38],[]⟩
noncomputable def cH2:List (Ent U):=[ao8,bj0,ar1,ap0]
noncomputable def cY5 (n:Nat):(List UInt8) × Unit→Option (((List aa7) × Int × Int × Unit) × Unit):=aa5 (U:=U) Tryz.prog cH2 cH1 n Tryz.f250 bX5
noncomputable def aX2:(List UInt8) × Unit→Option (((List aa7) × Int × Int × Unit) × Unit):=cY5 fuel
noncomputable def bK0:Ent U:=⟨250,bX5,aX2⟩
noncomputable def es3:=lp (tab cH2) cH1 Tryz.f250 0 bX5
noncomputable def bG5 (n m:Nat) (x5:List aa7) (x6_0:List UInt8) (x6_1:Int) (x6_2:Int) (x6_3:Bool):Option (((List aa7) × Int × Int × Unit) × Unit):=
 es3 n [.r,.r,.l,.r,.l,.at m] [(5,.one (.sl 96 x5 .app)),(6,.box [.str x6_0,.int .i64 x6_1,.int .i64 x6_2,.bool x6_3])]
def cu6:Sig τ:=⟨[(false,aa3)],[ac2,ab0,ab3]⟩
def dm0:Adv:=⟨84,[[0,2],[0,2,13],[2,3,4],[0,2,23],[2,3,4],[0,2,5,6,7],[0,2,5,6,7,33],[2,3,4],[0,2,8],[2,8,10],[2,8,10],[2,8,10],[2,8,10],[2,8,10],[2,8],[2,3,4]],[],[]⟩
noncomputable def dm1:List (Ent U):=[bK0,ao8,ap0,ar1]
noncomputable def bX6:(List UInt8) × Unit→Option ((aa0 × Int × Int × Unit) × Unit):=aa5 (U:=U) Tryz.prog dm1 dm0 0 Tryz.f196 cu6
noncomputable def dx8:Ent U:=⟨196,cu6,bX6⟩
def bG6:Sig τ:=⟨[(false,aa3)],[ac2,ab0,ab3]⟩
def cu7:Adv:=⟨93,[[0,2],[0,2,12],[2,3,4],[0,2,19],[2,3,4],[0,2,28],[2,3,4],[0,2,5],[0,2,5,7],[0,2,5,7,46,47],[0,2,5,7,46,47,48],[0,2,5,7,8,46,47],[0,2,5,7,8,46,47],[0,2,5,7,8,46,47],[0,2,5,7,46,47],[0,2,5,7,46,47],[0,2,5,7,69],[2,3,4],[2,5,7,9,10,11],[2,5,7,9,10,11,83],[2,3,4],[2,5],[2,3,4]],[62],[]⟩
noncomputable def cu8:List (Ent U):=[ao8,ap0,ar1,bK0]
noncomputable def cH3 (n:Nat):(List UInt8) × Unit→Option ((aa0 × Int × Int × Unit) × Unit):=aa5 (U:=U) Tryz.prog cu8 cu7 n Tryz.f197 bG6
noncomputable def cH4:(List UInt8) × Unit→Option ((aa0 × Int × Int × Unit) × Unit):=cH3 fuel
noncomputable def dx9:Ent U:=⟨197,bG6,cH4⟩
noncomputable def ek6:=lp (tab cu8) cu7 Tryz.f197 0 bG6
noncomputable def aK1 (n m:Nat) (a0:List UInt8) (x5_15:Int) (x5_21:List af5) (x7_0:List UInt8) (x7_1:Int) (x7_2:Int) (x7_3:Bool) (x46:Int) (x47:Int):Option ((aa0 × Int × Int × Unit) × Unit):=
 ek6 n [.r,.r,.r,.r,.l,.r,.l,.at m] [(0,.one (.str a0)),(2,.box [.int .i64 0,.int .i64 0,.int .i64 0,.str ([]:List UInt8),.int .i64 0,.int .i64 0,.str ([]:List UInt8),.int .i64 0,.int .i64 0,.str ([]:List UInt8),.int .i64 0,.str ([]:List UInt8),.int .i64 0,.int .i64 0,.int .i64 0,.int .i64 0,.int .i64 0,.int .i64 0,.int .i64 0,.str ([]:List UInt8),.str ([]:List UInt8),.sl 94 [] .app,.int .i64 0,.str ([]:List UInt8),.sl 96 [] .app]),(5,.box [.int .i64 5,.int .i64 0,.int .i64 0,.str ([]:List UInt8),.int .i64 0,.int .i64 0,.str ([]:List UInt8),.int .i64 0,.int .i64 0,.str ([]:List UInt8),.int .i64 0,.str ([]:List UInt8),.int .i64 0,.int .i64 0,.int .i64 0,.int .i64 x5_15,.int .i64 0,.int .i64 0,.int .i64 0,.str ([]:List UInt8),.str ([]:List UInt8),.sl 94 x5_21 .app,.int .i64 0,.str ([]:List UInt8),.sl 96 [] .app]),(7,.box [.str x7_0,.int .i64 x7_1,.int .i64 x7_2,.bool x7_3]),(46,.one (.int .i64 x46)),(47,.one (.int .i64 x47))]
def cu9:Sig τ:=⟨[(false,aa3)],[ac2,ab0,ab3]⟩
def dm2:Adv:=⟨33,[[0,2],[0,2,10],[2,3,4],[0,2,16],[2,3,4],[2,5,6,7],[2,5,6,7,26],[2,3,4],[2,3,4]],[],[]⟩
noncomputable def dm3:List (Ent U):=[bK0]
noncomputable def bX7:(List UInt8) × Unit→Option ((aa0 × Int × Int × Unit) × Unit):=aa5 (U:=U) Tryz.prog dm3 dm2 0 Tryz.f251 cu9
noncomputable def dy0:Ent U:=⟨251,cu9,bX7⟩
def cv0:Sig τ:=⟨[(false,aa3)],[ac2,ab0,ab3]⟩
def dm4:Adv:=⟨94,[[0,2],[0,2,17],[2,3,4],[0,2,25],[2,3,4],[0,2,36],[2,3,4],[0,2,5,6,7],[0,2,5,6,7,46],[2,3,4],[0,2,8],[2,8,10],[2,8,10],[2,8,10],[2,8,10],[2,8],[2,3,4]],[],[]⟩
noncomputable def dm5:List (Ent U):=[dy0,bK0,ao8,ap0,ar1]
noncomputable def bX8:(List UInt8) × Unit→Option ((aa0 × Int × Int × Unit) × Unit):=aa5 (U:=U) Tryz.prog dm5 dm4 0 Tryz.f198 cv0
noncomputable def dy1:Ent U:=⟨198,cv0,bX8⟩
def cv1:Sig τ:=⟨[(false,aa3)],[ac2,ab0,ab3]⟩
def dm6:Adv:=⟨26,[[0,2],[0,2,6],[0,2,6,7],[2,3,4],[0,2,14],[2,3,4],[2,3,4]],[],[]⟩
noncomputable def dm7:List (Ent U):=[dx8,dx9,dy1]
noncomputable def bX9:(List UInt8) × Unit→Option ((aa0 × Int × Int × Unit) × Unit):=aa5 (U:=U) Tryz.prog dm7 dm6 0 Tryz.f142 cv1
noncomputable def dy2:Ent U:=⟨142,cv1,bX9⟩
def bR3:Sig τ:=⟨[(false,aa3)],[ad3,ab0,ab3]⟩
def cO9:Adv:=⟨37,[[0],[0,8],[2,3,4],[0,12],[2,3,4],[0,16],[2,3,4],[5,6,7],[5,6,7,32],[2,3,4],[2,3,4]],[],[]⟩
noncomputable def cP0:List (Ent U):=[dy2]
noncomputable def bt9:(List UInt8) × Unit→Option (((List aa0) × Int × Int × Unit) × Unit):=aa5 (U:=U) Tryz.prog cP0 cO9 0 Tryz.f82 bR3
noncomputable def cY6:Ent U:=⟨82,bR3,bt9⟩
def bR4:Sig τ:=⟨[(false,aa3)],[ab0]⟩
def cP1:Adv:=⟨11,[[0],[2]],[],[]⟩
noncomputable def cP2:List (Ent U):=[]
noncomputable def aK2:(List UInt8) × Unit→Option ((Int × Unit) × Unit):=aa5 (U:=U) Tryz.prog cP2 cP1 0 Tryz.f208 bR4
noncomputable def cg4:Ent U:=⟨208,bR4,aK2⟩
def bR5:Sig τ:=⟨[(false,aa3)],[aa3,ab0,ab3]⟩
def cP3:Adv:=⟨35,[[0],[0,5],[0,5,8],[2,3,4],[0,5,11],[2,3,4],[0,5,15],[2,3,4],[0,5,19],[2,3,4],[0,5,23],[2,3,4],[2,3,4]],[],[]⟩
noncomputable def cP4:List (Ent U):=[cg4]
noncomputable def bu0:(List UInt8) × Unit→Option (((List UInt8) × Int × Int × Unit) × Unit):=aa5 (U:=U) Tryz.prog cP4 cP3 0 Tryz.f149 bR5
noncomputable def cY7:Ent U:=⟨149,bR5,bu0⟩
def bR6:Sig τ:=⟨[(false,az3)],[az2,az3]⟩
def cP5:Adv:=⟨34,[[1,2,3],[1,2,3,4],[1,2,3,4],[1,2,3,4,17],[2,3],[1,2,3,4,5],[1,2,3,4],[2,3]],[],[]⟩
noncomputable def cP6:List (Ent U):=[ar1,ap0]
noncomputable def aB1:ac1 × Unit→Option ((ac9 × ac1 × Unit) × Unit):=aa5 (U:=U) Tryz.prog cP6 cP5 0 Tryz.f210 bR6
noncomputable def cY8:Ent U:=⟨210,bR6,aB1⟩
def bb8:Sig τ:=⟨[(false,aa3),(false,ab0)],[cy3,ab0,ab3]⟩
def bC9:Adv:=⟨37,[[0,1],[0,1,7],[1,7,8],[1,7,8,15],[1,7,8,9,10],[1,7,8,9,10],[1,7,8,9,10,27],[4,5,6],[1,7,8],[1,7,35],[1,7,8],[4,5,6]],[30],[]⟩
noncomputable def bD0:List (Ent U):=[ao8,bj0,cY8]
noncomputable def bR7 (n:Nat):(List UInt8) × Int × Unit→Option (((List ac9) × Int × Int × Unit) × Unit):=aa5 (U:=U) Tryz.prog bD0 bC9 n Tryz.f150 bb8
noncomputable def aw8:(List UInt8) × Int × Unit→Option (((List ac9) × Int × Int × Unit) × Unit):=bR7 fuel
noncomputable def bR8:Ent U:=⟨150,bb8,aw8⟩
noncomputable def dH2:=lp (tab bD0) bC9 Tryz.f150 0 bb8
noncomputable def aT9 (n m:Nat) (a1:Int) (x7:List ac9) (x8_0:List UInt8) (x8_1:Int) (x8_2:Int) (x8_3:Bool):Option (((List ac9) × Int × Int × Unit) × Unit):=
 dH2 n [.r,.r,.l,.r,.l,.at m] [(1,.one (.int .i64 a1)),(7,.one (.sl 149 x7 .app)),(8,.box [.str x8_0,.int .i64 x8_1,.int .i64 x8_2,.bool x8_3])]
def bk6:Sig τ:=⟨[(false,aa3)],[aa3]⟩
def cg5:Adv:=⟨8,[[0],[2]],[],[]⟩
noncomputable def cg6:List (Ent U):=[cg4]
noncomputable def aU0:(List UInt8) × Unit→Option (((List UInt8) × Unit) × Unit):=aa5 (U:=U) Tryz.prog cg6 cg5 0 Tryz.f151 bk6
noncomputable def co5:Ent U:=⟨151,bk6,aU0⟩
def bY0:Sig τ:=⟨[(false,aa3)],[ak1,ab4,ab3]⟩
def cH5:Adv:=⟨49,[[0],[5,7],[5,7,19],[2,3,4],[5,8],[5,8,9],[8,9,21,22,23],[8,9,21,22,23,24],[8,9,11,21,22,23],[8,9,11,21,22,23,27],[8,9,21,22,23],[8,9,11,21,22,23,31],[8,9,21,22,23],[8,9,21,22,23],[8,9,46],[2,3,4],[2,3,4]],[35],[]⟩
noncomputable def cH6:List (Ent U):=[bR8,bF6]
noncomputable def cY9 (n:Nat):(List UInt8) × Unit→Option (((List aa7) × Bool × Int × Unit) × Unit):=aa5 (U:=U) Tryz.prog cH6 cH5 n Tryz.f284 bY0
noncomputable def az8:(List UInt8) × Unit→Option (((List aa7) × Bool × Int × Unit) × Unit):=cY9 fuel
noncomputable def co6:Ent U:=⟨284,bY0,az8⟩
noncomputable def es4:=lp (tab cH6) cH5 Tryz.f284 0 bY0
noncomputable def aF5 (n m:Nat) (r1:((List ac9) × Int × Int × Unit) × Unit) (x8:List aa7) (x9:Bool) (x23:Int):Option (((List aa7) × Bool × Int × Unit) × Unit):=
 es4 n [.r,.r,.r,.r,.r,.l,.r,.l,.at m] [(8,.one (.sl 96 x8 .app)),(9,.one (.bool x9)),(21,.one (.sl 149 r1.1.1 .ro)),(22,.one (.int .i64 (r1.1.1.length:Int))),(23,.one (.int .i64 x23))]
def bR9:Sig τ:=⟨[(false,aa3),(false,ab0)],[ab4,ab3]⟩
def cP7:Adv:=⟨23,[[0,1],[0,1,12],[4,5],[7,8],[4,5]],[],[]⟩
noncomputable def cP8:List (Ent U):=[co6]
noncomputable def aX3:(List UInt8) × Int × Unit→Option ((Bool × Int × Unit) × Unit):=aa5 (U:=U) Tryz.prog cP8 cP7 0 Tryz.f294 bR9
noncomputable def cg7:Ent U:=⟨294,bR9,aX3⟩
def be6:Sig τ:=⟨[(true,aC8),(false,aa3)],[ab3]⟩
def bU4:Adv:=⟨20,[[0,1],[0,1,5,6],[0,1,6,12],[6],[4]],[],[]⟩
noncomputable def bU5:List (Ent U):=[cg7]
noncomputable def aN4:ac3 × (List UInt8) × Unit→Option ((Int × Unit) × (ac3 × Unit)):=aa5 (U:=U) Tryz.prog bU5 bU4 0 Tryz.f279 be6
noncomputable def cg8:Ent U:=⟨279,be6,aN4⟩
def cg9:Sig τ:=⟨[(false,aa3)],[aa3,ab4]⟩
def cZ0:Adv:=⟨9,[[0],[0,6],[2,3],[2,3]],[],[]⟩
noncomputable def cZ1:List (Ent U):=[]
noncomputable def az9:(List UInt8) × Unit→Option (((List UInt8) × Bool × Unit) × Unit):=aa5 (U:=U) Tryz.prog cZ1 cZ0 0 Tryz.f295 cg9
noncomputable def bg1:Ent U:=⟨295,cg9,az9⟩
def aX4:Sig τ:=⟨[(true,aC8),(false,aa3)],[ab3]⟩
def bK1:Adv:=⟨53,[[0,1],[0,1,12],[4],[0,1,5],[0,1,5,21],[4],[0,1,5,6],[0,1,5,6,7,8],[0,1,5,6,8,33],[4],[0,5,9],[0,5,9,39],[0,5,9],[],[4]],[],[]⟩
noncomputable def bK2:List (Ent U):=[cg7,bg1,aW4]
noncomputable def aH1:ac3 × (List UInt8) × Unit→Option ((Int × Unit) × (ac3 × Unit)):=aa5 (U:=U) Tryz.prog bK2 bK1 0 Tryz.f280 aX4
noncomputable def bU6:Ent U:=⟨280,aX4,aH1⟩
def aS4:Sig τ:=⟨[(true,ba2),(false,ab0)],[ab0]⟩
def bz1:Adv:=⟨21,[[0,1],[0,5,6],[5],[4]],[],[]⟩
noncomputable def bz2:List (Ent U):=[ar1]
noncomputable def ad0:ac4 × Int × Unit→Option ((Int × Unit) × (ac4 × Unit)):=aa5 (U:=U) Tryz.prog bz2 bz1 0 Tryz.f285 aS4
noncomputable def aX5:Ent U:=⟨285,aS4,ad0⟩
def aN5:Sig τ:=⟨[(true,ba2),(false,ab0)],[aa3]⟩
def bu1:Adv:=⟨21,[[0,1],[0,5,6],[5],[4]],[],[]⟩
noncomputable def bu2:List (Ent U):=[ap0]
noncomputable def ai1:ac4 × Int × Unit→Option (((List UInt8) × Unit) × (ac4 × Unit)):=aa5 (U:=U) Tryz.prog bu2 bu1 0 Tryz.f286 aN5
noncomputable def aC1:Ent U:=⟨286,aN5,ai1⟩
def aF6:Sig τ:=⟨[(true,ba2),(false,ab0),(false,ab0),(false,ab0)],[aa3,ab3]⟩
def bg2:Adv:=⟨46,[[0,1,2,3],[0,2,3,10],[0,2,10,11],[0,11,36],[8,9],[0,12],[12,44],[8,9],[8,9]],[],[]⟩
noncomputable def bg3:List (Ent U):=[aJ2,bC2,aC1]
noncomputable def ak3:ac4 × Int × Int × Int × Unit→Option (((List UInt8) × Int × Unit) × (ac4 × Unit)):=aa5 (U:=U) Tryz.prog bg3 bg2 0 Tryz.f287 aF6
noncomputable def aK3:Ent U:=⟨287,aF6,ak3⟩
def aN6:Sig τ:=⟨[(true,ba2)],[ak1,ab4,ab3]⟩
def bu3:Adv:=⟨16,[[0],[2,3,4]],[],[]⟩
noncomputable def bu4:List (Ent U):=[bj0,aC1,co6]
noncomputable def al7:ac4 × Unit→Option (((List aa7) × Bool × Int × Unit) × (ac4 × Unit)):=aa5 (U:=U) Tryz.prog bu4 bu3 0 Tryz.f288 aN6
noncomputable def aS5:Ent U:=⟨288,aN6,al7⟩
def bj1:Sig τ:=⟨[(false,az2)],[cm8,ab4,ab3]⟩
def bS0:Adv:=⟨93,[[1,2],[2,5],[2,5,6],[2,5,6,24,25,26],[2,5,6,24,25,26,27],[2,5,6,8,24,25,26],[2,5,6,24,25,26],[2,5,6,24,25,26],[2,5,6,38,39,40],[2,5,6,38,39,40,41],[2,5,6,10,38,39,40],[2,5,6,38,39,40],[2,5,6,38,39,40],[2,5,6,49],[2,3,4],[2,5,6,56],[2,3,4],[2,5,6,11,12],[2,5,6,11,12,73],[2,3,4],[2,6,11,12,13,14],[2,6,11,12,13,14,83],[2,3,4],[2,6,14],[2,6,90],[2,6],[2,3,4]],[],[]⟩
noncomputable def bS1:List (Ent U):=[ao8,aX5,aK3,aS5]
noncomputable def ch0 (n:Nat):ac9 × Unit→Option ((ai4 × Bool × Int × Unit) × Unit):=aa5 (U:=U) Tryz.prog bS1 bS0 n Tryz.f296 bj1
noncomputable def bu5:ac9 × Unit→Option ((ai4 × Bool × Int × Unit) × Unit):=ch0 fuel
noncomputable def cZ2:Ent U:=⟨296,bj1,bu5⟩
noncomputable def cP9:=lp (tab bS1) bS0 Tryz.f296 0 bj1
noncomputable def aq0 (n m:Nat) (x6_0:Int) (x6_1:Int) (x6_2:Int) (x6_3:Int) (x19_0:List UInt8) (x19_1:Int) (x19_2:Int) (x19_3:Bool) (x26:Int):Option ((ai4 × Bool × Int × Unit) × Unit):=
 cP9 n [.r,.r,.r,.l,.r,.l,.at m] [(2,.box [.int .i64 0,.int .i64 0,.int .i64 0,.int .i64 0,.int .i64 0,.int .i64 0,.int .i64 0,.int .i64 0,.str ([]:List UInt8),.sl 96 [] .app]),(5,.one (.ref 19 0)),(6,.box [.int .i64 x6_0,.int .i64 x6_1,.int .i64 x6_2,.int .i64 x6_3,.int .i64 0,.int .i64 0,.int .i64 0,.int .i64 0,.str ([]:List UInt8),.sl 96 [] .app]),(19,.box [.str x19_0,.int .i64 x19_1,.int .i64 x19_2,.bool x19_3]),(24,.one (.prow 6 [0,1,2,3])),(25,.one (.int .i64 4)),(26,.one (.int .i64 x26))]
noncomputable def at0 (n m:Nat) (x6_0:Int) (x6_1:Int) (x6_2:Int) (x6_3:Int) (x6_4:Int) (x6_5:Int) (x6_6:Int) (x19_0:List UInt8) (x19_1:Int) (x19_2:Int) (x19_3:Bool) (x40:Int):Option ((ai4 × Bool × Int × Unit) × Unit):=
 cP9 n [.r,.r,.r,.r,.l,.r,.l,.at m] [(2,.box [.int .i64 0,.int .i64 0,.int .i64 0,.int .i64 0,.int .i64 0,.int .i64 0,.int .i64 0,.int .i64 0,.str ([]:List UInt8),.sl 96 [] .app]),(5,.one (.ref 19 0)),(6,.box [.int .i64 x6_0,.int .i64 x6_1,.int .i64 x6_2,.int .i64 x6_3,.int .i64 x6_4,.int .i64 x6_5,.int .i64 x6_6,.int .i64 0,.str ([]:List UInt8),.sl 96 [] .app]),(19,.box [.str x19_0,.int .i64 x19_1,.int .i64 x19_2,.bool x19_3]),(38,.one (.prow 6 [4,5,6])),(39,.one (.int .i64 3)),(40,.one (.int .i64 x40))]
def bD1:Sig τ:=⟨[(false,aa3),(false,ab0)],[aa3]⟩
def cA8:Adv:=⟨18,[[0,1],[0,1,9],[4],[0,5],[5],[4]],[],[]⟩
noncomputable def cA9:List (Ent U):=[]
noncomputable def ap1:(List UInt8) × Int × Unit→Option (((List UInt8) × Unit) × Unit):=aa5 (U:=U) Tryz.prog cA9 cA8 0 Tryz.f301 bD1
noncomputable def bS2:Ent U:=⟨301,bD1,ap1⟩
def aF7:Sig τ:=⟨[(true,aC8),(false,cm8)],[aa3,ab4]⟩
def bg4:Adv:=⟨56,[[0,3],[0,3,6,7],[0,3,6,7,16],[0,3,6,7],[3,6,7,8],[3,6,7,8,27],[3,6,7,8],[3,6,7,8,29],[4,5],[3,6,7,8],[3,7,9],[3,9,46],[3,9],[4,5]],[],[]⟩
noncomputable def bg5:List (Ent U):=[bS2,bg1,bf3]
noncomputable def av4:ac3 × ai4 × Unit→Option (((List UInt8) × Bool × Unit) × (ac3 × Unit)):=aa5 (U:=U) Tryz.prog bg5 bg4 0 Tryz.f297 aF7
noncomputable def bn5:Ent U:=⟨297,aF7,av4⟩
def aN7:Sig τ:=⟨[(true,aC8),(false,cm8),(false,aa3)],[]⟩
def bu6:Adv:=⟨38,[[0,2,4],[0,2,4,9],[0,2,4,13],[0,2,4],[0,2,25],[0,6],[]],[],[]⟩
noncomputable def bu7:List (Ent U):=[aw3]
noncomputable def aC2:ac3 × ai4 × (List UInt8) × Unit→Option ((Unit) × (ac3 × Unit)):=aa5 (U:=U) Tryz.prog bu7 bu6 0 Tryz.f298 aN7
noncomputable def bz3:Ent U:=⟨298,aN7,aC2⟩
def aS6:Sig τ:=⟨[(true,aC8),(false,cm8)],[ab4]⟩
def bz4:Adv:=⟨26,[[0,3],[4]],[],[]⟩
noncomputable def bz5:List (Ent U):=[]
noncomputable def aE4:ac3 × ai4 × Unit→Option ((Bool × Unit) × (ac3 × Unit)):=aa5 (U:=U) Tryz.prog bz5 bz4 0 Tryz.f299 aS6
noncomputable def bK3:Ent U:=⟨299,aS6,aE4⟩
def aK4:Sig τ:=⟨[(true,aC8),(false,az2)],[ad3,ab3]⟩
def bn6:Adv:=⟨71,[[0,3],[0,6,7,8],[0,6,8,18],[4,5],[0,6,7,9],[0,6,9,27],[4,5],[0,6,9],[0,6,9,35],[4,5],[0,10],[0,10,52],[10],[4,5]],[],[]⟩
noncomputable def bn7:List (Ent U):=[cZ2,bn5,bz3,bK3,aW4]
noncomputable def ay2:ac3 × ac9 × Unit→Option (((List aa0) × Int × Unit) × (ac3 × Unit)):=aa5 (U:=U) Tryz.prog bn7 bn6 0 Tryz.f281 aK4
noncomputable def bu8:Ent U:=⟨281,aK4,ay2⟩
def cv2:Sig τ:=⟨[(false,aV7),(false,az2)],[aV7,ad3,ab3]⟩
def dm8:Adv:=⟨41,[[2,3,4],[3,4,7],[3,4,7,8],[3,4,7,8,9],[3,4,7,8,9,14],[3,4,7,8,9,14,15],[4,7,8,9],[3,4,7,8,9,14,21],[4,7,8,9],[3,4,7,8,9,27],[4,7,8,9],[4,5,6]],[],[]⟩
noncomputable def dm9:List (Ent U):=[cg8,bU6,bu8]
noncomputable def bb9:ad8 × ac9 × Unit→Option ((ad8 × (List aa0) × Int × Unit) × Unit):=aa5 (U:=U) Tryz.prog dm9 dm8 0 Tryz.f254 cv2
noncomputable def dy3:Ent U:=⟨254,cv2,bb9⟩
def aS7:Sig τ:=⟨[(true,cy7)],[ab0]⟩
def bz6:Adv:=⟨18,[[0],[0,3,4],[3],[2]],[],[]⟩
noncomputable def bz7:List (Ent U):=[ar1]
noncomputable def ab8:ag9 × Unit→Option ((Int × Unit) × (ag9 × Unit)):=aa5 (U:=U) Tryz.prog bz7 bz6 0 Tryz.f282 aS7
noncomputable def bK4:Ent U:=⟨282,aS7,ab8⟩
def aN8:Sig τ:=⟨[(true,cy7),(false,ab0)],[aa3]⟩
def bu9:Adv:=⟨36,[[0,1],[0,1,5,6],[1,5],[1,5,7,8],[5,7,33],[4],[4]],[],[]⟩
noncomputable def bv0:List (Ent U):=[ap0,bg1]
noncomputable def as1:ag9 × Int × Unit→Option (((List UInt8) × Unit) × (ag9 × Unit)):=aa5 (U:=U) Tryz.prog bv0 bu9 0 Tryz.f283 aN8
noncomputable def bz8:Ent U:=⟨283,aN8,as1⟩
def ch1:Sig τ:=⟨[(false,az2)],[ac2,ab4,ab3]⟩
def cZ3:Adv:=⟨103,[[1,2],[1,2,5],[1,2,5,6],[1,2,5,6,21],[1,2,5,6,21,22],[1,2,5,6],[1,2,5,6],[1,2,5,6,21,32],[1,2,5,6],[1,2,5,6,21,37],[1,2,5,6],[1,2,5,6,49],[1,2,5,6],[1,2,5,6,63],[1,2,5,6],[1,2,5,6,73],[2,3,4],[1,2,5,6,77],[2,3,4],[2,6,7,8,9],[2,6,7,9,97],[2,3,4],[2,6],[2,3,4]],[],[]⟩
noncomputable def cZ4:List (Ent U):=[ao8,bK4,co6,bz8]
noncomputable def aF8:ac9 × Unit→Option ((aa0 × Bool × Int × Unit) × Unit):=aa5 (U:=U) Tryz.prog cZ4 cZ3 0 Tryz.f255 ch1
noncomputable def dn0:Ent U:=⟨255,ch1,aF8⟩
def bD2:Sig τ:=⟨[(false,ab0),(false,aa3),(false,ab0)],[aa3]⟩
def cB0:Adv:=⟨29,[[0,1,2],[0,1,2,7],[0,2,8],[2,8,20],[2,8],[6]],[],[]⟩
noncomputable def cB1:List (Ent U):=[aJ2,bS2,bg1,bf3]
noncomputable def aD2:Int × (List UInt8) × Int × Unit→Option (((List UInt8) × Unit) × Unit):=aa5 (U:=U) Tryz.prog cB1 cB0 0 Tryz.f289 bD2
noncomputable def cQ0:Ent U:=⟨289,bD2,aD2⟩
def ch2:Sig τ:=⟨[(false,az2)],[ac2,ab4,ab3]⟩
def cZ5:Adv:=⟨102,[[1,2],[1,2,5],[1,2,5,6],[1,2,5,6],[1,2,5,6,25],[1,2,5,6],[1,2,5,6],[1,2,5,6],[1,2,5,6],[1,2,5,6,38],[2,3,4],[1,2,5,6,45],[2,3,4],[1,2,5,6,7,8],[1,2,5,6,7,8,60],[2,3,4],[1,2,6,7,8,9,10],[2,6,7,8,9,89],[2,3,4],[2,6],[2,3,4]],[],[]⟩
noncomputable def cZ6:List (Ent U):=[ao8,aX5,aC1,aK3,aS5,cQ0]
noncomputable def bg6:ac9 × Unit→Option ((aa0 × Bool × Int × Unit) × Unit):=aa5 (U:=U) Tryz.prog cZ6 cZ5 0 Tryz.f256 ch2
noncomputable def dn1:Ent U:=⟨256,ch2,bg6⟩
def bS3:Sig τ:=⟨[(false,aV7),(false,az2)],[aV7,ad3,ab3]⟩
def cQ1:Adv:=⟨62,[[2,3,4],[2,3,4,7],[2,3,4,7],[2,3,4,7,9],[2,3,4,7,9,11],[2,4,7,8,9],[2,3,4,7,9,11,17],[2,3,4,7,9,11,17],[4,5,6],[2,3,4,7,9,11,21],[2,3,4,7,9,11,21],[2,3,4,7,9,11,21],[4,5,6],[2,3,4,7,9,11,31],[2,3,4,7,9,11,31],[2,3,4,7,9,11,31],[2,3,4,7,9,11,31],[2,4,7,8,9],[2,3,4,7,9,11,42],[2,3,4,7,9,42],[2,4,7,8,9],[2,4,7,9,56],[4,5,6],[4,5,6]],[],[999999]⟩
noncomputable def cQ2:List (Ent U):=[dy3,dn0,dn1]
noncomputable def bv1:ad8 × ac9 × Unit→Option ((ad8 × (List aa0) × Int × Unit) × Unit):=aa5 (U:=U) Tryz.prog cQ2 cQ1 0 Tryz.f211 bS3
noncomputable def cZ7:Ent U:=⟨211,bS3,bv1⟩
def bc0:Sig τ:=⟨[(false,cy3)],[ad3,aV7,ab0,ab3]⟩
def bD3:Adv:=⟨43,[[0,3],[0,3,6],[0,3,6,7],[0,3,6,7,13,14],[0,3,6,7,13,14,15],[0,3,6,7,8,13,14],[0,3,6,7,8,9,10,11,13,14],[0,3,6,7,8,9,10,11,13,14,28],[2,3,4,5],[0,3,6,7,10,13,14],[0,3,6,7,13,14],[0,3,6,7,13,14],[2,3,4,5]],[37],[]⟩
noncomputable def bD4:List (Ent U):=[cZ7]
noncomputable def bS4 (n:Nat):(List ac9) × Unit→Option (((List aa0) × ad8 × Int × Int × Unit) × Unit):=aa5 (U:=U) Tryz.prog bD4 bD3 n Tryz.f152 bc0
noncomputable def bj2:(List ac9) × Unit→Option (((List aa0) × ad8 × Int × Int × Unit) × Unit):=bS4 fuel
noncomputable def cQ3:Ent U:=⟨152,bc0,bj2⟩
noncomputable def dH3:=lp (tab bD4) bD3 Tryz.f152 0 bc0
noncomputable def aU1 (n m:Nat) (a0:List ac9) (x6:List aa0) (x7_0:List UInt8) (x7_1:List UInt8) (x7_2:List UInt8) (x7_3:List UInt8) (x7_4:List UInt8) (x7_5:List UInt8) (x7_6:List UInt8) (x14:Int):Option (((List aa0) × ad8 × Int × Int × Unit) × Unit):=
 dH3 n [.r,.r,.r,.l,.r,.l,.at m] [(0,.one (.sl 149 a0 .ro)),(3,.box [.str ([]:List UInt8),.str ([]:List UInt8),.str ([]:List UInt8),.str ([]:List UInt8),.str ([]:List UInt8),.str ([]:List UInt8),.str ([]:List UInt8)]),(6,.one (.sl 77 x6 .app)),(7,.box [.str x7_0,.str x7_1,.str x7_2,.str x7_3,.str x7_4,.str x7_5,.str x7_6]),(13,.one (.int .i64 (a0.length:Int))),(14,.one (.int .i64 x14))]
def bv2:Sig τ:=⟨[(false,aa3)],[ad3,ab0,ab3]⟩
def co7:Adv:=⟨55,[[0],[0,5,6,7],[0,5,6,7,18],[2,3,4],[0,5,6,7,8],[0,5,6,7,8,28],[2,3,4],[6,7,8],[6,7,8,42],[2,3,4],[6,7,9],[2,3,4]],[],[]⟩
noncomputable def co8:List (Ent U):=[cY7,bR8,co5,cQ3]
noncomputable def bc1:(List UInt8) × Unit→Option (((List aa0) × Int × Int × Unit) × Unit):=aa5 (U:=U) Tryz.prog co8 co7 0 Tryz.f85 bv2
noncomputable def cB2:Ent U:=⟨85,bv2,bc1⟩
def aK5:Sig τ:=⟨[(false,ab0),(false,aa3)],[ad3,ab0,ab3]⟩
def bD5:Adv:=⟨23,[[0,1],[1,7,8],[1,7,15],[4,5,6],[4,5,6]],[],[]⟩
noncomputable def bD6:List (Ent U):=[dl9,cO8,cY6,cB2]
noncomputable def aU2:Tab U:=inl Tryz.prog 44 (tab bD6) ct1 0 Tryz.f44 (tab bD6)
noncomputable def bj3:Int × (List UInt8) × Unit→Option (((List aa0) × Int × Int × Unit) × Unit):=cF5 (U:=U) Tryz.prog aU2 bD5 0 Tryz.f27 aK5
noncomputable def cQ4:Ent U:=⟨27,aK5,bj3⟩
def aX6:Sig τ:=⟨[(true,aQ6),(false,ab0),(false,aa3)],[ad3,ab0,ab3]⟩
def bK5:Adv:=⟨31,[[0,1,2],[0,1,2,15],[6,7,8],[0,2,9,10,11],[9,10,11],[6,7,8]],[],[999999]⟩
noncomputable def bK6:List (Ent U):=[ar9,cQ4,be3]
noncomputable def aH2:ab2 × Int × (List UInt8) × Unit→Option (((List aa0) × Int × Int × Unit) × (ab2 × Unit)):=aa5 (U:=U) Tryz.prog bK6 bK5 0 Tryz.f17 aX6
noncomputable def bU7:Ent U:=⟨17,aX6,aH2⟩
def bS5:Sig τ:=⟨[(true,aQ6),(false,aF1)],[aI8]⟩
def cQ5:Adv:=⟨37,[[0,3,4],[0,3,4,5],[0,3,4,5,7],[4,5],[4,5],[4]],[],[999999]⟩
noncomputable def cQ6:List (Ent U):=[cf9,bU7]
noncomputable def au4:ab2 × ae1 × Unit→Option ((ao2 × Unit) × (ab2 × Unit)):=aa5 (U:=U) Tryz.prog cQ6 cQ5 0 Tryz.f12 bS5
noncomputable def cZ8:Ent U:=⟨12,bS5,au4⟩
def aN9:Sig τ:=⟨[(false,ad3),(false,ad3)],[ab4]⟩
def bk7:Adv:=⟨27,[[0,1],[0,1,10],[4],[0,1,5],[0,1,5,14],[0,1,5],[0,1,5,26],[4],[4]],[],[]⟩
noncomputable def bk8:List (Ent U):=[cU1]
noncomputable def bv3 (n:Nat):(List aa0) × (List aa0) × Unit→Option ((Bool × Unit) × Unit):=aa5 (U:=U) Tryz.prog bk8 bk7 n Tryz.f18 aN9
noncomputable def aU3:(List aa0) × (List aa0) × Unit→Option ((Bool × Unit) × Unit):=bv3 fuel
noncomputable def co9:Ent U:=⟨18,aN9,aU3⟩
noncomputable def dp1:=lp (tab bk8) bk7 Tryz.f18 0 aN9
noncomputable def aH3 (n m:Nat) (a0:List aa0) (a1:List aa0) (x5:Int):Option ((Bool × Unit) × Unit):=
 dp1 n [.r,.r,.l,.r,.l,.at m] [(0,.one (.sl 77 a0 .ro)),(1,.one (.sl 77 a1 .ro)),(5,.one (.int .i64 x5))]
def bj4:Sig τ:=⟨[(false,bh4),(false,bh4)],[ab4]⟩
def bS6:Adv:=⟨26,[[0,1],[0,1,10],[4],[0,1,5],[0,1,5,14],[0,1,5],[0,1,5,25],[4],[4]],[],[]⟩
noncomputable def bS7:List (Ent U):=[]
noncomputable def ch3 (n:Nat):(List (List UInt8)) × (List (List UInt8)) × Unit→Option ((Bool × Unit) × Unit):=aa5 (U:=U) Tryz.prog bS7 bS6 n Tryz.f23 bj4
noncomputable def ch4:(List (List UInt8)) × (List (List UInt8)) × Unit→Option ((Bool × Unit) × Unit):=ch3 fuel
noncomputable def cZ9:Ent U:=⟨23,bj4,ch4⟩
noncomputable def dU8:=lp (tab bS7) bS6 Tryz.f23 0 bj4
noncomputable def bc2 (n m:Nat) (a0:List (List UInt8)) (a1:List (List UInt8)) (x5:Int):Option ((Bool × Unit) × Unit):=
 dU8 n [.r,.r,.l,.r,.l,.at m] [(0,.one (.sl 9 a0 .ro)),(1,.one (.sl 9 a1 .ro)),(5,.one (.int .i64 x5))]
def bS8:Sig τ:=⟨[(false,aI8),(false,aI8)],[ab4]⟩
def cQ7:Adv:=⟨31,[[2,3],[4]],[],[999999]⟩
noncomputable def cQ8:List (Ent U):=[co9,cZ9]
noncomputable def aB2:ao2 × ao2 × Unit→Option ((Bool × Unit) × Unit):=aa5 (U:=U) Tryz.prog cQ8 cQ7 0 Tryz.f11 bS8
noncomputable def da0:Ent U:=⟨11,bS8,aB2⟩
def aU4:Sig τ:=⟨[(true,cy2)],[dG5]⟩
noncomputable def am4:af6 × Unit→Option ((Int × Unit) × (af6 × Unit)):=aV8
noncomputable def aB3:Ent U:=⟨24,aU4,am4⟩
def aX7:Sig τ:=⟨[(true,aQ6)],[ab0,ab0,ab0]⟩
def bK7:Adv:=⟨17,[[0],[2,3,4]],[],[999999]⟩
noncomputable def bK8:List (Ent U):=[aB3]
noncomputable def ax2:ab2 × Unit→Option ((Int × Int × Int × Unit) × (ab2 × Unit)):=aa5 (U:=U) Tryz.prog bK8 bK7 0 Tryz.f13 aX7
noncomputable def bU8:Ent U:=⟨13,aX7,ax2⟩
def aq1:Sig τ:=⟨[(false,bj9)],[ab4]⟩
def aX8:Adv:=⟨105,[[0],[0,3,4,5],[0,3,4,5,31],[2],[0,3,4,5,6],[0,3,4,5,6,36],[0,3,4,5,6],[0,3,4,5,6,7],[0,3,4,5,6,7],[0,3,4,5,6,7,59],[0,3,4,5,6,7],[0,3,4,5,6,70],[2],[0,5,8,9,10],[0,8,9,10,11,12,13],[2]],[],[999999]⟩
noncomputable def aX9:List (Ent U):=[di8,bM9,cZ8,bT7,da0,bU8]
noncomputable def be7 (n:Nat):(List ae1) × Unit→Option ((Bool × Unit) × Unit):=aa5 (U:=U) Tryz.prog aX9 aX8 n Tryz.f4 aq1
noncomputable def be8:(List ae1) × Unit→Option ((Bool × Unit) × Unit):=be7 fuel
noncomputable def dh0:Ent U:=⟨4,aq1,be8⟩
noncomputable def da1:=lp (tab aX9) aX8 Tryz.f4 0 aq1
noncomputable def al8 (n m:Nat) (a0:List ae1) (x6:Int) (x14_0:Int) (x14_1:Int) (x14_2:Int) (x14_4:Int) (x14_5:Int) (x14_6:Int) (x14_7:Int) (x15_0:Int) (x15_1:Int) (x15_2:Int) (x15_4:Int) (x15_5:Int) (x15_6:Int) (x15_7:Int) (x16_0:Int) (x16_1:Int) (x16_2:Int) (x16_4:Int) (x16_5:Int) (x16_6:Int) (x16_7:Int):Option ((Bool × Unit) × Unit):=
 da1 n [.r,.r,.r,.l,.r,.l,.at m] [(0,.one (.sl 39 a0 .ro)),(3,.one (.ref 14 0)),(4,.one (.ref 15 0)),(5,.one (.ref 16 0)),(6,.one (.int .i64 x6)),(14,.box [.int .u32 x14_0,.int .i32 x14_1,.int .u32 x14_2,.any,.int .u32 x14_4,.int .i64 x14_5,.int .i64 x14_6,.int .i64 x14_7]),(15,.box [.int .u32 x15_0,.int .i32 x15_1,.int .u32 x15_2,.any,.int .u32 x15_4,.int .i64 x15_5,.int .i64 x15_6,.int .i64 x15_7]),(16,.box [.int .u32 x16_0,.int .i32 x16_1,.int .u32 x16_2,.any,.int .u32 x16_4,.int .i64 x16_5,.int .i64 x16_6,.int .i64 x16_7])]
def bS9:Sig τ:=⟨[],[ek2]⟩
def cQ9:Adv:=⟨2,[[0],[0]],[],[]⟩
noncomputable def cR0:List (Ent U):=[]
noncomputable def ch5:Unit→Option ((cr5 × Unit) × Unit):=aa5 (U:=U) Tryz.prog cR0 cQ9 0 Tryz.f93 bS9
noncomputable def da2:Ent U:=⟨93,bS9,ch5⟩
def ch6:Sig τ:=⟨[(false,ab0)],[aa3]⟩
def da3:Adv:=⟨12,[[0],[0,8],[2],[2]],[],[]⟩
noncomputable def da4:List (Ent U):=[da2]
noncomputable def cv3:Int × Unit→Option (((List UInt8) × Unit) × Unit):=aa5 (U:=U) Tryz.prog da4 da3 0 Tryz.f52 ch6
noncomputable def ek7:Ent U:=⟨52,ch6,cv3⟩
end Go.VI
