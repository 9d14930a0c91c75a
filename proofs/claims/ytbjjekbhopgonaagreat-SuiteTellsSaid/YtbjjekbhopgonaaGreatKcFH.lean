import Derived.Test.YtbjjekbhopgonaaGreatKcFTy
set_option linter.unusedVariables false
set_option linter.unusedSimpArgs false
set_option maxRecDepth 1000000
set_option maxHeartbeats 4000000
namespace Go.VI
open Go Go.Proofs
def bf7:Sig τ:=⟨[(false,a17)],[a15]⟩
def c60:Adv:=⟨81,[[1],[1,50],[2],[1,3],[1,3,55],[1,3],[1,3,65],[2],[1,4],[1,4,70],[1,4],[1,4,80],[2],[2]],[],[]⟩
noncomputable def c61:List (Ent U):=[]
noncomputable def cv8 (n:Nat):a00 × Unit→Option ((Bool × Unit) × Unit):=a05 (U:=U) Tryz.prog c61 c60 n Tryz.f40 bf7
noncomputable def cv9:a00 × Unit→Option ((Bool × Unit) × Unit):=cv8 a04
noncomputable def du2:Ent U:=⟨40,bf7,cv9⟩
noncomputable def d85:=lp (tab c61) c60 Tryz.f40 0 bf7
noncomputable def b50 (n m:Nat) (a0:a00) (x3:Int):Option ((Bool × Unit) × Unit):=
 d85 n [.r,.r,.l,.r,.l,.at m] [(1,.box [.int .i64 a0.kind,.int .i64 a0.cmd,.int .i64 a0.ver,.str a0.auth,.int .i64 a0.family,.int .i64 a0.ae,.str a0.prefix_,.int .i64 a0.plen,.int .i64 a0.tag,.str a0.next,.int .i64 a0.metric,.str a0.id,.int .i64 a0.seq,.int .i64 a0.seq2,.int .i64 a0.interval,.int .i64 a0.flags,.int .i64 a0.hops,.int .i64 a0.nonce,.int .i64 a0.cost,.str a0.addr,.str a0.orig,.sl 87 a0.list .ro,.int .i64 a0.type_,.str a0.data,.sl 89 a0.subs .ro]),(3,.one (.int .i64 x3))]
noncomputable def b51 (n m:Nat) (a0:a00) (x4:Int):Option ((Bool × Unit) × Unit):=
 d85 n [.r,.r,.r,.l,.r,.l,.at m] [(1,.box [.int .i64 a0.kind,.int .i64 a0.cmd,.int .i64 a0.ver,.str a0.auth,.int .i64 a0.family,.int .i64 a0.ae,.str a0.prefix_,.int .i64 a0.plen,.int .i64 a0.tag,.str a0.next,.int .i64 a0.metric,.str a0.id,.int .i64 a0.seq,.int .i64 a0.seq2,.int .i64 a0.interval,.int .i64 a0.flags,.int .i64 a0.hops,.int .i64 a0.nonce,.int .i64 a0.cost,.str a0.addr,.str a0.orig,.sl 87 a0.list .ro,.int .i64 a0.type_,.str a0.data,.sl 89 a0.subs .ro]),(4,.one (.int .i64 x4))]
def aP8:Sig τ:=⟨[(false,a26),(false,a13)],[a15]⟩
def bf8:Adv:=⟨22,[[0,1],[0,9],[4],[0,5],[0,5,13],[0,5],[0,5,21],[4],[4]],[],[]⟩
noncomputable def bf9:List (Ent U):=[du2]
noncomputable def bt9 (n:Nat):(List a00) × Int × Unit→Option ((Bool × Unit) × Unit):=a05 (U:=U) Tryz.prog bf9 bf8 n Tryz.f15 aP8
noncomputable def bu0:(List a00) × Int × Unit→Option ((Bool × Unit) × Unit):=bt9 a04
noncomputable def cD2:Ent U:=⟨15,aP8,bu0⟩
noncomputable def dP5:=lp (tab bf9) bf8 Tryz.f15 0 aP8
noncomputable def aG9 (n m:Nat) (a0:List a00) (x5:Int):Option ((Bool × Unit) × Unit):=
 dP5 n [.r,.r,.l,.r,.l,.at m] [(0,.one (.sl 29 a0 .ro)),(5,.one (.int .i64 x5))]
def b52:Sig τ:=⟨[(false,a02)],[a15]⟩
def bM3:Adv:=⟨15,[[0],[6,7,8],[6,7,8,9],[4,6,7,8],[6,7,8,13],[2],[6,7,8],[2]],[],[]⟩
noncomputable def bM4:List (Ent U):=[]
noncomputable def c62 (n:Nat):(List UInt8) × Unit→Option ((Bool × Unit) × Unit):=a05 (U:=U) Tryz.prog bM4 bM3 n Tryz.f134 b52
noncomputable def a49:(List UInt8) × Unit→Option ((Bool × Unit) × Unit):=c62 a04
noncomputable def aT1:Ent U:=⟨134,b52,a49⟩
noncomputable def ek0:=lp (tab bM4) bM3 Tryz.f134 0 b52
noncomputable def aW9 (n m:Nat) (a0:List UInt8) (x8:Int):Option ((Bool × Unit) × Unit):=
 ek0 n [.r,.l,.r,.l,.at m] [(6,.one (.bs 5 a0 .app)),(7,.one (.int .i64 (a0.length:Int))),(8,.one (.int .i64 x8))]
def cw0:Sig τ:=⟨[(false,a02)],[a13,a14]⟩
def du3:Adv:=⟨49,[[0],[0,4],[0,4,7],[2,3],[0,4,11],[2,3],[0,4,20],[2,3],[4,29],[2,3],[4,34],[2,3],[4,40],[2,3],[44],[2,3],[2,3]],[],[]⟩
noncomputable def du4:List (Ent U):=[aT1]
noncomputable def bZ9:(List UInt8) × Unit→Option ((Int × Int × Unit) × Unit):=a05 (U:=U) Tryz.prog du4 du3 0 Tryz.f137 cw0
noncomputable def dP6:Ent U:=⟨137,cw0,bZ9⟩
def ag4:Sig τ:=⟨[(false,a02),(false,a02)],[a15]⟩
def as3:Adv:=⟨18,[[0,1],[4]],[],[]⟩
noncomputable def as4:List (Ent U):=[]
noncomputable def ac4:(List UInt8) × (List UInt8) × Unit→Option ((Bool × Unit) × Unit):=a05 (U:=U) Tryz.prog as4 as3 0 Tryz.f248 ag4
noncomputable def ah8:Ent U:=⟨248,ag4,ac4⟩
def ag5:Sig τ:=⟨[(false,a02),(false,a02)],[a02,a15]⟩
def as5:Adv:=⟨15,[[0,1],[0,1,9],[4,5],[4,5]],[],[]⟩
noncomputable def as6:List (Ent U):=[ah8]
noncomputable def ah9:(List UInt8) × (List UInt8) × Unit→Option (((List UInt8) × Bool × Unit) × Unit):=a05 (U:=U) Tryz.prog as6 as5 0 Tryz.f246 ag5
noncomputable def at7:Ent U:=⟨246,ag5,ah9⟩
def aH0:Sig τ:=⟨[(false,a02),(false,a02)],[a02,a15]⟩
def bg0:Adv:=⟨11,[[0,1],[4,5]],[],[]⟩
noncomputable def bg1:List (Ent U):=[at7]
noncomputable def aO1:(List UInt8) × (List UInt8) × Unit→Option (((List UInt8) × Bool × Unit) × Unit):=a05 (U:=U) Tryz.prog bg1 bg0 0 Tryz.f203 aH0
noncomputable def bq5:Ent U:=⟨203,aH0,aO1⟩
def cw1:Sig τ:=⟨[(false,a02)],[a02,a15]⟩
def du5:Adv:=⟨19,[[0],[4,5],[4,17],[2,3],[2,3]],[],[]⟩
noncomputable def du6:List (Ent U):=[bq5]
noncomputable def c00:(List UInt8) × Unit→Option (((List UInt8) × Bool × Unit) × Unit):=a05 (U:=U) Tryz.prog du6 du5 0 Tryz.f138 cw1
noncomputable def dP7:Ent U:=⟨138,cw1,c00⟩
def bM5:Sig τ:=⟨[(false,a02)],[as2]⟩
def cW2:Adv:=⟨7,[[0,2],[2]],[],[]⟩
noncomputable def cW3:List (Ent U):=[]
noncomputable def ab8:(List UInt8) × Unit→Option ((a34 × Unit) × Unit):=a05 (U:=U) Tryz.prog cW3 cW2 0 Tryz.f129 bM5
noncomputable def ag6:Ent U:=⟨129,bM5,ab8⟩
def bu1:Sig τ:=⟨[(false,as2),(false,a13)],[as2,a15]⟩
def cD3:Adv:=⟨29,[[1,2,4],[1,2,4,20],[2,4],[4,5],[2,4],[4,5]],[],[]⟩
noncomputable def cD4:List (Ent U):=[]
noncomputable def aw4:a34 × Int × Unit→Option ((a34 × Bool × Unit) × Unit):=a05 (U:=U) Tryz.prog cD4 cD3 0 Tryz.f233 bu1
noncomputable def bM6:Ent U:=⟨233,bu1,aw4⟩
def b53:Sig τ:=⟨[(false,as2),(false,a13)],[a13,as2]⟩
def bM7:Adv:=⟨49,[[1,2,5],[1,2,5,16],[2,5],[4,5],[2,5,6,7],[2,5,6,26],[4,5],[2,5,6,8],[5,6,8,35,36,37],[5,6,8,35,36,37,38],[5,6,8,10,35,36,37],[5,6,8,35,36,37],[5,6,8,35,36,37],[4,5]],[],[]⟩
noncomputable def bM8:List (Ent U):=[bM6]
noncomputable def bg2 (n:Nat):a34 × Int × Unit→Option ((Int × a34 × Unit) × Unit):=a05 (U:=U) Tryz.prog bM8 bM7 n Tryz.f197 b53
noncomputable def a75:a34 × Int × Unit→Option ((Int × a34 × Unit) × Unit):=bg2 a04
noncomputable def aj1:Ent U:=⟨197,b53,a75⟩
noncomputable def ek1:=lp (tab bM8) bM7 Tryz.f197 0 b53
noncomputable def aX0 (n m:Nat) (r1:(a34 × Bool × Unit) × Unit) (x8:Int) (x35:List UInt8) (x36:Int) (x37:Int):Option ((Int × a34 × Unit) × Unit):=
 ek1 n [.r,.r,.r,.r,.r,.l,.r,.l,.at m] [(5,.box [.str ([]:List UInt8),.int .i64 0,.int .i64 0,.bool false]),(6,.box [.str r1.1.1.s,.int .i64 r1.1.1.at_,.int .i64 r1.1.1.end_,.bool r1.1.1.bad]),(8,.one (.int .i64 x8)),(35,.one (.bs 5 x35 .app)),(36,.one (.int .i64 x36)),(37,.one (.int .i64 x37))]
def aO2:Sig τ:=⟨[(true,cD0),(false,a13)],[a13]⟩
def bq6:Adv:=⟨21,[[0,1],[0,5,6],[5],[4]],[],[]⟩
noncomputable def bq7:List (Ent U):=[aj1]
noncomputable def ai1:ad5 × Int × Unit→Option ((Int × Unit) × (ad5 × Unit)):=a05 (U:=U) Tryz.prog bq7 bq6 0 Tryz.f204 aO2
noncomputable def bI5:Ent U:=⟨204,aO2,ai1⟩
def bu2:Sig τ:=⟨[(false,as2),(false,a13)],[a02,as2]⟩
def cD5:Adv:=⟨25,[[1,2,5],[2,5,6,7],[2,5,6,15],[4,5],[4,5]],[],[]⟩
noncomputable def cD6:List (Ent U):=[bM6]
noncomputable def a62:a34 × Int × Unit→Option (((List UInt8) × a34 × Unit) × Unit):=a05 (U:=U) Tryz.prog cD6 cD5 0 Tryz.f198 bu2
noncomputable def ah2:Ent U:=⟨198,bu2,a62⟩
def aH1:Sig τ:=⟨[(true,cD0)],[a02]⟩
def bg3:Adv:=⟨18,[[0],[0,3,4],[3],[2]],[],[]⟩
noncomputable def bg4:List (Ent U):=[ah2]
noncomputable def ag2:ad5 × Unit→Option (((List UInt8) × Unit) × (ad5 × Unit)):=a05 (U:=U) Tryz.prog bg4 bg3 0 Tryz.f205 aH1
noncomputable def bq8:Ent U:=⟨205,aH1,ag2⟩
def c63:Sig τ:=⟨[(false,a02)],[ad6,a15]⟩
def d86:Adv:=⟨33,[[0,2],[0,2,8],[2,3],[2,4],[2,4,5],[2,4,5],[2,4,5],[2,4,5],[2,4,5],[2,4,5],[2,5],[2,3]],[],[]⟩
noncomputable def d87:List (Ent U):=[ag6,bI5,bq8]
noncomputable def bE2:(List UInt8) × Unit→Option ((a23 × Bool × Unit) × Unit):=a05 (U:=U) Tryz.prog d87 d86 0 Tryz.f139 c63
noncomputable def du7:Ent U:=⟨139,c63,bE2⟩
def c64:Sig τ:=⟨[(false,a17)],[eA3]⟩
def d88:Adv:=⟨50,[[1,2],[2]],[],[]⟩
noncomputable def d89:List (Ent U):=[]
noncomputable def cw2:a00 × Unit→Option ((cv7 × Unit) × Unit):=a05 (U:=U) Tryz.prog d89 d88 0 Tryz.f184 c64
noncomputable def du8:Ent U:=⟨184,c64,cw2⟩
def cw3:Sig τ:=⟨[(false,a17)],[a15]⟩
def du9:Adv:=⟨116,[[1],[1,3],[1,3,4,5],[1,3,4,5,13],[2],[1,3,4,5,13,14],[1,3,4,5,13,14],[1,3,4],[1,3,4,25],[1,3,4],[1,3,4,5],[1,3,4,5,13,33],[1,3,4,5],[1,3,4,5,13,42],[1,3,4,5],[1,3,4,5,13,51],[1,3,4,5],[1,3,4,5,13,54],[1,3,4,5,13,56],[1,3,4,5],[1,3,4,5,13,60],[1,3,4,5],[1,3,4,5,13,63],[1,3,4,5],[1,3,4,5,13,68],[1,3,4,5],[1,3,4,5,13,74],[1,3,4,5],[1,3,4,5,13,84],[1,3,4,5],[1,3,4,5,13,89],[1,3,4,5],[1,3,4,97],[1,3,4],[1,3,4,5],[2]],[],[]⟩
noncomputable def dv0:List (Ent U):=[du8]
noncomputable def af3:a00 × Unit→Option ((Bool × Unit) × Unit):=a05 (U:=U) Tryz.prog dv0 du9 0 Tryz.f113 cw3
noncomputable def am9:Ent U:=⟨113,cw3,af3⟩
def cw4:Sig τ:=⟨[(false,a02)],[a15]⟩
def dv1:Adv:=⟨6,[[0],[2]],[],[]⟩
noncomputable def dv2:List (Ent U):=[]
noncomputable def c01:(List UInt8) × Unit→Option ((Bool × Unit) × Unit):=a05 (U:=U) Tryz.prog dv2 dv1 0 Tryz.f133 cw4
noncomputable def dP8:Ent U:=⟨133,cw4,c01⟩
def bM9:Sig τ:=⟨[(false,a13),(false,a13)],[a15]⟩
def cW4:Adv:=⟨23,[[0,1],[4]],[],[]⟩
noncomputable def cW5:List (Ent U):=[]
noncomputable def a24:Int × Int × Unit→Option ((Bool × Unit) × Unit):=a05 (U:=U) Tryz.prog cW5 cW4 0 Tryz.f135 bM9
noncomputable def ac5:Ent U:=⟨135,bM9,a24⟩
def c65:Sig τ:=⟨[(false,a02),(false,a13)],[a02]⟩
def d90:Adv:=⟨40,[[0,1],[0,1,11],[4],[0,1,5],[0,1,5,17],[4],[0,1,5,6],[0,1,5,6],[5],[4]],[],[]⟩
noncomputable def d91:List (Ent U):=[]
noncomputable def ag7:(List UInt8) × Int × Unit→Option (((List UInt8) × Unit) × Unit):=a05 (U:=U) Tryz.prog d91 d90 0 Tryz.f245 c65
noncomputable def b26:Ent U:=⟨245,c65,ag7⟩
def bN0:Sig τ:=⟨[(false,a02),(false,a13)],[a15]⟩
def cW6:Adv:=⟨10,[[0,1],[4]],[],[]⟩
noncomputable def cW7:List (Ent U):=[b26]
noncomputable def aD0:(List UInt8) × Int × Unit→Option ((Bool × Unit) × Unit):=a05 (U:=U) Tryz.prog cW7 cW6 0 Tryz.f202 bN0
noncomputable def c66:Ent U:=⟨202,bN0,aD0⟩
def bg5:Sig τ:=⟨[(false,a02),(false,a13)],[a15]⟩
def cn7:Adv:=⟨29,[[0,1],[0,1,5],[4]],[],[]⟩
noncomputable def cn8:List (Ent U):=[c66]
noncomputable def a72:(List UInt8) × Int × Unit→Option ((Bool × Unit) × Unit):=a05 (U:=U) Tryz.prog cn8 cn7 0 Tryz.f136 bg5
noncomputable def aD1:Ent U:=⟨136,bg5,a72⟩
def c67:Sig τ:=⟨[(false,a17)],[a15]⟩
def d92:Adv:=⟨129,[[1],[1,3],[2],[1,24],[2],[1,43],[2],[1,58],[2],[1,88],[2],[1,102],[2],[2]],[],[]⟩
noncomputable def d93:List (Ent U):=[am9,dP8,aT1,ac5,aD1]
noncomputable def aM7:a00 × Unit→Option ((Bool × Unit) × Unit):=a05 (U:=U) Tryz.prog d93 d92 0 Tryz.f70 c67
noncomputable def bE3:Ent U:=⟨70,c67,aM7⟩
def aT2:Sig τ:=⟨[(false,et4)],[a13]⟩
def bI6:Adv:=⟨19,[[0,2],[0,2,4],[0],[0,2],[0,2,8],[0,2],[0,2],[2]],[],[]⟩
noncomputable def bI7:List (Ent U):=[]
noncomputable def aq8:Int × Unit→Option ((Int × Unit) × Unit):=a05 (U:=U) Tryz.prog bI7 bI6 0 Tryz.f270 aT2
noncomputable def bW9:Ent U:=⟨270,aT2,aq8⟩
def an7:Sig τ:=⟨[(false,et4)],[a13]⟩
def aG1:Adv:=⟨6,[[0],[2]],[],[]⟩
noncomputable def aG2:List (Ent U):=[bW9]
noncomputable def ap3:Int × Unit→Option ((Int × Unit) × Unit):=a05 (U:=U) Tryz.prog aG2 aG1 0 Tryz.f247 an7
noncomputable def aK7:Ent U:=⟨247,an7,ap3⟩
def cR0:Sig τ:=⟨[(false,a13)],[a02,a15]⟩
def dP9:Adv:=⟨28,[[0],[0,10],[2,3],[4],[2,3]],[],[]⟩
noncomputable def dQ0:List (Ent U):=[]
noncomputable def bc4:Int × Unit→Option (((List UInt8) × Bool × Unit) × Unit):=a05 (U:=U) Tryz.prog dQ0 dP9 0 Tryz.f207 cR0
noncomputable def d94:Ent U:=⟨207,cR0,bc4⟩
def c69:Sig τ:=⟨[(false,a02)],[a13,a15]⟩
def d95:Adv:=⟨41,[[0],[0,10],[2,3],[0,4],[0,5],[0,5,6],[5,39],[2,3],[2,3]],[],[]⟩
noncomputable def d96:List (Ent U):=[aK7,d94]
noncomputable def bE4:(List UInt8) × Unit→Option ((Int × Bool × Unit) × Unit):=a05 (U:=U) Tryz.prog d96 d95 0 Tryz.f206 c69
noncomputable def dv3:Ent U:=⟨206,c69,bE4⟩
def aO3:Sig τ:=⟨[(true,et3),(false,ad6)],[a17,a14]⟩
def bq9:Adv:=⟨107,[[0,3,4],[0,3,4,6],[3,4,6,7,8],[3,4,6,7,46],[4,5],[3,4,6],[0,3,4,6,50],[4,6,69],[4,5],[4,5],[0,3,4,6,72],[4,5],[3,4,6,77],[3,4,6],[3,4,6,95],[4,5],[4,6,104],[4,5],[4,5]],[],[]⟩
noncomputable def br0:List (Ent U):=[aT1,bE3,dv3,aD1]
noncomputable def ax7:aC9 × a23 × Unit→Option ((a00 × Int × Unit) × (aC9 × Unit)):=a05 (U:=U) Tryz.prog br0 bq9 0 Tryz.f140 aO3
noncomputable def bI8:Ent U:=⟨140,aO3,ax7⟩
def bg6:Sig τ:=⟨[(false,a02)],[a26,a13,a14]⟩
def c70:Adv:=⟨94,[[0],[0,5,6],[0,5,6,22],[2,3,4],[0,7],[0,7,8],[0,7,8,9,10],[0,7,8,9,46],[0,7,8],[0,7,8,54],[2,3,4],[0,7,8],[0,7,8,11],[0,7,8,11,67],[0,7,8,11],[0,7,8,11,12],[0,7,8,11,14,15],[0,7,8,11,14,15,86],[2,3,4],[0,7,8,11],[2,3,4]],[89],[]⟩
noncomputable def c71:List (Ent U):=[dP6,dP7,du7,bI8]
noncomputable def cw5 (n:Nat):(List UInt8) × Unit→Option (((List a00) × Int × Int × Unit) × Unit):=a05 (U:=U) Tryz.prog c71 c70 n Tryz.f71 bg6
noncomputable def cw6:(List UInt8) × Unit→Option (((List a00) × Int × Int × Unit) × Unit):=cw5 a04
noncomputable def dv4:Ent U:=⟨71,bg6,cw6⟩
noncomputable def et5:=lp (tab c71) c70 Tryz.f71 0 bg6
noncomputable def ap4 (n m:Nat) (a0:List UInt8) (x8:Int) (x11:List a00) (x32_0:Int) (x32_1:Int) (x32_2:List UInt8) (x32_3:Bool):Option (((List a00) × Int × Int × Unit) × Unit):=
 et5 n [.r,.r,.r,.r,.r,.r,.r,.r,.l,.l,.at m] [(0,.one (.str a0)),(7,.one (.ref 32 0)),(8,.one (.int .i64 x8)),(11,.one (.sl 29 x11 .app)),(32,.box [.int .i64 x32_0,.int .i64 x32_1,.str x32_2,.bool x32_3])]
def bN1:Sig τ:=⟨[(false,a02)],[a13,a14]⟩
def cW8:Adv:=⟨37,[[0],[0,4],[0,4,7],[2,3],[0,4,10],[2,3],[0,4,14],[2,3],[0,4,23],[2,3],[4,27],[2,3],[4,32],[2,3],[2,3]],[],[]⟩
noncomputable def cW9:List (Ent U):=[aT1]
noncomputable def bg7:(List UInt8) × Unit→Option ((Int × Int × Unit) × Unit):=a05 (U:=U) Tryz.prog cW9 cW8 0 Tryz.f146 bN1
noncomputable def d97:Ent U:=⟨146,bN1,bg7⟩
def bu3:Sig τ:=⟨[(false,a13)],[a02]⟩
def cD7:Adv:=⟨7,[[0],[2]],[],[]⟩
noncomputable def cD8:List (Ent U):=[]
noncomputable def a96:Int × Unit→Option (((List UInt8) × Unit) × Unit):=a05 (U:=U) Tryz.prog cD8 cD7 0 Tryz.f144 bu3
noncomputable def ap5:Ent U:=⟨144,bu3,a96⟩
def cR1:Sig τ:=⟨[(false,a02)],[ad6,a15]⟩
def dQ1:Adv:=⟨28,[[0,2],[0,2,7],[2,3],[0,2,4],[2,3]],[],[]⟩
noncomputable def dQ2:List (Ent U):=[]
noncomputable def cn9:(List UInt8) × Unit→Option ((a23 × Bool × Unit) × Unit):=a05 (U:=U) Tryz.prog dQ2 dQ1 0 Tryz.f147 cR1
noncomputable def eg0:Ent U:=⟨147,cR1,cn9⟩
def aH2:Sig τ:=⟨[(false,a02),(false,a02)],[a15]⟩
def bg8:Adv:=⟨8,[[0,1],[4]],[],[]⟩
noncomputable def bg9:List (Ent U):=[ah8]
noncomputable def av1:(List UInt8) × (List UInt8) × Unit→Option ((Bool × Unit) × Unit):=a05 (U:=U) Tryz.prog bg9 bg8 0 Tryz.f209 aH2
noncomputable def br1:Ent U:=⟨209,aH2,av1⟩
def c72:Sig τ:=⟨[(false,a02)],[a15]⟩
def d98:Adv:=⟨10,[[0],[2]],[],[]⟩
noncomputable def d99:List (Ent U):=[br1]
noncomputable def ai9:(List UInt8) × Unit→Option ((Bool × Unit) × Unit):=a05 (U:=U) Tryz.prog d99 d98 0 Tryz.f145 c72
noncomputable def aM8:Ent U:=⟨145,c72,ai9⟩
def aO4:Sig τ:=⟨[(true,cC8),(false,ad6)],[a14]⟩
def br2:Adv:=⟨23,[[0,3],[0,3,10],[4],[0,3],[0,3,17],[],[4]],[],[]⟩
noncomputable def br3:List (Ent U):=[ap5,aM8]
noncomputable def ax8:aa5 × a23 × Unit→Option ((Int × Unit) × (aa5 × Unit)):=a05 (U:=U) Tryz.prog br3 br2 0 Tryz.f210 aO4
noncomputable def bI9:Ent U:=⟨210,aO4,ax8⟩
def aD2:Sig τ:=⟨[(true,cC8),(false,ad6)],[a14]⟩
def bc5:Adv:=⟨54,[[0,3],[0,3,5],[4],[0,3,12],[4],[0,3,19],[4],[],[4]],[32],[]⟩
noncomputable def bc6:List (Ent U):=[bI9,aD1]
noncomputable def ar4:aa5 × a23 × Unit→Option ((Int × Unit) × (aa5 × Unit)):=a05 (U:=U) Tryz.prog bc6 bc5 0 Tryz.f148 aD2
noncomputable def bh0:Ent U:=⟨148,aD2,ar4⟩
def aX1:Sig τ:=⟨[(false,a02)],[a26,a13,a14]⟩
def bu4:Adv:=⟨61,[[0],[0,5,6],[0,5,6,18],[2,3,4],[0,7],[0,7,8],[0,7,8,30],[0,7,8],[0,7,8,9],[0,7,8,11],[0,7,8,11,46],[2,3,4],[0,7,54],[2,3,4],[2,3,4]],[],[]⟩
noncomputable def bu5:List (Ent U):=[d97,ap5,eg0,bh0]
noncomputable def bN2 (n:Nat):(List UInt8) × Unit→Option (((List a00) × Int × Int × Unit) × Unit):=a05 (U:=U) Tryz.prog bu5 bu4 n Tryz.f74 aX1
noncomputable def bN3:(List UInt8) × Unit→Option (((List a00) × Int × Int × Unit) × Unit):=bN2 a04
noncomputable def cX0:Ent U:=⟨74,aX1,bN3⟩
noncomputable def e18:=lp (tab bu5) bu4 Tryz.f74 0 aX1
noncomputable def aP9 (n m:Nat) (a0:List UInt8) (x8:Int) (x26_0:Int) (x26_1:List UInt8) (x26_2:List a00):Option (((List a00) × Int × Int × Unit) × Unit):=
 e18 n [.r,.r,.r,.l,.r,.l,.at m] [(0,.one (.str a0)),(7,.one (.ref 26 0)),(8,.one (.int .i64 x8)),(26,.box [.int .i64 x26_0,.str x26_1,.sl 29 x26_2 .app])]
def bu6:Sig τ:=⟨[(false,as2)],[a13]⟩
def cD9:Adv:=⟨10,[[1],[1,4],[2],[2]],[],[]⟩
noncomputable def cE0:List (Ent U):=[]
noncomputable def ap6:a34 × Unit→Option ((Int × Unit) × Unit):=a05 (U:=U) Tryz.prog cE0 cD9 0 Tryz.f130 bu6
noncomputable def b54:Ent U:=⟨130,bu6,ap6⟩
def c03:Sig τ:=⟨[(false,a02)],[a67,a13,a14]⟩
def cR2:Adv:=⟨44,[[0],[0,5],[5,6],[5,6,14],[5,6,7],[5,6,7,8],[5,6,7,8],[5,6,7,8],[5,6,7,8,9],[5,6,7,8],[5,6,7,8,36],[2,3,4],[5,6],[5,42],[5,6],[2,3,4]],[38],[]⟩
noncomputable def cR3:List (Ent U):=[ag6,b54,aj1,ah2]
noncomputable def da0 (n:Nat):(List UInt8) × Unit→Option (((List a08) × Int × Int × Unit) × Unit):=a05 (U:=U) Tryz.prog cR3 cR2 n Tryz.f250 c03
noncomputable def aT3:(List UInt8) × Unit→Option (((List a08) × Int × Int × Unit) × Unit):=da0 a04
noncomputable def bJ0:Ent U:=⟨250,c03,aT3⟩
noncomputable def eH9:=lp (tab cR3) cR2 Tryz.f250 0 c03
noncomputable def bE5 (n m:Nat) (x5:List a08) (x6_0:List UInt8) (x6_1:Int) (x6_2:Int) (x6_3:Bool):Option (((List a08) × Int × Int × Unit) × Unit):=
 eH9 n [.r,.r,.l,.r,.l,.at m] [(5,.one (.sl 89 x5 .app)),(6,.box [.str x6_0,.int .i64 x6_1,.int .i64 x6_2,.bool x6_3])]
def cw7:Sig τ:=⟨[(false,a02)],[a17,a13,a14]⟩
def dv5:Adv:=⟨84,[[0,2],[0,2,13],[2,3,4],[0,2,23],[2,3,4],[0,2,5,6,7],[0,2,5,6,7,33],[2,3,4],[0,2,8],[2,8,10],[2,8,10],[2,8,10],[2,8,10],[2,8,10],[2,8],[2,3,4]],[],[]⟩
noncomputable def dv6:List (Ent U):=[bJ0,ag6,ah2,aj1]
noncomputable def c04:(List UInt8) × Unit→Option ((a00 × Int × Int × Unit) × Unit):=a05 (U:=U) Tryz.prog dv6 dv5 0 Tryz.f213 cw7
noncomputable def dQ3:Ent U:=⟨213,cw7,c04⟩
def bE6:Sig τ:=⟨[(false,a02)],[a17,a13,a14]⟩
def cw8:Adv:=⟨93,[[0,2],[0,2,12],[2,3,4],[0,2,19],[2,3,4],[0,2,28],[2,3,4],[0,2,5],[0,2,5,7],[0,2,5,7,46,47],[0,2,5,7,46,47,48],[0,2,5,7,8,46,47],[0,2,5,7,8,46,47],[0,2,5,7,8,46,47],[0,2,5,7,46,47],[0,2,5,7,46,47],[0,2,5,7,69],[2,3,4],[2,5,7,9,10,11],[2,5,7,9,10,11,83],[2,3,4],[2,5],[2,3,4]],[62],[]⟩
noncomputable def cw9:List (Ent U):=[ag6,ah2,aj1,bJ0]
noncomputable def cR4 (n:Nat):(List UInt8) × Unit→Option ((a00 × Int × Int × Unit) × Unit):=a05 (U:=U) Tryz.prog cw9 cw8 n Tryz.f214 bE6
noncomputable def cR5:(List UInt8) × Unit→Option ((a00 × Int × Int × Unit) × Unit):=cR4 a04
noncomputable def dQ4:Ent U:=⟨214,bE6,cR5⟩
noncomputable def eA4:=lp (tab cw9) cw8 Tryz.f214 0 bE6
noncomputable def aD3 (n m:Nat) (a0:List UInt8) (x5_15:Int) (x5_21:List a44) (x7_0:List UInt8) (x7_1:Int) (x7_2:Int) (x7_3:Bool) (x46:Int) (x47:Int):Option ((a00 × Int × Int × Unit) × Unit):=
 eA4 n [.r,.r,.r,.r,.l,.r,.l,.at m] [(0,.one (.str a0)),(2,.box [.int .i64 0,.int .i64 0,.int .i64 0,.str ([]:List UInt8),.int .i64 0,.int .i64 0,.str ([]:List UInt8),.int .i64 0,.int .i64 0,.str ([]:List UInt8),.int .i64 0,.str ([]:List UInt8),.int .i64 0,.int .i64 0,.int .i64 0,.int .i64 0,.int .i64 0,.int .i64 0,.int .i64 0,.str ([]:List UInt8),.str ([]:List UInt8),.sl 87 [] .app,.int .i64 0,.str ([]:List UInt8),.sl 89 [] .app]),(5,.box [.int .i64 5,.int .i64 0,.int .i64 0,.str ([]:List UInt8),.int .i64 0,.int .i64 0,.str ([]:List UInt8),.int .i64 0,.int .i64 0,.str ([]:List UInt8),.int .i64 0,.str ([]:List UInt8),.int .i64 0,.int .i64 0,.int .i64 0,.int .i64 x5_15,.int .i64 0,.int .i64 0,.int .i64 0,.str ([]:List UInt8),.str ([]:List UInt8),.sl 87 x5_21 .app,.int .i64 0,.str ([]:List UInt8),.sl 89 [] .app]),(7,.box [.str x7_0,.int .i64 x7_1,.int .i64 x7_2,.bool x7_3]),(46,.one (.int .i64 x46)),(47,.one (.int .i64 x47))]
def cx0:Sig τ:=⟨[(false,a02)],[a17,a13,a14]⟩
def dv7:Adv:=⟨33,[[0,2],[0,2,10],[2,3,4],[0,2,16],[2,3,4],[2,5,6,7],[2,5,6,7,26],[2,3,4],[2,3,4]],[],[]⟩
noncomputable def dv8:List (Ent U):=[bJ0]
noncomputable def c05:(List UInt8) × Unit→Option ((a00 × Int × Int × Unit) × Unit):=a05 (U:=U) Tryz.prog dv8 dv7 0 Tryz.f251 cx0
noncomputable def dQ5:Ent U:=⟨251,cx0,c05⟩
def cx1:Sig τ:=⟨[(false,a02)],[a17,a13,a14]⟩
def dv9:Adv:=⟨94,[[0,2],[0,2,17],[2,3,4],[0,2,25],[2,3,4],[0,2,36],[2,3,4],[0,2,5,6,7],[0,2,5,6,7,46],[2,3,4],[0,2,8],[2,8,10],[2,8,10],[2,8,10],[2,8,10],[2,8],[2,3,4]],[],[]⟩
noncomputable def dw0:List (Ent U):=[dQ5,bJ0,ag6,ah2,aj1]
noncomputable def c06:(List UInt8) × Unit→Option ((a00 × Int × Int × Unit) × Unit):=a05 (U:=U) Tryz.prog dw0 dv9 0 Tryz.f215 cx1
noncomputable def dQ6:Ent U:=⟨215,cx1,c06⟩
def cx2:Sig τ:=⟨[(false,a02)],[a17,a13,a14]⟩
def dw1:Adv:=⟨26,[[0,2],[0,2,6],[0,2,6,7],[2,3,4],[0,2,14],[2,3,4],[2,3,4]],[],[]⟩
noncomputable def dw2:List (Ent U):=[dQ3,dQ4,dQ6]
noncomputable def c07:(List UInt8) × Unit→Option ((a00 × Int × Int × Unit) × Unit):=a05 (U:=U) Tryz.prog dw2 dw1 0 Tryz.f153 cx2
noncomputable def dQ7:Ent U:=⟨153,cx2,c07⟩
def bN4:Sig τ:=⟨[(false,a02)],[a26,a13,a14]⟩
def cX1:Adv:=⟨37,[[0],[0,8],[2,3,4],[0,12],[2,3,4],[0,16],[2,3,4],[5,6,7],[5,6,7,32],[2,3,4],[2,3,4]],[],[]⟩
noncomputable def cX2:List (Ent U):=[dQ7]
noncomputable def bh1:(List UInt8) × Unit→Option (((List a00) × Int × Int × Unit) × Unit):=a05 (U:=U) Tryz.prog cX2 cX1 0 Tryz.f77 bN4
noncomputable def da1:Ent U:=⟨77,bN4,bh1⟩
def bN5:Sig τ:=⟨[(false,a02)],[a13]⟩
def cX3:Adv:=⟨11,[[0],[2]],[],[]⟩
noncomputable def cX4:List (Ent U):=[]
noncomputable def aD4:(List UInt8) × Unit→Option ((Int × Unit) × Unit):=a05 (U:=U) Tryz.prog cX4 cX3 0 Tryz.f128 bN5
noncomputable def c73:Ent U:=⟨128,bN5,aD4⟩
def bN6:Sig τ:=⟨[(false,a02)],[a02,a13,a14]⟩
def cX5:Adv:=⟨35,[[0],[0,5],[0,5,8],[2,3,4],[0,5,11],[2,3,4],[0,5,15],[2,3,4],[0,5,19],[2,3,4],[0,5,23],[2,3,4],[2,3,4]],[],[]⟩
noncomputable def cX6:List (Ent U):=[c73]
noncomputable def bh2:(List UInt8) × Unit→Option (((List UInt8) × Int × Int × Unit) × Unit):=a05 (U:=U) Tryz.prog cX6 cX5 0 Tryz.f65 bN6
noncomputable def da2:Ent U:=⟨65,bN6,bh2⟩
def bN7:Sig τ:=⟨[(false,as2)],[ad9,as2]⟩
def cX7:Adv:=⟨34,[[1,2,3],[1,2,3,4],[1,2,3,4],[1,2,3,4,17],[2,3],[1,2,3,4,5],[1,2,3,4],[2,3]],[],[]⟩
noncomputable def cX8:List (Ent U):=[aj1,ah2]
noncomputable def at8:a34 × Unit→Option ((a18 × a34 × Unit) × Unit):=a05 (U:=U) Tryz.prog cX8 cX7 0 Tryz.f131 bN7
noncomputable def da3:Ent U:=⟨131,bN7,at8⟩
def aX2:Sig τ:=⟨[(false,a02),(false,a13)],[aW5,a13,a14]⟩
def bu7:Adv:=⟨37,[[0,1],[0,1,7],[1,7,8],[1,7,8,15],[1,7,8,9,10],[1,7,8,9,10],[1,7,8,9,10,27],[4,5,6],[1,7,8],[1,7,35],[1,7,8],[4,5,6]],[30],[]⟩
noncomputable def bu8:List (Ent U):=[ag6,b54,da3]
noncomputable def bN8 (n:Nat):(List UInt8) × Int × Unit→Option (((List a18) × Int × Int × Unit) × Unit):=a05 (U:=U) Tryz.prog bu8 bu7 n Tryz.f66 aX2
noncomputable def ap7:(List UInt8) × Int × Unit→Option (((List a18) × Int × Int × Unit) × Unit):=bN8 a04
noncomputable def bN9:Ent U:=⟨66,aX2,ap7⟩
noncomputable def e19:=lp (tab bu8) bu7 Tryz.f66 0 aX2
noncomputable def aQ0 (n m:Nat) (a1:Int) (x7:List a18) (x8_0:List UInt8) (x8_1:Int) (x8_2:Int) (x8_3:Bool):Option (((List a18) × Int × Int × Unit) × Unit):=
 e19 n [.r,.r,.l,.r,.l,.at m] [(1,.one (.int .i64 a1)),(7,.one (.sl 122 x7 .app)),(8,.box [.str x8_0,.int .i64 x8_1,.int .i64 x8_2,.bool x8_3])]
def b95:Sig τ:=⟨[(false,a02)],[a02]⟩
def c74:Adv:=⟨8,[[0],[2]],[],[]⟩
noncomputable def c75:List (Ent U):=[c73]
noncomputable def aQ1:(List UInt8) × Unit→Option (((List UInt8) × Unit) × Unit):=a05 (U:=U) Tryz.prog c75 c74 0 Tryz.f67 b95
noncomputable def co0:Ent U:=⟨67,b95,aQ1⟩
def bh3:Sig τ:=⟨[(false,a67)],[a13]⟩
def c76:Adv:=⟨20,[[0],[0,3],[3,6,7,8],[3,6,7,8,9],[3,5,6,7,8],[3,6,7,8],[3,6,7,8],[2]],[],[]⟩
noncomputable def c77:List (Ent U):=[]
noncomputable def cx3 (n:Nat):(List a08) × Unit→Option ((Int × Unit) × Unit):=a05 (U:=U) Tryz.prog c77 c76 n Tryz.f226 bh3
noncomputable def aM9:(List a08) × Unit→Option ((Int × Unit) × Unit):=cx3 a04
noncomputable def bE7:Ent U:=⟨226,bh3,aM9⟩
noncomputable def et6:=lp (tab c77) c76 Tryz.f226 0 bh3
noncomputable def b55 (n m:Nat) (a0:List a08) (x3:Int) (x8:Int):Option ((Int × Unit) × Unit):=
 et6 n [.r,.r,.l,.r,.l,.at m] [(3,.one (.int .i64 x3)),(6,.one (.sl 89 a0 .ro)),(7,.one (.int .i64 (a0.length:Int))),(8,.one (.int .i64 x8))]
def c08:Sig τ:=⟨[(false,a02)],[a67,a15,a14]⟩
def cR6:Adv:=⟨49,[[0],[5,7],[5,7,19],[2,3,4],[5,8],[5,8,9],[8,9,21,22,23],[8,9,21,22,23,24],[8,9,11,21,22,23],[8,9,11,21,22,23,27],[8,9,21,22,23],[8,9,11,21,22,23,31],[8,9,21,22,23],[8,9,21,22,23],[8,9,46],[2,3,4],[2,3,4]],[35],[]⟩
noncomputable def cR7:List (Ent U):=[bN9,bE7]
noncomputable def da4 (n:Nat):(List UInt8) × Unit→Option (((List a08) × Bool × Int × Unit) × Unit):=a05 (U:=U) Tryz.prog cR7 cR6 n Tryz.f239 c08
noncomputable def as7:(List UInt8) × Unit→Option (((List a08) × Bool × Int × Unit) × Unit):=da4 a04
noncomputable def co1:Ent U:=⟨239,c08,as7⟩
noncomputable def eI0:=lp (tab cR7) cR6 Tryz.f239 0 c08
noncomputable def az4 (n m:Nat) (r1:((List a18) × Int × Int × Unit) × Unit) (x8:List a08) (x9:Bool) (x23:Int):Option (((List a08) × Bool × Int × Unit) × Unit):=
 eI0 n [.r,.r,.r,.r,.r,.l,.r,.l,.at m] [(8,.one (.sl 89 x8 .app)),(9,.one (.bool x9)),(21,.one (.sl 122 r1.1.1 .ro)),(22,.one (.int .i64 (r1.1.1.length:Int))),(23,.one (.int .i64 x23))]
def bO0:Sig τ:=⟨[(false,a02),(false,a13)],[a15,a14]⟩
def cX9:Adv:=⟨23,[[0,1],[0,1,12],[4,5],[7,8],[4,5]],[],[]⟩
noncomputable def cY0:List (Ent U):=[co1]
noncomputable def aT4:(List UInt8) × Int × Unit→Option ((Bool × Int × Unit) × Unit):=a05 (U:=U) Tryz.prog cY0 cX9 0 Tryz.f263 bO0
noncomputable def c78:Ent U:=⟨263,bO0,aT4⟩
def b17:Sig τ:=⟨[(true,aw3),(false,a02)],[a14]⟩
def bX0:Adv:=⟨20,[[0,1],[0,1,5,6],[0,1,6,12],[6],[4]],[],[]⟩
noncomputable def bX1:List (Ent U):=[c78]
noncomputable def aH3:a36 × (List UInt8) × Unit→Option ((Int × Unit) × (a36 × Unit)):=a05 (U:=U) Tryz.prog bX1 bX0 0 Tryz.f234 b17
noncomputable def c79:Ent U:=⟨234,b17,aH3⟩
def c80:Sig τ:=⟨[(false,a02)],[a02,a15]⟩
def da5:Adv:=⟨9,[[0],[0,6],[2,3],[2,3]],[],[]⟩
noncomputable def da6:List (Ent U):=[]
noncomputable def as8:(List UInt8) × Unit→Option (((List UInt8) × Bool × Unit) × Unit):=a05 (U:=U) Tryz.prog da6 da5 0 Tryz.f264 c80
noncomputable def b27:Ent U:=⟨264,c80,as8⟩
def bO1:Sig τ:=⟨[(false,a13)],[a13]⟩
def cY1:Adv:=⟨9,[[0],[3],[3,4],[2],[3,6],[6],[2],[2]],[],[]⟩
noncomputable def cY2:List (Ent U):=[]
noncomputable def an8:Int × Unit→Option ((Int × Unit) × Unit):=a05 (U:=U) Tryz.prog cY2 cY1 0 Tryz.f116 bO1
noncomputable def aT5:Ent U:=⟨116,bO1,an8⟩
def aT6:Sig τ:=⟨[(true,aw3),(false,a02)],[a14]⟩
def bJ1:Adv:=⟨53,[[0,1],[0,1,12],[4],[0,1,5],[0,1,5,21],[4],[0,1,5,6],[0,1,5,6,7,8],[0,1,5,6,8,33],[4],[0,5,9],[0,5,9,39],[0,5,9],[],[4]],[],[]⟩
noncomputable def bJ2:List (Ent U):=[c78,b27,aT5]
noncomputable def aB0:a36 × (List UInt8) × Unit→Option ((Int × Unit) × (a36 × Unit)):=a05 (U:=U) Tryz.prog bJ2 bJ1 0 Tryz.f235 aT6
noncomputable def bX2:Ent U:=⟨235,aT6,aB0⟩
def aO5:Sig τ:=⟨[(true,aW7),(false,a13)],[a13]⟩
def br4:Adv:=⟨21,[[0,1],[0,5,6],[5],[4]],[],[]⟩
noncomputable def br5:List (Ent U):=[aj1]
noncomputable def a46:a37 × Int × Unit→Option ((Int × Unit) × (a37 × Unit)):=a05 (U:=U) Tryz.prog br5 br4 0 Tryz.f240 aO5
noncomputable def aT7:Ent U:=⟨240,aO5,a46⟩
def bh4:Sig τ:=⟨[],[dP4]⟩
def co2:Adv:=⟨6,[[0],[0]],[],[]⟩
noncomputable def co3:List (Ent U):=[]
noncomputable def al8:Unit→Option ((bf6 × Unit) × Unit):=a05 (U:=U) Tryz.prog co3 co2 0 Tryz.f227 bh4
noncomputable def aD5:Ent U:=⟨227,bh4,al8⟩
def bh5:Sig τ:=⟨[(false,a13)],[a13]⟩
def co4:Adv:=⟨7,[[0],[2]],[],[]⟩
noncomputable def co5:List (Ent U):=[]
noncomputable def aD6:Int × Unit→Option ((Int × Unit) × Unit):=a05 (U:=U) Tryz.prog co5 co4 0 Tryz.f261 bh5
noncomputable def bu9:Ent U:=⟨261,bh5,aD6⟩
def aH4:Sig τ:=⟨[(true,aW7),(false,a13)],[a02]⟩
def bh6:Adv:=⟨21,[[0,1],[0,5,6],[5],[4]],[],[]⟩
noncomputable def bh7:List (Ent U):=[ah2]
noncomputable def a99:a37 × Int × Unit→Option (((List UInt8) × Unit) × (a37 × Unit)):=a05 (U:=U) Tryz.prog bh7 bh6 0 Tryz.f241 aH4
noncomputable def av2:Ent U:=⟨241,aH4,a99⟩
def az5:Sig τ:=⟨[(true,aW7),(false,a13),(false,a13),(false,a13)],[a02,a14]⟩
def b28:Adv:=⟨46,[[0,1,2,3],[0,2,3,10],[0,2,10,11],[0,11,36],[8,9],[0,12],[12,44],[8,9],[8,9]],[],[]⟩
noncomputable def b29:List (Ent U):=[aD5,bu9,av2]
noncomputable def ab9:a37 × Int × Int × Int × Unit→Option (((List UInt8) × Int × Unit) × (a37 × Unit)):=a05 (U:=U) Tryz.prog b29 b28 0 Tryz.f242 az5
noncomputable def aD7:Ent U:=⟨242,az5,ab9⟩
def aH5:Sig τ:=⟨[(true,aW7)],[a67,a15,a14]⟩
def bh8:Adv:=⟨16,[[0],[2,3,4]],[],[]⟩
noncomputable def bh9:List (Ent U):=[b54,av2,co1]
noncomputable def ae2:a37 × Unit→Option (((List a08) × Bool × Int × Unit) × (a37 × Unit)):=a05 (U:=U) Tryz.prog bh9 bh8 0 Tryz.f243 aH5
noncomputable def aO6:Ent U:=⟨243,aH5,ae2⟩
def b56:Sig τ:=⟨[(false,ad9)],[bc3,a15,a14]⟩
def bO2:Adv:=⟨93,[[1,2],[2,5],[2,5,6],[2,5,6,24,25,26],[2,5,6,24,25,26,27],[2,5,6,8,24,25,26],[2,5,6,24,25,26],[2,5,6,24,25,26],[2,5,6,38,39,40],[2,5,6,38,39,40,41],[2,5,6,10,38,39,40],[2,5,6,38,39,40],[2,5,6,38,39,40],[2,5,6,49],[2,3,4],[2,5,6,56],[2,3,4],[2,5,6,11,12],[2,5,6,11,12,73],[2,3,4],[2,6,11,12,13,14],[2,6,11,12,13,14,83],[2,3,4],[2,6,14],[2,6,90],[2,6],[2,3,4]],[],[]⟩
noncomputable def bO3:List (Ent U):=[ag6,aT7,aD7,aO6]
noncomputable def c81 (n:Nat):a18 × Unit→Option ((a64 × Bool × Int × Unit) × Unit):=a05 (U:=U) Tryz.prog bO3 bO2 n Tryz.f265 b56
noncomputable def bi0:a18 × Unit→Option ((a64 × Bool × Int × Unit) × Unit):=c81 a04
noncomputable def da7:Ent U:=⟨265,b56,bi0⟩
noncomputable def cY3:=lp (tab bO3) bO2 Tryz.f265 0 b56
noncomputable def ai2 (n m:Nat) (x6_0:Int) (x6_1:Int) (x6_2:Int) (x6_3:Int) (x19_0:List UInt8) (x19_1:Int) (x19_2:Int) (x19_3:Bool) (x26:Int):Option ((a64 × Bool × Int × Unit) × Unit):=
 cY3 n [.r,.r,.r,.l,.r,.l,.at m] [(2,.box [.int .i64 0,.int .i64 0,.int .i64 0,.int .i64 0,.int .i64 0,.int .i64 0,.int .i64 0,.int .i64 0,.str ([]:List UInt8),.sl 89 [] .app]),(5,.one (.ref 19 0)),(6,.box [.int .i64 x6_0,.int .i64 x6_1,.int .i64 x6_2,.int .i64 x6_3,.int .i64 0,.int .i64 0,.int .i64 0,.int .i64 0,.str ([]:List UInt8),.sl 89 [] .app]),(19,.box [.str x19_0,.int .i64 x19_1,.int .i64 x19_2,.bool x19_3]),(24,.one (.prow 6 [0,1,2,3])),(25,.one (.int .i64 4)),(26,.one (.int .i64 x26))]
noncomputable def al9 (n m:Nat) (x6_0:Int) (x6_1:Int) (x6_2:Int) (x6_3:Int) (x6_4:Int) (x6_5:Int) (x6_6:Int) (x19_0:List UInt8) (x19_1:Int) (x19_2:Int) (x19_3:Bool) (x40:Int):Option ((a64 × Bool × Int × Unit) × Unit):=
 cY3 n [.r,.r,.r,.r,.l,.r,.l,.at m] [(2,.box [.int .i64 0,.int .i64 0,.int .i64 0,.int .i64 0,.int .i64 0,.int .i64 0,.int .i64 0,.int .i64 0,.str ([]:List UInt8),.sl 89 [] .app]),(5,.one (.ref 19 0)),(6,.box [.int .i64 x6_0,.int .i64 x6_1,.int .i64 x6_2,.int .i64 x6_3,.int .i64 x6_4,.int .i64 x6_5,.int .i64 x6_6,.int .i64 0,.str ([]:List UInt8),.sl 89 [] .app]),(19,.box [.str x19_0,.int .i64 x19_1,.int .i64 x19_2,.bool x19_3]),(38,.one (.prow 6 [4,5,6])),(39,.one (.int .i64 3)),(40,.one (.int .i64 x40))]
def bv0:Sig τ:=⟨[(false,a02),(false,a13)],[a02]⟩
def cE1:Adv:=⟨18,[[0,1],[0,1,9],[4],[0,5],[5],[4]],[],[]⟩
noncomputable def cE2:List (Ent U):=[]
noncomputable def ah3:(List UInt8) × Int × Unit→Option (((List UInt8) × Unit) × Unit):=a05 (U:=U) Tryz.prog cE2 cE1 0 Tryz.f269 bv0
noncomputable def bO4:Ent U:=⟨269,bv0,ah3⟩
def az6:Sig τ:=⟨[(true,aw3),(false,bc3)],[a02,a15]⟩
def b30:Adv:=⟨56,[[0,3],[0,3,6,7],[0,3,6,7,16],[0,3,6,7],[3,6,7,8],[3,6,7,8,27],[3,6,7,8],[3,6,7,8,29],[4,5],[3,6,7,8],[3,7,9],[3,9,46],[3,9],[4,5]],[],[]⟩
noncomputable def b31:List (Ent U):=[bO4,b27,b26]
noncomputable def ao4:a36 × a64 × Unit→Option (((List UInt8) × Bool × Unit) × (a36 × Unit)):=a05 (U:=U) Tryz.prog b31 b30 0 Tryz.f266 az6
noncomputable def bc7:Ent U:=⟨266,az6,ao4⟩
def aH6:Sig τ:=⟨[(true,aw3),(false,bc3),(false,a02)],[]⟩
def bi1:Adv:=⟨38,[[0,2,4],[0,2,4,9],[0,2,4,13],[0,2,4],[0,2,25],[0,6],[]],[],[]⟩
noncomputable def bi2:List (Ent U):=[ap5]
noncomputable def av3:a36 × a64 × (List UInt8) × Unit→Option ((Unit) × (a36 × Unit)):=a05 (U:=U) Tryz.prog bi2 bi1 0 Tryz.f267 aH6
noncomputable def br6:Ent U:=⟨267,aH6,av3⟩
def aO7:Sig τ:=⟨[(true,aw3),(false,bc3)],[a15]⟩
def br7:Adv:=⟨26,[[0,3],[4]],[],[]⟩
noncomputable def br8:List (Ent U):=[]
noncomputable def ax9:a36 × a64 × Unit→Option ((Bool × Unit) × (a36 × Unit)):=a05 (U:=U) Tryz.prog br8 br7 0 Tryz.f268 aO7
noncomputable def bJ3:Ent U:=⟨268,aO7,ax9⟩
def aD8:Sig τ:=⟨[(true,aw3),(false,ad9)],[a26,a14]⟩
def bc8:Adv:=⟨71,[[0,3],[0,6,7,8],[0,6,8,18],[4,5],[0,6,7,9],[0,6,9,27],[4,5],[0,6,9],[0,6,9,35],[4,5],[0,10],[0,10,52],[10],[4,5]],[],[]⟩
noncomputable def bc9:List (Ent U):=[da7,bc7,br6,bJ3,aT5]
noncomputable def ar5:a36 × a18 × Unit→Option (((List a00) × Int × Unit) × (a36 × Unit)):=a05 (U:=U) Tryz.prog bc9 bc8 0 Tryz.f236 aD8
noncomputable def bi3:Ent U:=⟨236,aD8,ar5⟩
def cx4:Sig τ:=⟨[(false,aa8),(false,ad9)],[aa8,a26,a14]⟩
def dw3:Adv:=⟨41,[[2,3,4],[3,4,7],[3,4,7,8],[3,4,7,8,9],[3,4,7,8,9,14],[3,4,7,8,9,14,15],[4,7,8,9],[3,4,7,8,9,14,21],[4,7,8,9],[3,4,7,8,9,27],[4,7,8,9],[4,5,6]],[],[]⟩
noncomputable def dw4:List (Ent U):=[c79,bX2,bi3]
noncomputable def aX3:a03 × a18 × Unit→Option ((a03 × (List a00) × Int × Unit) × Unit):=a05 (U:=U) Tryz.prog dw4 dw3 0 Tryz.f199 cx4
noncomputable def dQ8:Ent U:=⟨199,cx4,aX3⟩
def aO8:Sig τ:=⟨[(true,cD1)],[a13]⟩
def br9:Adv:=⟨18,[[0],[0,3,4],[3],[2]],[],[]⟩
noncomputable def bs0:List (Ent U):=[aj1]
noncomputable def a30:a77 × Unit→Option ((Int × Unit) × (a77 × Unit)):=a05 (U:=U) Tryz.prog bs0 br9 0 Tryz.f237 aO8
noncomputable def bJ4:Ent U:=⟨237,aO8,a30⟩
def aH7:Sig τ:=⟨[(true,cD1),(false,a13)],[a02]⟩
def bi4:Adv:=⟨36,[[0,1],[0,1,5,6],[1,5],[1,5,7,8],[5,7,33],[4],[4]],[],[]⟩
noncomputable def bi5:List (Ent U):=[ah2,b27]
noncomputable def ak8:a77 × Int × Unit→Option (((List UInt8) × Unit) × (a77 × Unit)):=a05 (U:=U) Tryz.prog bi5 bi4 0 Tryz.f238 aH7
noncomputable def bs1:Ent U:=⟨238,aH7,ak8⟩
def c82:Sig τ:=⟨[(false,ad9)],[a17,a15,a14]⟩
def da8:Adv:=⟨103,[[1,2],[1,2,5],[1,2,5,6],[1,2,5,6,21],[1,2,5,6,21,22],[1,2,5,6],[1,2,5,6],[1,2,5,6,21,32],[1,2,5,6],[1,2,5,6,21,37],[1,2,5,6],[1,2,5,6,49],[1,2,5,6],[1,2,5,6,63],[1,2,5,6],[1,2,5,6,73],[2,3,4],[1,2,5,6,77],[2,3,4],[2,6,7,8,9],[2,6,7,9,97],[2,3,4],[2,6],[2,3,4]],[],[]⟩
noncomputable def da9:List (Ent U):=[ag6,bJ4,co1,bs1]
noncomputable def az7:a18 × Unit→Option ((a00 × Bool × Int × Unit) × Unit):=a05 (U:=U) Tryz.prog da9 da8 0 Tryz.f200 c82
noncomputable def dw5:Ent U:=⟨200,c82,az7⟩
def bv1:Sig τ:=⟨[(false,a13),(false,a02),(false,a13)],[a02]⟩
def cE3:Adv:=⟨29,[[0,1,2],[0,1,2,7],[0,2,8],[2,8,20],[2,8],[6]],[],[]⟩
noncomputable def cE4:List (Ent U):=[aD5,bO4,b27,b26]
noncomputable def aw5:Int × (List UInt8) × Int × Unit→Option (((List UInt8) × Unit) × Unit):=a05 (U:=U) Tryz.prog cE4 cE3 0 Tryz.f244 bv1
noncomputable def cY4:Ent U:=⟨244,bv1,aw5⟩
def c83:Sig τ:=⟨[(false,ad9)],[a17,a15,a14]⟩
def db0:Adv:=⟨102,[[1,2],[1,2,5],[1,2,5,6],[1,2,5,6],[1,2,5,6,25],[1,2,5,6],[1,2,5,6],[1,2,5,6],[1,2,5,6],[1,2,5,6,38],[2,3,4],[1,2,5,6,45],[2,3,4],[1,2,5,6,7,8],[1,2,5,6,7,8,60],[2,3,4],[1,2,6,7,8,9,10],[2,6,7,8,9,89],[2,3,4],[2,6],[2,3,4]],[],[]⟩
noncomputable def db1:List (Ent U):=[ag6,aT7,av2,aD7,aO6,cY4]
noncomputable def b32:a18 × Unit→Option ((a00 × Bool × Int × Unit) × Unit):=a05 (U:=U) Tryz.prog db1 db0 0 Tryz.f201 c83
noncomputable def dw6:Ent U:=⟨201,c83,b32⟩
def bO5:Sig τ:=⟨[(false,aa8),(false,ad9)],[aa8,a26,a14]⟩
def cY5:Adv:=⟨62,[[2,3,4],[2,3,4,7],[2,3,4,7],[2,3,4,7,9],[2,3,4,7,9,11],[2,4,7,8,9],[2,3,4,7,9,11,17],[2,3,4,7,9,11,17],[4,5,6],[2,3,4,7,9,11,21],[2,3,4,7,9,11,21],[2,3,4,7,9,11,21],[4,5,6],[2,3,4,7,9,11,31],[2,3,4,7,9,11,31],[2,3,4,7,9,11,31],[2,3,4,7,9,11,31],[2,4,7,8,9],[2,3,4,7,9,11,42],[2,3,4,7,9,42],[2,4,7,8,9],[2,4,7,9,56],[4,5,6],[4,5,6]],[],[999999]⟩
noncomputable def cY6:List (Ent U):=[dQ8,dw5,dw6]
noncomputable def bi6:a03 × a18 × Unit→Option ((a03 × (List a00) × Int × Unit) × Unit):=a05 (U:=U) Tryz.prog cY6 cY5 0 Tryz.f132 bO5
noncomputable def db2:Ent U:=⟨132,bO5,bi6⟩
def aX4:Sig τ:=⟨[(false,aW5)],[a26,aa8,a13,a14]⟩
def bv2:Adv:=⟨43,[[0,3],[0,3,6],[0,3,6,7],[0,3,6,7,13,14],[0,3,6,7,13,14,15],[0,3,6,7,8,13,14],[0,3,6,7,8,9,10,11,13,14],[0,3,6,7,8,9,10,11,13,14,28],[2,3,4,5],[0,3,6,7,10,13,14],[0,3,6,7,13,14],[0,3,6,7,13,14],[2,3,4,5]],[37],[]⟩
noncomputable def bv3:List (Ent U):=[db2]
noncomputable def bO6 (n:Nat):(List a18) × Unit→Option (((List a00) × a03 × Int × Int × Unit) × Unit):=a05 (U:=U) Tryz.prog bv3 bv2 n Tryz.f68 aX4
noncomputable def b57:(List a18) × Unit→Option (((List a00) × a03 × Int × Int × Unit) × Unit):=bO6 a04
noncomputable def cY7:Ent U:=⟨68,aX4,b57⟩
noncomputable def e20:=lp (tab bv3) bv2 Tryz.f68 0 aX4
noncomputable def aQ2 (n m:Nat) (a0:List a18) (x6:List a00) (x7_0:List UInt8) (x7_1:List UInt8) (x7_2:List UInt8) (x7_3:List UInt8) (x7_4:List UInt8) (x7_5:List UInt8) (x7_6:List UInt8) (x14:Int):Option (((List a00) × a03 × Int × Int × Unit) × Unit):=
 e20 n [.r,.r,.r,.l,.r,.l,.at m] [(0,.one (.sl 122 a0 .ro)),(3,.box [.str ([]:List UInt8),.str ([]:List UInt8),.str ([]:List UInt8),.str ([]:List UInt8),.str ([]:List UInt8),.str ([]:List UInt8),.str ([]:List UInt8)]),(6,.one (.sl 29 x6 .app)),(7,.box [.str x7_0,.str x7_1,.str x7_2,.str x7_3,.str x7_4,.str x7_5,.str x7_6]),(13,.one (.int .i64 (a0.length:Int))),(14,.one (.int .i64 x14))]
def bi7:Sig τ:=⟨[(false,a02)],[a26,a13,a14]⟩
def co6:Adv:=⟨55,[[0],[0,5,6,7],[0,5,6,7,18],[2,3,4],[0,5,6,7,8],[0,5,6,7,8,28],[2,3,4],[6,7,8],[6,7,8,42],[2,3,4],[6,7,9],[2,3,4]],[],[]⟩
noncomputable def co7:List (Ent U):=[da2,bN9,co0,cY7]
noncomputable def aX5:(List UInt8) × Unit→Option (((List a00) × Int × Int × Unit) × Unit):=a05 (U:=U) Tryz.prog co7 co6 0 Tryz.f38 bi7
noncomputable def cE5:Ent U:=⟨38,bi7,aX5⟩
def aD9:Sig τ:=⟨[(false,a13),(false,a02)],[a26,a13,a14]⟩
def bv4:Adv:=⟨23,[[0,1],[1,7,8],[1,7,15],[4,5,6],[4,5,6]],[],[]⟩
noncomputable def bv5:List (Ent U):=[dv4,cX0,da1,cE5]
def cx5:Adv:=⟨18,[[0,2],[2,4],[2,4,5],[2,3],[2,4,8],[2,3],[2,4,11],[2,3],[2,14],[2,3],[2,3]],[],[999999]⟩
noncomputable def aQ3:Tab U:=inl Tryz.prog 41 (tab bv5) cx5 0 Tryz.f41 (tab bv5)
noncomputable def b58:Int × (List UInt8) × Unit→Option (((List a00) × Int × Int × Unit) × Unit):=cQ7 (U:=U) Tryz.prog aQ3 bv4 0 Tryz.f19 aD9
noncomputable def bO7:Ent U:=⟨19,aD9,b58⟩
def cx6:Sig τ:=⟨[(false,a02)],[a02,a15]⟩
def dw7:Adv:=⟨9,[[0],[0,6],[2,3],[2,3]],[],[]⟩
noncomputable def dw8:List (Ent U):=[]
noncomputable def cR8:(List UInt8) × Unit→Option (((List UInt8) × Bool × Unit) × Unit):=a05 (U:=U) Tryz.prog dw8 dw7 0 Tryz.f141 cx6
noncomputable def dQ9:Ent U:=⟨141,cx6,cR8⟩
def bi8:Sig τ:=⟨[(false,a17),(false,a17)],[a15]⟩
def co8:Adv:=⟨34,[[2,3],[4]],[],[]⟩
noncomputable def co9:List (Ent U):=[]
noncomputable def aX6:a00 × a00 × Unit→Option ((Bool × Unit) × Unit):=a05 (U:=U) Tryz.prog co9 co8 0 Tryz.f142 bi8
noncomputable def cE6:Ent U:=⟨142,bi8,aX6⟩
def bi9:Sig τ:=⟨[(false,a13),(false,a13)],[a02,a15]⟩
def c84:Adv:=⟨29,[[0,1],[0,1,11],[4,5],[0,1,6],[0,6,7],[0,6,7,17],[0,6,7],[0,6,7],[0,6,7],[4,5]],[],[]⟩
noncomputable def c85:List (Ent U):=[ac5]
noncomputable def bE8 (n:Nat):Int × Int × Unit→Option (((List UInt8) × Bool × Unit) × Unit):=a05 (U:=U) Tryz.prog c85 c84 n Tryz.f121 bi9
noncomputable def ad7:Int × Int × Unit→Option (((List UInt8) × Bool × Unit) × Unit):=bE8 a04
noncomputable def aN0:Ent U:=⟨121,bi9,ad7⟩
noncomputable def et7:=lp (tab c85) c84 Tryz.f121 0 bi9
noncomputable def aK8 (n m:Nat) (x0:Int) (x7:Int) (x13:List UInt8):Option (((List UInt8) × Bool × Unit) × Unit):=
 et7 n [.r,.r,.r,.l,.r,.l,.at m] [(0,.one (.int .i64 x0)),(6,.one (.sref 13)),(7,.one (.int .i64 x7)),(13,.bblk 5 x13 true)]
def c86:Sig τ:=⟨[(false,ad6)],[a02,a15]⟩
def db3:Adv:=⟨76,[[1],[1,43],[2,3],[1,4],[1,4,6],[1,4,6,8],[2,3]],[],[]⟩
noncomputable def db4:List (Ent U):=[ac5,aN0]
noncomputable def aN1:a23 × Unit→Option (((List UInt8) × Bool × Unit) × Unit):=a05 (U:=U) Tryz.prog db4 db3 0 Tryz.f208 c86
noncomputable def dw9:Ent U:=⟨208,c86,aN1⟩
def cx7:Sig τ:=⟨[(false,a17)],[a02]⟩
def dx0:Adv:=⟨39,[[1],[1,3],[1,3,25],[3],[4],[2]],[],[]⟩
noncomputable def dx1:List (Ent U):=[ap5,d94,dw9]
noncomputable def bj0:a00 × Unit→Option (((List UInt8) × Unit) × Unit):=a05 (U:=U) Tryz.prog dx1 dx0 0 Tryz.f143 cx7
noncomputable def dR0:Ent U:=⟨143,cx7,bj0⟩
def b59:Sig τ:=⟨[(false,a26)],[a02,a13,a14]⟩
def bO8:Adv:=⟨84,[[0],[0,13,14,15],[0,13,14,15,16],[0,5,6,13,14,15],[0,5,13,14,15,22],[2,3,4],[0,13,14,15],[0,27],[2,3,4],[0,7],[0,7,8],[0,7,8,9,10],[0,7,8,9,47],[0,7,8],[0,7,8],[0,7,8,53,54,55],[0,7,8,53,54,55,56],[0,7,8,11,12,53,54,55],[0,7,8,11,12,53,54,55,60],[2,3,4],[0,7,8,11,12,53,54,55,65],[2,3,4],[0,7,8,53,54,55],[0,7,8,53,54,55],[2,3,4]],[48,77],[]⟩
noncomputable def bO9:List (Ent U):=[bE3,dQ9,cE6,dR0]
noncomputable def c87 (n:Nat):(List a00) × Unit→Option (((List UInt8) × Int × Int × Unit) × Unit):=a05 (U:=U) Tryz.prog bO9 bO8 n Tryz.f72 b59
noncomputable def c88:(List a00) × Unit→Option (((List UInt8) × Int × Int × Unit) × Unit):=c87 a04
noncomputable def db5:Ent U:=⟨72,b59,c88⟩
noncomputable def cY8:=lp (tab bO9) bO8 Tryz.f72 0 b59
noncomputable def aX7 (n m:Nat) (a0:List a00) (x15:Int):Option (((List UInt8) × Int × Int × Unit) × Unit):=
 cY8 n [.r,.l,.r,.l,.at m] [(0,.one (.sl 29 a0 .ro)),(13,.one (.sl 29 a0 .ro)),(14,.one (.int .i64 (a0.length:Int))),(15,.one (.int .i64 x15))]
noncomputable def at3 (n m:Nat) (a0:List a00) (x7:Int) (x8:List UInt8) (x55:Int):Option (((List UInt8) × Int × Int × Unit) × Unit):=
 cY8 n [.r,.r,.r,.r,.r,.r,.l,.r,.l,.at m] [(0,.one (.sl 29 a0 .ro)),(7,.one (.int .i64 x7)),(8,.one (.bs 5 x8 .app)),(53,.one (.sl 29 a0 .ro)),(54,.one (.int .i64 (a0.length:Int))),(55,.one (.int .i64 x55))]
def bv6:Sig τ:=⟨[(false,a17)],[a15]⟩
def cE7:Adv:=⟨60,[[1],[1,3],[2],[1,28],[2],[2]],[],[]⟩
noncomputable def cE8:List (Ent U):=[am9,ac5,aD1,ap5,aM8]
noncomputable def aK9:a00 × Unit→Option ((Bool × Unit) × Unit):=a05 (U:=U) Tryz.prog cE8 cE7 0 Tryz.f73 bv6
noncomputable def bP0:Ent U:=⟨73,bv6,aK9⟩
def cR9:Sig τ:=⟨[(false,ad6)],[a02,a15]⟩
def dR1:Adv:=⟨52,[[1],[1,33],[2,3],[2,3]],[],[]⟩
noncomputable def dR2:List (Ent U):=[ac5]
noncomputable def cp0:a23 × Unit→Option (((List UInt8) × Bool × Unit) × Unit):=a05 (U:=U) Tryz.prog dR2 dR1 0 Tryz.f249 cR9
noncomputable def eg1:Ent U:=⟨249,cR9,cp0⟩
def aO9:Sig τ:=⟨[(true,cC9),(false,ad6)],[]⟩
def bs2:Adv:=⟨20,[[0,3],[0,4],[]],[15],[]⟩
noncomputable def bs3:List (Ent U):=[eg1]
noncomputable def ai3:ad4 × a23 × Unit→Option ((Unit) × (ad4 × Unit)):=a05 (U:=U) Tryz.prog bs3 bs2 0 Tryz.f211 aO9
noncomputable def bJ5:Ent U:=⟨211,aO9,ai3⟩
def aE0:Sig τ:=⟨[(true,cC9),(false,a17)],[]⟩
def bd0:Adv:=⟨32,[[0,3],[0,3,10],[0,3],[0,3],[]],[],[]⟩
noncomputable def bd1:List (Ent U):=[bJ5]
noncomputable def ar6:ad4 × a00 × Unit→Option ((Unit) × (ad4 × Unit)):=a05 (U:=U) Tryz.prog bd1 bd0 0 Tryz.f149 aE0
noncomputable def bj1:Ent U:=⟨149,aE0,ar6⟩
def aQ4:Sig τ:=⟨[(false,a26)],[a02,a13,a14]⟩
def bj2:Adv:=⟨65,[[0],[0,10,11,12],[0,10,11,12,13],[0,5,6,10,11,12],[0,5,10,11,12,19],[2,3,4],[0,10,11,12],[0,24],[2,3,4],[0,7],[0,7,34,35,36],[0,7,34,35,36,37],[0,7,8,9,34,35,36],[0,7,8,9,34,35,36,47],[2,3,4],[0,7,8,34,35,36],[0,7,8,34,35,36,57],[2,3,4],[0,7,34,35,36],[2,3,4]],[],[]⟩
noncomputable def bj3:List (Ent U):=[bP0,ap5,bj1]
noncomputable def bv7 (n:Nat):(List a00) × Unit→Option (((List UInt8) × Int × Int × Unit) × Unit):=a05 (U:=U) Tryz.prog bj3 bj2 n Tryz.f75 aQ4
noncomputable def bv8:(List a00) × Unit→Option (((List UInt8) × Int × Int × Unit) × Unit):=bv7 a04
noncomputable def cE9:Ent U:=⟨75,aQ4,bv8⟩
noncomputable def cp1:=lp (tab bj3) bj2 Tryz.f75 0 aQ4
noncomputable def aH8 (n m:Nat) (a0:List a00) (x12:Int):Option (((List UInt8) × Int × Int × Unit) × Unit):=
 cp1 n [.r,.l,.r,.l,.at m] [(0,.one (.sl 29 a0 .ro)),(10,.one (.sl 29 a0 .ro)),(11,.one (.int .i64 (a0.length:Int))),(12,.one (.int .i64 x12))]
noncomputable def aH9 (n m:Nat) (a0:List a00) (x33_0:List UInt8) (x33_1:List UInt8) (x36:Int):Option (((List UInt8) × Int × Int × Unit) × Unit):=
 cp1 n [.r,.r,.r,.r,.l,.r,.l,.at m] [(0,.one (.sl 29 a0 .ro)),(7,.one (.ref 33 0)),(33,.box [.bs 5 x33_0 .app,.str x33_1]),(34,.one (.sl 29 a0 .ro)),(35,.one (.int .i64 (a0.length:Int))),(36,.one (.int .i64 x36))]
def bE9:Sig τ:=⟨[(false,a67),(false,a13),(false,a13)],[a15]⟩
def cx8:Adv:=⟨32,[[0,1,2],[1,2,9,10,11],[1,2,9,10,11,12],[1,2,8,9,10,11],[1,2,9,10,11,30],[6],[1,2,9,10,11],[6]],[],[]⟩
noncomputable def cx9:List (Ent U):=[]
noncomputable def cS0 (n:Nat):(List a08) × Int × Int × Unit→Option ((Bool × Unit) × Unit):=a05 (U:=U) Tryz.prog cx9 cx8 n Tryz.f225 bE9
noncomputable def c09:(List a08) × Int × Int × Unit→Option ((Bool × Unit) × Unit):=cS0 a04
noncomputable def cS1:Ent U:=⟨225,bE9,c09⟩
noncomputable def eA5:=lp (tab cx9) cx8 Tryz.f225 0 bE9
noncomputable def bj4 (n m:Nat) (a1:Int) (a2:Int) (a0:List a08) (x11:Int):Option ((Bool × Unit) × Unit):=
 eA5 n [.r,.l,.r,.l,.at m] [(1,.one (.int .i64 a1)),(2,.one (.int .i64 a2)),(9,.one (.sl 89 a0 .ro)),(10,.one (.int .i64 (a0.length:Int))),(11,.one (.int .i64 x11))]
def c89:Sig τ:=⟨[(false,a67)],[a15]⟩
def db6:Adv:=⟨5,[[0],[2]],[],[]⟩
noncomputable def db7:List (Ent U):=[cS1]
noncomputable def az8:(List a08) × Unit→Option ((Bool × Unit) × Unit):=a05 (U:=U) Tryz.prog db7 db6 0 Tryz.f212 c89
noncomputable def b33:Ent U:=⟨212,c89,az8⟩
def b60:Sig τ:=⟨[(false,a17)],[a15]⟩
def bP1:Adv:=⟨59,[[1],[1,34],[2],[1,41,42,43],[1,41,42,43,44],[1,4,41,42,43],[1,41,42,43,49],[2],[1,41,42,43],[2]],[],[]⟩
noncomputable def bP2:List (Ent U):=[am9,ac5,b33]
noncomputable def c90 (n:Nat):a00 × Unit→Option ((Bool × Unit) × Unit):=a05 (U:=U) Tryz.prog bP2 bP1 n Tryz.f150 b60
noncomputable def bj5:a00 × Unit→Option ((Bool × Unit) × Unit):=c90 a04
noncomputable def c91:Ent U:=⟨150,b60,bj5⟩
noncomputable def ek2:=lp (tab bP2) bP1 Tryz.f150 0 b60
noncomputable def aX8 (n m:Nat) (a0:a00) (x41:List Int) (x42:Int) (x43:Int):Option ((Bool × Unit) × Unit):=
 ek2 n [.r,.r,.l,.r,.l,.at m] [(1,.box [.int .i64 a0.kind,.int .i64 a0.cmd,.int .i64 a0.ver,.str a0.auth,.int .i64 a0.family,.int .i64 a0.ae,.str a0.prefix_,.int .i64 a0.plen,.int .i64 a0.tag,.str a0.next,.int .i64 a0.metric,.str a0.id,.int .i64 a0.seq,.int .i64 a0.seq2,.int .i64 a0.interval,.int .i64 a0.flags,.int .i64 a0.hops,.int .i64 a0.nonce,.int .i64 a0.cost,.str a0.addr,.str a0.orig,.sl 87 a0.list .ro,.int .i64 a0.type_,.str a0.data,.sl 89 a0.subs .ro]),(41,.one (.sl 3 x41 .app)),(42,.one (.int .i64 x42)),(43,.one (.int .i64 x43))]
def bP3:Sig τ:=⟨[(false,a17)],[a15]⟩
def cY9:Adv:=⟨63,[[1],[1,11],[2],[1,13],[1,13,14],[2],[1,16],[2],[2]],[],[]⟩
noncomputable def cZ0:List (Ent U):=[am9,b33,ac5]
noncomputable def aT8:a00 × Unit→Option ((Bool × Unit) × Unit):=a05 (U:=U) Tryz.prog cZ0 cY9 0 Tryz.f151 bP3
noncomputable def c92:Ent U:=⟨151,bP3,aT8⟩
def b61:Sig τ:=⟨[(false,a17)],[a15]⟩
def bP4:Adv:=⟨56,[[1],[1,34],[2],[1,36,37,38],[1,36,37,38,39],[1,4,36,37,38],[1,36,37,38,51],[2],[1,36,37,38],[2]],[],[]⟩
noncomputable def bP5:List (Ent U):=[am9,ac5,b33]
noncomputable def c93 (n:Nat):a00 × Unit→Option ((Bool × Unit) × Unit):=a05 (U:=U) Tryz.prog bP5 bP4 n Tryz.f152 b61
noncomputable def bj6:a00 × Unit→Option ((Bool × Unit) × Unit):=c93 a04
noncomputable def c94:Ent U:=⟨152,b61,bj6⟩
noncomputable def ek3:=lp (tab bP5) bP4 Tryz.f152 0 b61
noncomputable def at4 (n m:Nat) (a0:a00) (x38:Int):Option ((Bool × Unit) × Unit):=
 ek3 n [.r,.r,.l,.r,.l,.at m] [(1,.box [.int .i64 a0.kind,.int .i64 a0.cmd,.int .i64 a0.ver,.str a0.auth,.int .i64 a0.family,.int .i64 a0.ae,.str a0.prefix_,.int .i64 a0.plen,.int .i64 a0.tag,.str a0.next,.int .i64 a0.metric,.str a0.id,.int .i64 a0.seq,.int .i64 a0.seq2,.int .i64 a0.interval,.int .i64 a0.flags,.int .i64 a0.hops,.int .i64 a0.nonce,.int .i64 a0.cost,.str a0.addr,.str a0.orig,.sl 87 a0.list .ro,.int .i64 a0.type_,.str a0.data,.sl 89 a0.subs .ro]),(36,.one (.sl 87 a0.list .ro)),(37,.one (.int .i64 (a0.list.length:Int))),(38,.one (.int .i64 x38))]
def bP6:Sig τ:=⟨[(false,a17)],[a15]⟩
def cZ1:Adv:=⟨13,[[1],[2]],[],[]⟩
noncomputable def cZ2:List (Ent U):=[c91,c92,c94]
noncomputable def aT9:a00 × Unit→Option ((Bool × Unit) × Unit):=a05 (U:=U) Tryz.prog cZ2 cZ1 0 Tryz.f76 bP6
noncomputable def c95:Ent U:=⟨76,bP6,aT9⟩
def c10:Sig τ:=⟨[(false,a67)],[a02,a15]⟩
def cS2:Adv:=⟨36,[[0],[0,9],[2,3],[0,4],[4,13,14,15],[4,13,14,15,16],[4,6,13,14,15],[4,6,13,14,15],[4,13,14,15],[4,13,14,15],[2,3]],[19,29],[]⟩
noncomputable def cS3:List (Ent U):=[b33,bE7]
noncomputable def db8 (n:Nat):(List a08) × Unit→Option (((List UInt8) × Bool × Unit) × Unit):=a05 (U:=U) Tryz.prog cS3 cS2 n Tryz.f216 c10
noncomputable def bJ6:(List a08) × Unit→Option (((List UInt8) × Bool × Unit) × Unit):=db8 a04
noncomputable def cp2:Ent U:=⟨216,c10,bJ6⟩
noncomputable def eI1:=lp (tab cS3) cS2 Tryz.f216 0 c10
noncomputable def bF0 (n m:Nat) (a0:List a08) (x4:List UInt8) (x15:Int):Option (((List UInt8) × Bool × Unit) × Unit):=
 eI1 n [.r,.r,.r,.l,.r,.l,.at m] [(4,.one (.bs 5 x4 .app)),(13,.one (.sl 89 a0 .ro)),(14,.one (.int .i64 (a0.length:Int))),(15,.one (.int .i64 x15))]
def c96:Sig τ:=⟨[(false,a13)],[a02]⟩
def db9:Adv:=⟨11,[[0],[3],[2]],[],[]⟩
noncomputable def dc0:List (Ent U):=[aN0]
noncomputable def aN2:Int × Unit→Option (((List UInt8) × Unit) × Unit):=a05 (U:=U) Tryz.prog dc0 db9 0 Tryz.f217 c96
noncomputable def dx2:Ent U:=⟨217,c96,aN2⟩
def cy0:Sig τ:=⟨[(false,a17)],[a02,a15]⟩
def dx3:Adv:=⟨46,[[1],[1,9],[2,3],[1,4],[1,4,6],[2,3]],[],[]⟩
noncomputable def dx4:List (Ent U):=[c91,cp2,dx2]
noncomputable def c11:a00 × Unit→Option (((List UInt8) × Bool × Unit) × Unit):=a05 (U:=U) Tryz.prog dx4 dx3 0 Tryz.f154 cy0
noncomputable def dR3:Ent U:=⟨154,cy0,c11⟩
def cy1:Sig τ:=⟨[(false,a17)],[a02,a15]⟩
def dx5:Adv:=⟨60,[[1],[1,12],[2,3],[1,4],[1,4,21],[2,3],[1,4,6],[1,4,6,8],[2,3]],[],[]⟩
noncomputable def dx6:List (Ent U):=[c92,cp2,aN0]
noncomputable def c12:a00 × Unit→Option (((List UInt8) × Bool × Unit) × Unit):=a05 (U:=U) Tryz.prog dx6 dx5 0 Tryz.f155 cy1
noncomputable def dR4:Ent U:=⟨155,cy1,c12⟩
def bF1:Sig τ:=⟨[(false,a17)],[a02,a15]⟩
def cy2:Adv:=⟨54,[[1],[1,13],[2,3],[1,4],[1,4,24,25,26],[1,4,24,25,26,27],[1,4,6,24,25,26],[1,4,6,7,24,25,26],[1,4,7,24,25,26],[1,4,24,25,26],[1,4,24,25,26],[4,9],[2,3]],[36,40],[]⟩
noncomputable def cy3:List (Ent U):=[c94,aN0,cp2]
noncomputable def cS4 (n:Nat):a00 × Unit→Option (((List UInt8) × Bool × Unit) × Unit):=a05 (U:=U) Tryz.prog cy3 cy2 n Tryz.f156 bF1
noncomputable def c13:a00 × Unit→Option (((List UInt8) × Bool × Unit) × Unit):=cS4 a04
noncomputable def dR5:Ent U:=⟨156,bF1,c13⟩
noncomputable def eA6:=lp (tab cy3) cy2 Tryz.f156 0 bF1
noncomputable def bj7 (n m:Nat) (a0:a00) (x4:List UInt8) (x26:Int):Option (((List UInt8) × Bool × Unit) × Unit):=
 eA6 n [.r,.r,.r,.l,.r,.l,.at m] [(1,.box [.int .i64 a0.kind,.int .i64 a0.cmd,.int .i64 a0.ver,.str a0.auth,.int .i64 a0.family,.int .i64 a0.ae,.str a0.prefix_,.int .i64 a0.plen,.int .i64 a0.tag,.str a0.next,.int .i64 a0.metric,.str a0.id,.int .i64 a0.seq,.int .i64 a0.seq2,.int .i64 a0.interval,.int .i64 a0.flags,.int .i64 a0.hops,.int .i64 a0.nonce,.int .i64 a0.cost,.str a0.addr,.str a0.orig,.sl 87 a0.list .ro,.int .i64 a0.type_,.str a0.data,.sl 89 a0.subs .ro]),(4,.one (.bs 5 x4 .app)),(24,.one (.sl 87 a0.list .ro)),(25,.one (.int .i64 (a0.list.length:Int))),(26,.one (.int .i64 x26))]
def aX9:Sig τ:=⟨[(false,a26)],[a02,a13,a14]⟩
def bv9:Adv:=⟨56,[[0],[0,9,10],[0,9,10,11],[0,5,9,10],[0,5,9,10,18],[2,3,4],[0,9,10],[0,23],[2,3,4],[0,26],[2,3,4],[0,6,7],[0,6,7,35],[0,6,7],[0,6,44],[6],[6,54],[2,3,4],[2,3,4]],[],[]⟩
noncomputable def bw0:List (Ent U):=[c95,dR3,dR4,dR5]
noncomputable def bP7 (n:Nat):(List a00) × Unit→Option (((List UInt8) × Int × Int × Unit) × Unit):=a05 (U:=U) Tryz.prog bw0 bv9 n Tryz.f78 aX9
noncomputable def bP8:(List a00) × Unit→Option (((List UInt8) × Int × Int × Unit) × Unit):=bP7 a04
noncomputable def cZ3:Ent U:=⟨78,aX9,bP8⟩
noncomputable def e21:=lp (tab bw0) bv9 Tryz.f78 0 aX9
noncomputable def aQ5 (n m:Nat) (a0:List a00) (x10:Int):Option (((List UInt8) × Int × Int × Unit) × Unit):=
 e21 n [.r,.l,.r,.l,.at m] [(0,.one (.sl 29 a0 .ro)),(9,.one (.int .i64 (a0.length:Int))),(10,.one (.int .i64 x10))]
def c97:Sig τ:=⟨[(false,a67)],[a15]⟩
def dc1:Adv:=⟨10,[[0],[2]],[],[]⟩
noncomputable def dc2:List (Ent U):=[cS1,bE7]
noncomputable def az9:(List a08) × Unit→Option ((Bool × Unit) × Unit):=a05 (U:=U) Tryz.prog dc2 dc1 0 Tryz.f180 c97
noncomputable def b34:Ent U:=⟨180,c97,az9⟩
def cy4:Sig τ:=⟨[(false,a13),(false,a02),(false,a13)],[a15]⟩
def dx7:Adv:=⟨47,[[0,1,2],[0,1,2,13],[6],[0,1,2,7],[6]],[],[]⟩
noncomputable def dx8:List (Ent U):=[aD5,c66,aM8]
noncomputable def bj8:Int × (List UInt8) × Int × Unit→Option ((Bool × Unit) × Unit):=a05 (U:=U) Tryz.prog dx8 dx7 0 Tryz.f181 cy4
noncomputable def cS5:Ent U:=⟨181,cy4,bj8⟩
def bw1:Sig τ:=⟨[(false,a02)],[a13]⟩
def cF0:Adv:=⟨9,[[0],[4],[4,5],[2],[7],[2],[2]],[],[]⟩
noncomputable def cF1:List (Ent U):=[]
noncomputable def aw6:(List UInt8) × Unit→Option ((Int × Unit) × Unit):=a05 (U:=U) Tryz.prog cF1 cF0 0 Tryz.f183 bw1
noncomputable def bP9:Ent U:=⟨183,bw1,aw6⟩
def bQ0:Sig τ:=⟨[(false,a02),(false,a15)],[a15]⟩
def cZ4:Adv:=⟨10,[[0,1],[4]],[],[]⟩
noncomputable def cZ5:List (Ent U):=[]
noncomputable def bj9:(List UInt8) × Bool × Unit→Option ((Bool × Unit) × Unit):=a05 (U:=U) Tryz.prog cZ5 cZ4 0 Tryz.f182 bQ0
noncomputable def dc3:Ent U:=⟨182,bQ0,bj9⟩
def c98:Sig τ:=⟨[(false,a17)],[a15]⟩
def dc4:Adv:=⟨76,[[1],[1,3],[2],[1,28],[2],[1,45],[2],[2]],[],[]⟩
noncomputable def dc5:List (Ent U):=[am9,b34,cS5,ac5,bP9,aT5,dc3]
noncomputable def bF2:a00 × Unit→Option ((Bool × Unit) × Unit):=a05 (U:=U) Tryz.prog dc5 dc4 0 Tryz.f111 c98
noncomputable def dx9:Ent U:=⟨111,c98,bF2⟩
def bw2:Sig τ:=⟨[(false,a17)],[a15]⟩
def cF2:Adv:=⟨52,[[1],[1,21],[2],[1,23],[1,23,24],[2],[1,26],[2],[2]],[],[]⟩
noncomputable def cF3:List (Ent U):=[am9,b34,cS5,ac5]
noncomputable def aw7:a00 × Unit→Option ((Bool × Unit) × Unit):=a05 (U:=U) Tryz.prog cF3 cF2 0 Tryz.f112 bw2
noncomputable def bQ1:Ent U:=⟨112,bw2,aw7⟩
def b96:Sig τ:=⟨[(false,a13),(false,a02)],[a15]⟩
def c99:Adv:=⟨26,[[0,1],[0,1,5],[0,1,5,6],[4],[0,1,5,10],[4],[0,1,15],[4],[4]],[],[]⟩
noncomputable def ca0:List (Ent U):=[bP9,aM8]
noncomputable def ay0:Int × (List UInt8) × Unit→Option ((Bool × Unit) × Unit):=a05 (U:=U) Tryz.prog ca0 c99 0 Tryz.f185 b96
noncomputable def cp3:Ent U:=⟨185,b96,ay0⟩
def aY0:Sig τ:=⟨[(false,a17)],[a15]⟩
def bw3:Adv:=⟨57,[[1],[1,13,14,15],[1,13,14,15,16],[1,4,13,14,15],[1,13,14,15,21],[2],[1,13,14,15],[1,31],[2],[1,33],[1,33,34],[1,33,34],[2],[1,37],[2],[2]],[],[]⟩
noncomputable def bw4:List (Ent U):=[ac5,am9,b34,cp3]
noncomputable def bQ2 (n:Nat):a00 × Unit→Option ((Bool × Unit) × Unit):=a05 (U:=U) Tryz.prog bw4 bw3 n Tryz.f114 aY0
noncomputable def aL0:a00 × Unit→Option ((Bool × Unit) × Unit):=bQ2 a04
noncomputable def bQ3:Ent U:=⟨114,aY0,aL0⟩
noncomputable def e22:=lp (tab bw4) bw3 Tryz.f114 0 aY0
noncomputable def ao5 (n m:Nat) (a0:a00) (x13:List Int) (x14:Int) (x15:Int):Option ((Bool × Unit) × Unit):=
 e22 n [.r,.l,.r,.l,.at m] [(1,.box [.int .i64 a0.kind,.int .i64 a0.cmd,.int .i64 a0.ver,.str a0.auth,.int .i64 a0.family,.int .i64 a0.ae,.str a0.prefix_,.int .i64 a0.plen,.int .i64 a0.tag,.str a0.next,.int .i64 a0.metric,.str a0.id,.int .i64 a0.seq,.int .i64 a0.seq2,.int .i64 a0.interval,.int .i64 a0.flags,.int .i64 a0.hops,.int .i64 a0.nonce,.int .i64 a0.cost,.str a0.addr,.str a0.orig,.sl 87 a0.list .ro,.int .i64 a0.type_,.str a0.data,.sl 89 a0.subs .ro]),(13,.one (.sl 3 x13 .app)),(14,.one (.int .i64 x14)),(15,.one (.int .i64 x15))]
def bQ4:Sig τ:=⟨[(false,a17)],[a15]⟩
def cZ6:Adv:=⟨36,[[1],[1,4],[1,4,5],[2],[1,4,9],[1,4,9],[2],[1,14],[2],[2]],[],[]⟩
noncomputable def cZ7:List (Ent U):=[dx9,bQ1,am9,bQ3]
noncomputable def aE1:a00 × Unit→Option ((Bool × Unit) × Unit):=a05 (U:=U) Tryz.prog cZ7 cZ6 0 Tryz.f57 bQ4
noncomputable def bk0:Ent U:=⟨57,bQ4,aE1⟩
def ca1:Sig τ:=⟨[(false,a13),(false,a02)],[a02,a15]⟩
def dc6:Adv:=⟨26,[[0,1],[0,1,16],[4,5],[4,5]],[],[]⟩
noncomputable def dc7:List (Ent U):=[]
noncomputable def a88:Int × (List UInt8) × Unit→Option (((List UInt8) × Bool × Unit) × Unit):=a05 (U:=U) Tryz.prog dc7 dc6 0 Tryz.f187 ca1
noncomputable def aN3:Ent U:=⟨187,ca1,a88⟩
def c14:Sig τ:=⟨[(false,a67)],[a02,a15]⟩
def cS6:Adv:=⟨32,[[0],[0,11],[2,3],[0,4],[4,12,13,14],[4,12,13,14,15],[4,6,12,13,14],[4,7,12,13,14],[4,12,13,14],[4,12,13,14],[2,3]],[26],[]⟩
noncomputable def cS7:List (Ent U):=[b34,aN3]
noncomputable def dc8 (n:Nat):(List a08) × Unit→Option (((List UInt8) × Bool × Unit) × Unit):=a05 (U:=U) Tryz.prog cS7 cS6 n Tryz.f191 c14
noncomputable def ak4:(List a08) × Unit→Option (((List UInt8) × Bool × Unit) × Unit):=dc8 a04
noncomputable def cp4:Ent U:=⟨191,c14,ak4⟩
noncomputable def eI2:=lp (tab cS7) cS6 Tryz.f191 0 c14
noncomputable def bF3 (n m:Nat) (a0:List a08) (x4:List UInt8) (x14:Int):Option (((List UInt8) × Bool × Unit) × Unit):=
 eI2 n [.r,.r,.r,.l,.r,.l,.at m] [(4,.one (.bs 5 x4 .app)),(12,.one (.sl 89 a0 .ro)),(13,.one (.int .i64 (a0.length:Int))),(14,.one (.int .i64 x14))]
def bQ5:Sig τ:=⟨[(false,a02),(false,a13)],[a02]⟩
def cZ8:Adv:=⟨16,[[0,1],[1,5],[4]],[],[]⟩
noncomputable def cZ9:List (Ent U):=[bu9,b26]
noncomputable def aE2:(List UInt8) × Int × Unit→Option (((List UInt8) × Unit) × Unit):=a05 (U:=U) Tryz.prog cZ9 cZ8 0 Tryz.f228 bQ5
noncomputable def ca2:Ent U:=⟨228,bQ5,aE2⟩
def ca3:Sig τ:=⟨[(false,a17)],[a02,a15]⟩
def dc9:Adv:=⟨65,[[1],[1,10],[2,3],[1,4],[1,4,6],[1,4,6,7],[1,4,6,7,26],[1,4,6,7],[1,4,6,7],[1,4,6,7],[4,6,7],[2,3]],[27,40,44],[]⟩
noncomputable def dd0:List (Ent U):=[bQ1,cp4,ca2,aD5,aN3]
noncomputable def b35:a00 × Unit→Option (((List UInt8) × Bool × Unit) × Unit):=a05 (U:=U) Tryz.prog dd0 dc9 0 Tryz.f186 ca3
noncomputable def dy0:Ent U:=⟨186,ca3,b35⟩
def av4:Sig τ:=⟨[(true,e17),(false,eH8)],[]⟩
def aP0:Adv:=⟨27,[[0,6,7,8],[0,6,7,8,9],[0,5,6,7,8],[0,6,7,8],[0,6,7,8]],[16],[]⟩
noncomputable def aP1:List (Ent U):=[]
noncomputable def aU0 (n:Nat):aa6 × (List Int) × Unit→Option ((Unit) × (aa6 × Unit)):=a05 (U:=U) Tryz.prog aP1 aP0 n Tryz.f229 av4
noncomputable def ai4:aa6 × (List Int) × Unit→Option ((Unit) × (aa6 × Unit)):=aU0 a04
noncomputable def bJ7:Ent U:=⟨229,av4,ai4⟩
noncomputable def d62:=lp (tab aP1) aP0 Tryz.f229 1 av4
noncomputable def ar7 (n m:Nat) (a1:List Int) (x8:Int) (x1000000:List UInt8):Option ((Unit) × (aa6 × Unit)):=
 d62 n [.r,.l,.at m] [(0,.one (.ref 1000000 0)),(6,.one (.sl 3 a1 .ro)),(7,.one (.int .i64 (a1.length:Int))),(8,.one (.int .i64 x8)),(1000000,.box [.bs 5 x1000000 .app])]
def bQ6:Sig τ:=⟨[(false,a02)],[a02,a15]⟩
def d00:Adv:=⟨9,[[0],[0,6],[2,3],[2,3]],[],[]⟩
noncomputable def d01:List (Ent U):=[aM8]
noncomputable def aU1:(List UInt8) × Unit→Option (((List UInt8) × Bool × Unit) × Unit):=a05 (U:=U) Tryz.prog d01 d00 0 Tryz.f190 bQ6
noncomputable def ca4:Ent U:=⟨190,bQ6,aU1⟩
def ca5:Sig τ:=⟨[(false,a17)],[a02,a15]⟩
def dd1:Adv:=⟨107,[[1],[1,11],[2,3],[1,4],[1,4,15],[1,4,15,16],[1,4],[1,4,15,25],[1,4],[1,4,15,32],[1,4],[1,4,44],[1,4],[1,4,5,6],[1,4,5,67],[1,4],[1,4],[1,4,7],[2,3]],[72,81],[]⟩
noncomputable def dd2:List (Ent U):=[bQ3,bJ7,cp4,aN3,ca4]
noncomputable def b36:a00 × Unit→Option (((List UInt8) × Bool × Unit) × Unit):=a05 (U:=U) Tryz.prog dd2 dd1 0 Tryz.f188 ca5
noncomputable def dy1:Ent U:=⟨188,ca5,b36⟩
def bQ7:Sig τ:=⟨[(false,a17)],[a02]⟩
def d02:Adv:=⟨30,[[1],[1],[1,5],[3],[1,5,11],[1,5,11],[3],[1,19],[3],[2]],[],[]⟩
noncomputable def d03:List (Ent U):=[dy0,aN3,dy1]
noncomputable def bk1:a00 × Unit→Option (((List UInt8) × Unit) × Unit):=a05 (U:=U) Tryz.prog d03 d02 0 Tryz.f115 bQ7
noncomputable def dd3:Ent U:=⟨115,bQ7,bk1⟩
def aU2:Sig τ:=⟨[(true,aK6),(false,a13),(false,a02)],[]⟩
def bJ8:Adv:=⟨23,[[0,6],[]],[18],[]⟩
noncomputable def bJ9:List (Ent U):=[aN3]
noncomputable def ab6:a22 × Int × (List UInt8) × Unit→Option ((Unit) × (a22 × Unit)):=a05 (U:=U) Tryz.prog bJ9 bJ8 0 Tryz.f189 aU2
noncomputable def aB1:Ent U:=⟨189,aU2,ab6⟩
def b18:Sig τ:=⟨[(true,aK6),(false,a02)],[]⟩
def bX3:Adv:=⟨13,[[0,1],[]],[],[]⟩
noncomputable def bX4:List (Ent U):=[aB1]
noncomputable def at9:a22 × (List UInt8) × Unit→Option ((Unit) × (a22 × Unit)):=a05 (U:=U) Tryz.prog bX4 bX3 0 Tryz.f117 b18
noncomputable def ca6:Ent U:=⟨117,b18,at9⟩
def aU3:Sig τ:=⟨[(true,aK6),(false,a13),(false,a02)],[]⟩
def bK0:Adv:=⟨37,[[0,1,2,6,7],[0,1,2],[0,1,2,6,17],[0,1,2],[0,1,2,23],[0,1,2],[]],[],[]⟩
noncomputable def bK1:List (Ent U):=[ca4,aB1]
noncomputable def ae0:a22 × Int × (List UInt8) × Unit→Option ((Unit) × (a22 × Unit)):=a05 (U:=U) Tryz.prog bK1 bK0 0 Tryz.f118 aU3
noncomputable def bX5:Ent U:=⟨118,aU3,ae0⟩
def ca7:Sig τ:=⟨[(false,a13)],[a13]⟩
def dd4:Adv:=⟨5,[[0],[4],[2],[2]],[],[]⟩
noncomputable def dd5:List (Ent U):=[]
noncomputable def b37:Int × Unit→Option ((Int × Unit) × Unit):=a05 (U:=U) Tryz.prog dd5 dd4 0 Tryz.f194 ca7
noncomputable def cy5:Ent U:=⟨194,ca7,b37⟩
def bQ8:Sig τ:=⟨[(false,a17)],[a02]⟩
def d04:Adv:=⟨12,[[1],[2]],[],[]⟩
noncomputable def d05:List (Ent U):=[ca2,cy5]
noncomputable def au0:a00 × Unit→Option (((List UInt8) × Unit) × Unit):=a05 (U:=U) Tryz.prog d05 d04 0 Tryz.f192 bQ8
noncomputable def ca8:Ent U:=⟨192,bQ8,au0⟩
def b19:Sig τ:=⟨[(false,eD6)],[a13]⟩
def bX6:Adv:=⟨6,[[0],[2]],[],[]⟩
noncomputable def bX7:List (Ent U):=[]
noncomputable def aI0:Int × Unit→Option ((Int × Unit) × Unit):=a05 (U:=U) Tryz.prog bX7 bX6 0 Tryz.f274 b19
noncomputable def ca9:Ent U:=⟨274,b19,aI0⟩
def ap8:Sig τ:=⟨[(false,eD6)],[a13]⟩
def aL1:Adv:=⟨6,[[0],[2]],[],[]⟩
noncomputable def aL2:List (Ent U):=[ca9]
noncomputable def ai6:Int × Unit→Option ((Int × Unit) × Unit):=a05 (U:=U) Tryz.prog aL2 aL1 0 Tryz.f262 ap8
noncomputable def aQ6:Ent U:=⟨262,ap8,ai6⟩
def b62:Sig τ:=⟨[(false,a02),(false,a02)],[a13]⟩
def bQ9:Adv:=⟨36,[[0,1],[0,1,11,12],[0,1,11,12,13],[0,1,5,11,12],[0,1,5,6,11,12],[0,1,5,6,11,12,23],[4],[0,1,11,12],[4]],[],[]⟩
noncomputable def bR0:List (Ent U):=[aQ6]
noncomputable def cb0 (n:Nat):(List UInt8) × (List UInt8) × Unit→Option ((Int × Unit) × Unit):=a05 (U:=U) Tryz.prog bR0 bQ9 n Tryz.f230 b62
noncomputable def cb1:(List UInt8) × (List UInt8) × Unit→Option ((Int × Unit) × Unit):=cb0 a04
noncomputable def dd6:Ent U:=⟨230,b62,cb1⟩
noncomputable def ek4:=lp (tab bR0) bQ9 Tryz.f230 0 b62
noncomputable def aY1 (n m:Nat) (a0:List UInt8) (a1:List UInt8) (x11:Int) (x12:Int):Option ((Int × Unit) × Unit):=
 ek4 n [.r,.l,.r,.l,.at m] [(0,.one (.str a0)),(1,.one (.str a1)),(11,.one (.int .i64 x11)),(12,.one (.int .i64 x12))]
def bw5:Sig τ:=⟨[(false,a02),(false,a02)],[a13]⟩
def cF4:Adv:=⟨9,[[0,1],[4]],[],[]⟩
noncomputable def cF5:List (Ent U):=[dd6]
noncomputable def b63:(List UInt8) × (List UInt8) × Unit→Option ((Int × Unit) × Unit):=a05 (U:=U) Tryz.prog cF5 cF4 0 Tryz.f193 bw5
noncomputable def d06:Ent U:=⟨193,bw5,b63⟩
def aA0:Sig τ:=⟨[(true,aK6),(false,a17)],[a13]⟩
def b38:Adv:=⟨24,[[0,3],[3,5],[3,5,15],[4],[4]],[],[]⟩
noncomputable def b39:List (Ent U):=[cy5,ca8,d06]
noncomputable def a50:a22 × a00 × Unit→Option ((Int × Unit) × (a22 × Unit)):=a05 (U:=U) Tryz.prog b39 b38 0 Tryz.f120 aA0
noncomputable def bd2:Ent U:=⟨120,aA0,a50⟩
def ao6:Sig τ:=⟨[(true,aK6),(false,a17),(false,a13)],[]⟩
def aE3:Adv:=⟨72,[[0,2,4],[0,2,4,6],[0,2,4,6,22],[0,2,4,6],[0,2,4,6],[0,2,4,6,40,41,42],[0,2,4,6,40,41,42,43],[0,2,4,6,8,40,41,42],[0,2,4,6,40,41,42],[0,2,4,6,40,41,42],[0,2,4,6,9],[]],[46],[19]⟩
noncomputable def aE4:List (Ent U):=[cp4,ca8,aB1]
noncomputable def aI1 (n:Nat):a22 × a00 × Int × Unit→Option ((Unit) × (a22 × Unit)):=a05 (U:=U) Tryz.prog aE4 aE3 n Tryz.f119 ao6
noncomputable def a60:a22 × a00 × Int × Unit→Option ((Unit) × (a22 × Unit)):=aI1 a04
noncomputable def bk2:Ent U:=⟨119,ao6,a60⟩
noncomputable def bd3:=lp (tab aE4) aE3 Tryz.f119 1 ao6
noncomputable def an0 (n m:Nat) (a2:Int) (a1:a00) (a0:a22) (x19:List UInt8) (x40:List Int) (x41:Int) (x42:Int) (x1000000_1:List UInt8) (x1000000_2:List UInt8) (x1000000_3:List UInt8) (x1000000_4:List UInt8):Option ((Unit) × (a22 × Unit)):=
 bd3 n [.r,.r,.r,.l,.r,.l,.at m] [(0,.one (.ref 1000000 0)),(2,.one (.int .i64 a2)),(4,.box [.int .i64 a1.kind,.int .i64 a1.cmd,.int .i64 a1.ver,.str a1.auth,.int .i64 a1.family,.int .i64 a1.ae,.str a1.prefix_,.int .i64 a1.plen,.int .i64 a1.tag,.str a1.next,.int .i64 a1.metric,.str a1.id,.int .i64 a1.seq,.int .i64 a1.seq2,.int .i64 a1.interval,.int .i64 a1.flags,.int .i64 a1.hops,.int .i64 a1.nonce,.int .i64 a1.cost,.str a1.addr,.str a1.orig,.sl 87 a1.list .ro,.int .i64 a1.type_,.str a1.data,.sl 89 a1.subs .ro]),(6,.one (.sref 19)),(19,.bblk 5 x19 true),(40,.one (.sl 3 x40 .app)),(41,.one (.int .i64 x41)),(42,.one (.int .i64 x42)),(1000000,.box [.bs 5 a0.b .app,.str x1000000_1,.str x1000000_2,.str x1000000_3,.str x1000000_4,.str a0.c_Next_c0,.str a0.c_Next_c1,.str a0.c_Id])]
noncomputable def ab2 (n m:Nat) (a2:Int) (a1:a00) (x40:List Int) (x41:Int) (a0:a22) (x1000000_1:List UInt8) (x1000000_2:List UInt8) (x1000000_3:List UInt8) (x1000000_4:List UInt8) (x6:List UInt8) (x42:Int):Option ((Unit) × (a22 × Unit)):=
 bd3 n [.r,.r,.r,.l,.r,.l,.at m] [(0,.one (.ref 1000000 0)),(2,.one (.int .i64 a2)),(4,.box [.int .i64 a1.kind,.int .i64 a1.cmd,.int .i64 a1.ver,.str a1.auth,.int .i64 a1.family,.int .i64 a1.ae,.str a1.prefix_,.int .i64 a1.plen,.int .i64 a1.tag,.str a1.next,.int .i64 a1.metric,.str a1.id,.int .i64 a1.seq,.int .i64 a1.seq2,.int .i64 a1.interval,.int .i64 a1.flags,.int .i64 a1.hops,.int .i64 a1.nonce,.int .i64 a1.cost,.str a1.addr,.str a1.orig,.sl 87 a1.list .ro,.int .i64 a1.type_,.str a1.data,.sl 89 a1.subs .ro]),(6,.one (.bs 5 x6 .app)),(40,.one (.sl 3 x40 .app)),(41,.one (.int .i64 x41)),(42,.one (.int .i64 x42)),(1000000,.box [.bs 5 a0.b .app,.str x1000000_1,.str x1000000_2,.str x1000000_3,.str x1000000_4,.str a0.c_Next_c0,.str a0.c_Next_c1,.str a0.c_Id])]
def cy6:Sig τ:=⟨[(false,aa8),(false,a17)],[a02,aa8,a14]⟩
def dy2:Adv:=⟨77,[[2,3,5],[2,3,5,9],[4,5,6],[2,3,5,14],[4,5,6],[2,3,5,7],[2,3,5,7,26],[2,3,5,7,8],[2,3,5,7,8,39],[4,5,6],[2,3,5,7,8,45],[2,3,5,7,8],[3,5,7,8,56],[3,5,7],[5,7],[4,5,6]],[],[]⟩
noncomputable def dy3:List (Ent U):=[bk0,dd3,aT5,ca6,bX5,bd2,bk2]
noncomputable def c15:a03 × a00 × Unit→Option (((List UInt8) × a03 × Int × Unit) × Unit):=a05 (U:=U) Tryz.prog dy3 dy2 0 Tryz.f58 cy6
noncomputable def dR6:Ent U:=⟨58,cy6,c15⟩
def bR1:Sig τ:=⟨[(false,a02)],[a02,a15]⟩
def d07:Adv:=⟨23,[[0],[0,4,5],[0,4,18],[2,3],[2,3]],[],[]⟩
noncomputable def d08:List (Ent U):=[aN0]
noncomputable def bk3:(List UInt8) × Unit→Option (((List UInt8) × Bool × Unit) × Unit):=a05 (U:=U) Tryz.prog d08 d07 0 Tryz.f59 bR1
noncomputable def dd7:Ent U:=⟨59,bR1,bk3⟩
def aI2:Sig τ:=⟨[(false,a26)],[a02,a13,a14]⟩
def b97:Adv:=⟨62,[[0],[0,16,17,18],[0,16,17,18,19],[0,5,6,16,17,18],[0,5,16,17,18,25],[2,3,4],[0,16,17,18],[0,7],[0,7,8],[7,8,28,29,30],[7,8,28,29,30,31],[7,8,9,10,28,29,30],[7,8,9,11,12,13,28,29,30],[7,8,9,11,12,13,28,29,30,43],[2,3,4],[7,8,9,28,29,30],[7,8,9,28,29,30,52],[2,3,4],[7,8,28,29,30],[14],[2,3,4]],[46],[]⟩
noncomputable def b98:List (Ent U):=[bk0,dR6,dd7]
noncomputable def bk4 (n:Nat):(List a00) × Unit→Option (((List UInt8) × Int × Int × Unit) × Unit):=a05 (U:=U) Tryz.prog b98 b97 n Tryz.f35 aI2
noncomputable def bk5:(List a00) × Unit→Option (((List UInt8) × Int × Int × Unit) × Unit):=bk4 a04
noncomputable def cp5:Ent U:=⟨35,aI2,bk5⟩
noncomputable def cb2:=lp (tab b98) b97 Tryz.f35 0 aI2
noncomputable def aB2 (n m:Nat) (a0:List a00) (x18:Int):Option (((List UInt8) × Int × Int × Unit) × Unit):=
 cb2 n [.r,.l,.r,.l,.at m] [(0,.one (.sl 29 a0 .ro)),(16,.one (.sl 29 a0 .ro)),(17,.one (.int .i64 (a0.length:Int))),(18,.one (.int .i64 x18))]
noncomputable def aB3 (n m:Nat) (a0:List a00) (x7:List UInt8) (x8_0:List UInt8) (x8_1:List UInt8) (x8_2:List UInt8) (x8_3:List UInt8) (x8_4:List UInt8) (x8_5:List UInt8) (x8_6:List UInt8) (x30:Int):Option (((List UInt8) × Int × Int × Unit) × Unit):=
 cb2 n [.r,.r,.r,.r,.l,.r,.l,.at m] [(7,.one (.bs 5 x7 .app)),(8,.box [.str x8_0,.str x8_1,.str x8_2,.str x8_3,.str x8_4,.str x8_5,.str x8_6]),(28,.one (.sl 29 a0 .ro)),(29,.one (.int .i64 (a0.length:Int))),(30,.one (.int .i64 x30))]
def ay1:Sig τ:=⟨[(false,a13),(false,a26)],[a02,a13,a14]⟩
def bk6:Adv:=⟨23,[[0,1],[1,7,8],[1,7,15],[4,5,6],[4,5,6]],[],[]⟩
noncomputable def bk7:List (Ent U):=[db5,cE9,cZ3,cp5]
noncomputable def aI3:Tab U:=inl Tryz.prog 41 (tab bk7) cx5 0 Tryz.f41 (tab bk7)
noncomputable def aY2:Int × (List a00) × Unit→Option (((List UInt8) × Int × Int × Unit) × Unit):=cQ7 (U:=U) Tryz.prog aI3 bk6 0 Tryz.f21 ay1
noncomputable def bw6:Ent U:=⟨21,ay1,aY2⟩
def aE5:Sig τ:=⟨[(false,a13),(false,a17)],[a15]⟩
def bw7:Adv:=⟨19,[[0,3],[3,5,6],[4]],[],[]⟩
noncomputable def bw8:List (Ent U):=[bE3,bP0,c95,bk0]
noncomputable def aQ7:Tab U:=inl Tryz.prog 41 (tab bw8) cx5 0 Tryz.f41 (tab bw8)
noncomputable def b64:Int × a00 × Unit→Option ((Bool × Unit) × Unit):=cQ7 (U:=U) Tryz.prog aQ7 bw7 0 Tryz.f17 aE5
noncomputable def bR2:Ent U:=⟨17,aE5,b64⟩
def bw9:Sig τ:=⟨[],[a15]⟩
def cF6:Adv:=⟨62,[[],[1,3],[1,3,6],[1,3,6,9],[1,3,6,9,10,12],[0]],[],[999999]⟩
noncomputable def cF7:List (Ent U):=[bO7,bw6,bR2]
noncomputable def aw8:Unit→Option ((Bool × Unit) × Unit):=a05 (U:=U) Tryz.prog cF7 cF6 0 Tryz.f16 bw9
noncomputable def d09:Ent U:=⟨16,bw9,aw8⟩
def aY3:Sig τ:=⟨[(false,cn6),(false,cn6)],[a15]⟩
def bx0:Adv:=⟨26,[[0,1],[0,1,10],[4],[0,1,5],[0,1,5,14],[0,1,5],[0,1,5,25],[4],[4]],[],[]⟩
noncomputable def bx1:List (Ent U):=[]
noncomputable def bR3 (n:Nat):(List a44) × (List a44) × Unit→Option ((Bool × Unit) × Unit):=a05 (U:=U) Tryz.prog bx1 bx0 n Tryz.f109 aY3
noncomputable def bR4:(List a44) × (List a44) × Unit→Option ((Bool × Unit) × Unit):=bR3 a04
noncomputable def d10:Ent U:=⟨109,aY3,bR4⟩
noncomputable def e23:=lp (tab bx1) bx0 Tryz.f109 0 aY3
noncomputable def aQ8 (n m:Nat) (a0:List a44) (a1:List a44) (x5:Int):Option ((Bool × Unit) × Unit):=
 e23 n [.r,.r,.l,.r,.l,.at m] [(0,.one (.sl 87 a0 .ro)),(1,.one (.sl 87 a1 .ro)),(5,.one (.int .i64 x5))]
def b65:Sig τ:=⟨[(false,a67),(false,a67)],[a15]⟩
def bR5:Adv:=⟨26,[[0,1],[0,1,10],[4],[0,1,5],[0,1,5,14],[0,1,5],[0,1,5,25],[4],[4]],[],[]⟩
noncomputable def bR6:List (Ent U):=[]
noncomputable def cb3 (n:Nat):(List a08) × (List a08) × Unit→Option ((Bool × Unit) × Unit):=a05 (U:=U) Tryz.prog bR6 bR5 n Tryz.f110 b65
noncomputable def cb4:(List a08) × (List a08) × Unit→Option ((Bool × Unit) × Unit):=cb3 a04
noncomputable def dd8:Ent U:=⟨110,b65,cb4⟩
noncomputable def ek5:=lp (tab bR6) bR5 Tryz.f110 0 b65
noncomputable def aY4 (n m:Nat) (a0:List a08) (a1:List a08) (x5:Int):Option ((Bool × Unit) × Unit):=
 ek5 n [.r,.r,.l,.r,.l,.at m] [(0,.one (.sl 89 a0 .ro)),(1,.one (.sl 89 a1 .ro)),(5,.one (.int .i64 x5))]
def bR7:Sig τ:=⟨[(false,a17),(false,a17)],[a15]⟩
def d11:Adv:=⟨174,[[2,3],[2,3,79],[4],[2,3,161],[4],[4]],[],[]⟩
noncomputable def d12:List (Ent U):=[d10,dd8]
noncomputable def a76:a00 × a00 × Unit→Option ((Bool × Unit) × Unit):=a05 (U:=U) Tryz.prog d12 d11 0 Tryz.f54 bR7
noncomputable def cb5:Ent U:=⟨54,bR7,a76⟩
def bR8:Sig τ:=⟨[(false,a17)],[a15]⟩
def d13:Adv:=⟨214,[[1],[1,3],[1,3,10],[2],[1,3,10,11],[1,3],[1,3,10,34],[1,3],[1,3,10,51],[1,3],[1,3,10,74],[1,3],[1,3,10,97],[1,3],[1,3,10,105],[1,3,10,107],[1,3],[1,3,10,115],[1,3],[1,3,10,120],[1,3],[1,3,10,131],[1,3],[1,3,10,145],[1,3],[1,3,10,171],[1,3],[1,3,10,182],[1,3],[1,3,202],[1,3],[2]],[],[]⟩
noncomputable def d14:List (Ent U):=[cb5]
noncomputable def ac6:a00 × Unit→Option ((Bool × Unit) × Unit):=a05 (U:=U) Tryz.prog d14 d13 0 Tryz.f79 bR8
noncomputable def ag8:Ent U:=⟨79,bR8,ac6⟩
def bk8:Sig τ:=⟨[],[a02]⟩
def cp6:Adv:=⟨1,[[],[0]],[],[]⟩
noncomputable def cp7:List (Ent U):=[]
noncomputable def a95:Unit→Option (((List UInt8) × Unit) × Unit):=a05 (U:=U) Tryz.prog cp7 cp6 0 Tryz.f80 bk8
noncomputable def aY5:Ent U:=⟨80,bk8,a95⟩
def cb6:Sig τ:=⟨[(false,a02),(false,a13)],[a15]⟩
def dd9:Adv:=⟨28,[[0,1],[4]],[],[]⟩
noncomputable def de0:List (Ent U):=[]
noncomputable def bF4:(List UInt8) × Int × Unit→Option ((Bool × Unit) × Unit):=a05 (U:=U) Tryz.prog de0 dd9 0 Tryz.f252 cb6
noncomputable def dy4:Ent U:=⟨252,cb6,bF4⟩
def b66:Sig τ:=⟨[(false,a02),(false,a13)],[a02]⟩
def bR9:Adv:=⟨42,[[0,1],[0,1,5],[0,1,5,6],[0,1,5,6,19],[0,1,5,6],[0,1,5,6,24],[0,1,5,6],[4]],[],[]⟩
noncomputable def bS0:List (Ent U):=[dy4]
noncomputable def cb7 (n:Nat):(List UInt8) × Int × Unit→Option (((List UInt8) × Unit) × Unit):=a05 (U:=U) Tryz.prog bS0 bR9 n Tryz.f218 b66
noncomputable def an9:(List UInt8) × Int × Unit→Option (((List UInt8) × Unit) × Unit):=cb7 a04
noncomputable def aU4:Ent U:=⟨218,b66,an9⟩
noncomputable def ek6:=lp (tab bS0) bR9 Tryz.f218 0 b66
noncomputable def aE6 (n m:Nat) (a0:List UInt8) (a1:Int) (x6:Int) (x9:List UInt8):Option (((List UInt8) × Unit) × Unit):=
 ek6 n [.r,.r,.l,.r,.l,.at m] [(0,.one (.str a0)),(1,.one (.int .i64 a1)),(5,.one (.sref 9)),(6,.one (.int .i64 x6)),(9,.bblk 5 x9 true)]
def bx2:Sig τ:=⟨[(false,a02),(false,a13)],[a15]⟩
def cF8:Adv:=⟨10,[[0,1],[4]],[],[]⟩
noncomputable def cF9:List (Ent U):=[aU4]
noncomputable def aL3:(List UInt8) × Int × Unit→Option ((Bool × Unit) × Unit):=a05 (U:=U) Tryz.prog cF9 cF8 0 Tryz.f157 bx2
noncomputable def d15:Ent U:=⟨157,bx2,aL3⟩
def bx3:Sig τ:=⟨[(false,a02),(false,a13)],[a15]⟩
def cG0:Adv:=⟨29,[[0,1],[4]],[],[]⟩
noncomputable def cG1:List (Ent U):=[d15]
noncomputable def aa7:(List UInt8) × Int × Unit→Option ((Bool × Unit) × Unit):=a05 (U:=U) Tryz.prog cG1 cG0 0 Tryz.f81 bx3
noncomputable def aw9:Ent U:=⟨81,bx3,aa7⟩
def bx4:Sig τ:=⟨[(false,a17)],[a15]⟩
def cG2:Adv:=⟨135,[[1],[1,42],[2],[1,56],[2],[1,59],[2],[1,102],[2],[1,105],[2],[2]],[],[]⟩
noncomputable def cG3:List (Ent U):=[ag8,aY5,aw9]
noncomputable def ax0:a00 × Unit→Option ((Bool × Unit) × Unit):=a05 (U:=U) Tryz.prog cG3 cG2 0 Tryz.f42 bx4
noncomputable def b67:Ent U:=⟨42,bx4,ax0⟩
def bx5:Sig τ:=⟨[(false,a13)],[a02]⟩
def cG4:Adv:=⟨8,[[0],[0,4],[2],[2]],[],[]⟩
noncomputable def cG5:List (Ent U):=[]
noncomputable def bS1:Int × Unit→Option (((List UInt8) × Unit) × Unit):=a05 (U:=U) Tryz.prog cG5 cG4 0 Tryz.f158 bx5
noncomputable def d16:Ent U:=⟨158,bx5,bS1⟩
def bS2:Sig τ:=⟨[],[a02]⟩
def d17:Adv:=⟨2,[[],[0]],[],[]⟩
noncomputable def d18:List (Ent U):=[d16]
noncomputable def au1:Unit→Option (((List UInt8) × Unit) × Unit):=a05 (U:=U) Tryz.prog d18 d17 0 Tryz.f82 bS2
noncomputable def bk9:Ent U:=⟨82,bS2,au1⟩
def bS3:Sig τ:=⟨[],[a02]⟩
def d19:Adv:=⟨1,[[],[0]],[],[]⟩
noncomputable def d20:List (Ent U):=[]
noncomputable def bl0:Unit→Option (((List UInt8) × Unit) × Unit):=a05 (U:=U) Tryz.prog d20 d19 0 Tryz.f159 bS3
noncomputable def cb8:Ent U:=⟨159,bS3,bl0⟩
def bS4:Sig τ:=⟨[(false,a02)],[a15]⟩
def d21:Adv:=⟨12,[[0],[2]],[],[]⟩
noncomputable def d22:List (Ent U):=[cb8]
noncomputable def ag9:(List UInt8) × Unit→Option ((Bool × Unit) × Unit):=a05 (U:=U) Tryz.prog d22 d21 0 Tryz.f83 bS4
noncomputable def au2:Ent U:=⟨83,bS4,ag9⟩
def bx6:Sig τ:=⟨[(false,a17)],[a15]⟩
def cG6:Adv:=⟨64,[[1],[2]],[],[]⟩
noncomputable def cG7:List (Ent U):=[ag8,aw9,bk9,au2]
noncomputable def aL4:a00 × Unit→Option ((Bool × Unit) × Unit):=a05 (U:=U) Tryz.prog cG7 cG6 0 Tryz.f43 bx6
noncomputable def bS5:Ent U:=⟨43,bx6,aL4⟩
def b68:Sig τ:=⟨[(false,a13),(false,a13)],[a15]⟩
def bS6:Adv:=⟨27,[[0,1],[0,1,16],[4],[0,1,5],[0,1,5,6],[0,1,5,6,19],[0,1,5,6],[0,1,5,6],[4]],[],[]⟩
noncomputable def bS7:List (Ent U):=[]
noncomputable def cb9 (n:Nat):Int × Int × Unit→Option ((Bool × Unit) × Unit):=a05 (U:=U) Tryz.prog bS7 bS6 n Tryz.f160 b68
noncomputable def a81:Int × Int × Unit→Option ((Bool × Unit) × Unit):=cb9 a04
noncomputable def ao0:Ent U:=⟨160,b68,a81⟩
noncomputable def ek7:=lp (tab bS7) bS6 Tryz.f160 0 b68
noncomputable def aY6 (n m:Nat) (a0:Int) (a1:Int) (x5:Int) (x6:Int):Option ((Bool × Unit) × Unit):=
 ek7 n [.r,.r,.r,.l,.r,.l,.at m] [(0,.one (.int .i64 a0)),(1,.one (.int .i64 a1)),(5,.one (.int .i64 x5)),(6,.one (.int .i64 x6))]
def b69:Sig τ:=⟨[(false,a67),(false,a13),(false,a13)],[a15]⟩
def bS8:Adv:=⟨39,[[0,1,2],[0,1,2,7],[0,1,2,7,11],[0,1,2,7],[0,1,2,7,38],[6],[6]],[],[]⟩
noncomputable def bS9:List (Ent U):=[]
noncomputable def cc0 (n:Nat):(List a08) × Int × Int × Unit→Option ((Bool × Unit) × Unit):=a05 (U:=U) Tryz.prog bS9 bS8 n Tryz.f219 b69
noncomputable def bl1:(List a08) × Int × Int × Unit→Option ((Bool × Unit) × Unit):=cc0 a04
noncomputable def cc1:Ent U:=⟨219,b69,bl1⟩
noncomputable def ek8:=lp (tab bS9) bS8 Tryz.f219 0 b69
noncomputable def aY7 (n m:Nat) (a0:List a08) (a1:Int) (a2:Int) (x7:Int):Option ((Bool × Unit) × Unit):=
 ek8 n [.r,.l,.r,.l,.at m] [(0,.one (.sl 89 a0 .ro)),(1,.one (.int .i64 a1)),(2,.one (.int .i64 a2)),(7,.one (.int .i64 x7))]
def bx7:Sig τ:=⟨[(false,a67)],[a15]⟩
def cG8:Adv:=⟨5,[[0],[2]],[],[]⟩
noncomputable def cG9:List (Ent U):=[cc1]
noncomputable def ap9:(List a08) × Unit→Option ((Bool × Unit) × Unit):=a05 (U:=U) Tryz.prog cG9 cG8 0 Tryz.f161 bx7
noncomputable def aL5:Ent U:=⟨161,bx7,ap9⟩
def bx8:Sig τ:=⟨[(false,a17)],[a15]⟩
def cH0:Adv:=⟨57,[[1],[2]],[],[]⟩
noncomputable def cH1:List (Ent U):=[ag8,ao0,aL5]
noncomputable def aL6:a00 × Unit→Option ((Bool × Unit) × Unit):=a05 (U:=U) Tryz.prog cH1 cH0 0 Tryz.f84 bx8
noncomputable def bT0:Ent U:=⟨84,bx8,aL6⟩
def bx9:Sig τ:=⟨[(false,a17)],[a15]⟩
def cH2:Adv:=⟨65,[[1],[1,11],[2],[1,14],[2],[2]],[],[]⟩
noncomputable def cH3:List (Ent U):=[ag8,aL5,ao0]
noncomputable def aL7:a00 × Unit→Option ((Bool × Unit) × Unit):=a05 (U:=U) Tryz.prog cH3 cH2 0 Tryz.f85 bx9
noncomputable def bT1:Ent U:=⟨85,bx9,aL7⟩
def aY8:Sig τ:=⟨[(false,a17)],[a15]⟩
def by0:Adv:=⟨65,[[1],[1,39],[2],[1,3],[1,3,44],[1,3],[1,3,64],[2],[2]],[],[]⟩
noncomputable def by1:List (Ent U):=[ag8,aL5,ao0]
noncomputable def bT2 (n:Nat):a00 × Unit→Option ((Bool × Unit) × Unit):=a05 (U:=U) Tryz.prog by1 by0 n Tryz.f86 aY8
noncomputable def b70:a00 × Unit→Option ((Bool × Unit) × Unit):=bT2 a04
noncomputable def bT3:Ent U:=⟨86,aY8,b70⟩
noncomputable def e24:=lp (tab by1) by0 Tryz.f86 0 aY8
noncomputable def aQ9 (n m:Nat) (a0:a00) (x3:Int):Option ((Bool × Unit) × Unit):=
 e24 n [.r,.r,.l,.r,.l,.at m] [(1,.box [.int .i64 a0.kind,.int .i64 a0.cmd,.int .i64 a0.ver,.str a0.auth,.int .i64 a0.family,.int .i64 a0.ae,.str a0.prefix_,.int .i64 a0.plen,.int .i64 a0.tag,.str a0.next,.int .i64 a0.metric,.str a0.id,.int .i64 a0.seq,.int .i64 a0.seq2,.int .i64 a0.interval,.int .i64 a0.flags,.int .i64 a0.hops,.int .i64 a0.nonce,.int .i64 a0.cost,.str a0.addr,.str a0.orig,.sl 87 a0.list .ro,.int .i64 a0.type_,.str a0.data,.sl 89 a0.subs .ro]),(3,.one (.int .i64 x3))]
def by2:Sig τ:=⟨[(false,a17)],[a15]⟩
def cH4:Adv:=⟨13,[[1],[2]],[],[]⟩
noncomputable def cH5:List (Ent U):=[bT0,bT1,bT3]
noncomputable def aL8:a00 × Unit→Option ((Bool × Unit) × Unit):=a05 (U:=U) Tryz.prog cH5 cH4 0 Tryz.f44 by2
noncomputable def bT4:Ent U:=⟨44,by2,aL8⟩
def aY9:Sig τ:=⟨[(false,a67)],[a13]⟩
def by3:Adv:=⟨21,[[0],[0,3],[0,3,4],[0,3,4,8],[0,3,4],[0,3,4],[2]],[],[]⟩
noncomputable def by4:List (Ent U):=[]
noncomputable def bT5 (n:Nat):(List a08) × Unit→Option ((Int × Unit) × Unit):=a05 (U:=U) Tryz.prog by4 by3 n Tryz.f220 aY9
noncomputable def aL9:(List a08) × Unit→Option ((Int × Unit) × Unit):=bT5 a04
noncomputable def bT6:Ent U:=⟨220,aY9,aL9⟩
noncomputable def e25:=lp (tab by4) by3 Tryz.f220 0 aY9
noncomputable def aR0 (n m:Nat) (a0:List a08) (x3:Int) (x4:Int):Option ((Int × Unit) × Unit):=
 e25 n [.r,.r,.l,.r,.l,.at m] [(0,.one (.sl 89 a0 .ro)),(3,.one (.int .i64 x3)),(4,.one (.int .i64 x4))]
def by5:Sig τ:=⟨[(false,a67)],[a15]⟩
def cH6:Adv:=⟨10,[[0],[2]],[],[]⟩
noncomputable def cH7:List (Ent U):=[cc1,bT6]
noncomputable def aq0:(List a08) × Unit→Option ((Bool × Unit) × Unit):=a05 (U:=U) Tryz.prog cH7 cH6 0 Tryz.f162 by5
noncomputable def aM0:Ent U:=⟨162,by5,aq0⟩
def cc2:Sig τ:=⟨[(false,a13)],[a15]⟩
def de1:Adv:=⟨5,[[0],[2]],[],[]⟩
noncomputable def de2:List (Ent U):=[ao0]
noncomputable def aA1:Int × Unit→Option ((Bool × Unit) × Unit):=a05 (U:=U) Tryz.prog de2 de1 0 Tryz.f163 cc2
noncomputable def dy5:Ent U:=⟨163,cc2,aA1⟩
def bT7:Sig τ:=⟨[(false,a13),(false,a02)],[a15]⟩
def d23:Adv:=⟨24,[[0,1],[1,5],[1,5,6],[4],[1,5,10],[4],[1,5,15],[4],[1,20],[4],[4]],[],[]⟩
noncomputable def d24:List (Ent U):=[au2]
noncomputable def aU5:Int × (List UInt8) × Unit→Option ((Bool × Unit) × Unit):=a05 (U:=U) Tryz.prog d24 d23 0 Tryz.f164 bT7
noncomputable def de3:Ent U:=⟨164,bT7,aU5⟩
def by6:Sig τ:=⟨[(false,a17)],[a15]⟩
def cH8:Adv:=⟨58,[[1],[1,35],[2],[1,37],[1,37,38],[1,37,38],[2],[1,37,41],[2],[1,51],[2],[2]],[],[]⟩
noncomputable def cH9:List (Ent U):=[ag8,aM0,dy5,de3]
noncomputable def aM1:a00 × Unit→Option ((Bool × Unit) × Unit):=a05 (U:=U) Tryz.prog cH9 cH8 0 Tryz.f87 by6
noncomputable def bT8:Ent U:=⟨87,by6,aM1⟩
def cy7:Sig τ:=⟨[(false,a13),(false,a02),(false,a13)],[a15]⟩
def dy6:Adv:=⟨49,[[0,1,2],[1,2,7],[1,2,7,8],[6],[1,2,7,16],[6],[1,2,7,26],[6],[1,2,36],[6],[6]],[],[]⟩
noncomputable def dy7:List (Ent U):=[aw9,au2]
noncomputable def bl2:Int × (List UInt8) × Int × Unit→Option ((Bool × Unit) × Unit):=a05 (U:=U) Tryz.prog dy7 dy6 0 Tryz.f165 cy7
noncomputable def cS8:Ent U:=⟨165,cy7,bl2⟩
def by7:Sig τ:=⟨[(false,a17)],[a15]⟩
def cI0:Adv:=⟨54,[[1],[1,21],[2],[1,24],[2],[2]],[],[]⟩
noncomputable def cI1:List (Ent U):=[ag8,aM0,cS8,ao0]
noncomputable def aM2:a00 × Unit→Option ((Bool × Unit) × Unit):=a05 (U:=U) Tryz.prog cI1 cI0 0 Tryz.f88 by7
noncomputable def bT9:Ent U:=⟨88,by7,aM2⟩
def cc3:Sig τ:=⟨[(false,a13)],[a15]⟩
def de4:Adv:=⟨5,[[0],[2]],[],[]⟩
noncomputable def de5:List (Ent U):=[ao0]
noncomputable def aN4:Int × Unit→Option ((Bool × Unit) × Unit):=a05 (U:=U) Tryz.prog de5 de4 0 Tryz.f166 cc3
noncomputable def dy8:Ent U:=⟨166,cc3,aN4⟩
def bl3:Sig τ:=⟨[(false,a02)],[a13]⟩
def cp8:Adv:=⟨9,[[0],[0,5],[2],[8],[2],[2]],[],[]⟩
noncomputable def cp9:List (Ent U):=[]
noncomputable def aZ0:(List UInt8) × Unit→Option ((Int × Unit) × Unit):=a05 (U:=U) Tryz.prog cp9 cp8 0 Tryz.f167 bl3
noncomputable def cI2:Ent U:=⟨167,bl3,aZ0⟩
def bl4:Sig τ:=⟨[(false,a13)],[a13]⟩
def cq0:Adv:=⟨11,[[0],[0,4],[2],[10],[2],[2]],[],[]⟩
noncomputable def cq1:List (Ent U):=[]
noncomputable def ai5:Int × Unit→Option ((Int × Unit) × Unit):=a05 (U:=U) Tryz.prog cq1 cq0 0 Tryz.f168 bl4
noncomputable def aE7:Ent U:=⟨168,bl4,ai5⟩
def by8:Sig τ:=⟨[(false,a17)],[a15]⟩
def cI3:Adv:=⟨79,[[1],[1,44],[2],[1,47],[2],[2]],[],[]⟩
noncomputable def cI4:List (Ent U):=[ag8,aM0,cS8,dy8,cI2,aE7]
noncomputable def b71:a00 × Unit→Option ((Bool × Unit) × Unit):=a05 (U:=U) Tryz.prog cI4 cI3 0 Tryz.f89 by8
noncomputable def d25:Ent U:=⟨89,by8,b71⟩
def bl5:Sig τ:=⟨[(false,a17)],[a15]⟩
def cq2:Adv:=⟨26,[[1],[2]],[],[]⟩
noncomputable def cq3:List (Ent U):=[ag8]
noncomputable def by9:a00 × Unit→Option ((Bool × Unit) × Unit):=a05 (U:=U) Tryz.prog cq3 cq2 0 Tryz.f90 bl5
noncomputable def cI5:Ent U:=⟨90,bl5,by9⟩
def bz0:Sig τ:=⟨[(false,a17)],[a15]⟩
def cI6:Adv:=⟨17,[[1],[2]],[],[]⟩
noncomputable def cI7:List (Ent U):=[bT8,bT9,d25,cI5]
noncomputable def ax1:a00 × Unit→Option ((Bool × Unit) × Unit):=a05 (U:=U) Tryz.prog cI7 cI6 0 Tryz.f45 bz0
noncomputable def b72:Ent U:=⟨45,bz0,ax1⟩
def bz1:Sig τ:=⟨[(false,a13),(false,a17)],[a15]⟩
def cI8:Adv:=⟨22,[[0,3],[3,5],[3,5,6],[4],[3,5,10],[4],[3,5,14],[4],[3,18],[4],[4]],[],[]⟩
noncomputable def cI9:List (Ent U):=[b67,bS5,bT4,b72]
noncomputable def b73:Int × a00 × Unit→Option ((Bool × Unit) × Unit):=a05 (U:=U) Tryz.prog cI9 cI8 0 Tryz.f18 bz1
noncomputable def d26:Ent U:=⟨18,bz1,b73⟩
def bU0:Sig τ:=⟨[(false,a02)],[a13,a14]⟩
def d27:Adv:=⟨55,[[0],[0,4],[2,3],[0,10],[2,3],[0,19],[2,3],[0,28],[2,3],[0,37],[2,3],[0,45],[2,3],[51],[2,3],[2,3]],[],[]⟩
noncomputable def d28:List (Ent U):=[]
noncomputable def bl6:(List UInt8) × Unit→Option ((Int × Int × Unit) × Unit):=a05 (U:=U) Tryz.prog d28 d27 0 Tryz.f91 bU0
noncomputable def de6:Ent U:=⟨91,bU0,bl6⟩
def cy8:Sig τ:=⟨[(false,a02)],[a15]⟩
def dy9:Adv:=⟨16,[[0],[2]],[],[]⟩
noncomputable def dz0:List (Ent U):=[]
noncomputable def bl7:(List UInt8) × Unit→Option ((Bool × Unit) × Unit):=a05 (U:=U) Tryz.prog dz0 dy9 0 Tryz.f92 cy8
noncomputable def cS9:Ent U:=⟨92,cy8,bl7⟩
def cc4:Sig τ:=⟨[(false,a02)],[a02,a15]⟩
def de7:Adv:=⟨9,[[0],[0,6],[2,3],[2,3]],[],[]⟩
noncomputable def de8:List (Ent U):=[cS9]
noncomputable def bF5:(List UInt8) × Unit→Option (((List UInt8) × Bool × Unit) × Unit):=a05 (U:=U) Tryz.prog de8 de7 0 Tryz.f93 cc4
noncomputable def dz1:Ent U:=⟨93,cc4,bF5⟩
def aR1:Sig τ:=⟨[(false,a02)],[a13]⟩
def bl8:Adv:=⟨23,[[0],[0,3],[0,3,4],[0,3,4,12],[0,3,4],[0,3,4],[2]],[],[]⟩
noncomputable def bl9:List (Ent U):=[]
noncomputable def bz2 (n:Nat):(List UInt8) × Unit→Option ((Int × Unit) × Unit):=a05 (U:=U) Tryz.prog bl9 bl8 n Tryz.f169 aR1
noncomputable def a20:(List UInt8) × Unit→Option ((Int × Unit) × Unit):=bz2 a04
noncomputable def af4:Ent U:=⟨169,aR1,a20⟩
noncomputable def dR7:=lp (tab bl9) bl8 Tryz.f169 0 aR1
noncomputable def aI4 (n m:Nat) (a0:List UInt8) (x3:Int) (x4:Int):Option ((Int × Unit) × Unit):=
 dR7 n [.r,.r,.l,.r,.l,.at m] [(0,.one (.str a0)),(3,.one (.int .i64 x3)),(4,.one (.int .i64 x4))]
def cc5:Sig τ:=⟨[(false,a02)],[ad6,a15]⟩
def de9:Adv:=⟨24,[[0,2],[0,2,6],[2,3],[2,3]],[],[]⟩
noncomputable def df0:List (Ent U):=[af4]
noncomputable def bF6:(List UInt8) × Unit→Option ((a23 × Bool × Unit) × Unit):=a05 (U:=U) Tryz.prog df0 de9 0 Tryz.f94 cc5
noncomputable def dz2:Ent U:=⟨94,cc5,bF6⟩
def cy9:Sig τ:=⟨[(false,a13)],[a02,a15]⟩
def dz3:Adv:=⟨12,[[0],[0,9],[2,3],[2,3]],[],[]⟩
noncomputable def dz4:List (Ent U):=[aU4]
noncomputable def bm0:Int × Unit→Option (((List UInt8) × Bool × Unit) × Unit):=a05 (U:=U) Tryz.prog dz4 dz3 0 Tryz.f175 cy9
noncomputable def cT0:Ent U:=⟨175,cy9,bm0⟩
def b74:Sig τ:=⟨[(false,a02)],[a13,a15]⟩
def bU1:Adv:=⟨20,[[0],[0,4],[0,4,8],[0,4],[0,4,5],[0,4,18],[2,3],[2,3]],[],[]⟩
noncomputable def bU2:List (Ent U):=[cT0]
noncomputable def cc6 (n:Nat):(List UInt8) × Unit→Option ((Int × Bool × Unit) × Unit):=a05 (U:=U) Tryz.prog bU2 bU1 n Tryz.f170 b74
noncomputable def cc7:(List UInt8) × Unit→Option ((Int × Bool × Unit) × Unit):=cc6 a04
noncomputable def df1:Ent U:=⟨170,b74,cc7⟩
noncomputable def ek9:=lp (tab bU2) bU1 Tryz.f170 0 b74
noncomputable def aZ1 (n m:Nat) (a0:List UInt8) (x4:Int):Option ((Int × Bool × Unit) × Unit):=
 ek9 n [.r,.l,.r,.l,.at m] [(0,.one (.str a0)),(4,.one (.int .i64 x4))]
def bz3:Sig τ:=⟨[(false,ad6),(false,a13),(false,a13),(false,a02),(false,a15)],[a17,a14]⟩
def cJ0:Adv:=⟨98,[[1,2,3,4,5,10],[2,4,5,10,12],[2,4,5,10,12,31],[10,12,44],[10,11],[10,11],[2,5,10,12,49],[10,11],[5,10,12,52],[5,10,12],[5,10,12,68],[10,11],[5,10,12,13,14],[5,10,12,13,14],[5,10,12,86],[10,11],[10,12,95],[10,11],[10,11]],[],[]⟩
noncomputable def cJ1:List (Ent U):=[aY5,b67,df1,aw9]
noncomputable def b75:a23 × Int × Int × (List UInt8) × Bool × Unit→Option ((a00 × Int × Unit) × Unit):=a05 (U:=U) Tryz.prog cJ1 cJ0 0 Tryz.f95 bz3
noncomputable def d29:Ent U:=⟨95,bz3,b75⟩
def aZ2:Sig τ:=⟨[(false,a02)],[a26,a13,a14]⟩
def bz4:Adv:=⟨82,[[0],[0,5,6],[0,5,6,20],[2,3,4],[0,5,7],[0,5,7,30],[0,7],[0,5,7],[0,5,7,39],[2,3,4],[0,5,7,8],[0,5,7,8,9],[0,5,7,8,9,44],[0,5,7,8,9],[0,5,7,8,9,10],[0,5,7,8,9,12,13],[0,5,7,8,9,12,13,74],[2,3,4],[0,5,7,8,9],[2,3,4]],[77],[]⟩
noncomputable def bz5:List (Ent U):=[de6,cS9,dz1,dz2,d29]
noncomputable def bU3 (n:Nat):(List UInt8) × Unit→Option (((List a00) × Int × Int × Unit) × Unit):=a05 (U:=U) Tryz.prog bz5 bz4 n Tryz.f46 aZ2
noncomputable def bU4:(List UInt8) × Unit→Option (((List a00) × Int × Int × Unit) × Unit):=bU3 a04
noncomputable def d30:Ent U:=⟨46,aZ2,bU4⟩
noncomputable def e26:=lp (tab bz5) bz4 Tryz.f46 0 aZ2
noncomputable def aj2 (n m:Nat) (a0:List UInt8) (x5:Int) (x7:List UInt8) (x8:List a00) (x9:Int):Option (((List a00) × Int × Int × Unit) × Unit):=
 e26 n [.r,.r,.r,.r,.r,.r,.l,.r,.l,.at m] [(0,.one (.str a0)),(5,.one (.int .i64 x5)),(7,.one (.str x7)),(8,.one (.sl 29 x8 .app)),(9,.one (.int .i64 x9))]
def cc8:Sig τ:=⟨[(false,a02)],[ad6,a15]⟩
def df2:Adv:=⟨20,[[0,2],[0,2,6],[2,3],[2,3]],[],[]⟩
noncomputable def df3:List (Ent U):=[af4]
noncomputable def bF7:(List UInt8) × Unit→Option ((a23 × Bool × Unit) × Unit):=a05 (U:=U) Tryz.prog df3 df2 0 Tryz.f96 cc8
noncomputable def dz5:Ent U:=⟨96,cc8,bF7⟩
def aZ3:Sig τ:=⟨[(false,a02)],[a26,a13,a14]⟩
def bz6:Adv:=⟨122,[[0],[0,10],[2,3,4],[0,14],[2,3,4],[0,20],[2,3,4],[0,29],[2,3,4],[0,33],[2,3,4],[0,42],[2,3,4],[0,5],[0,5,6],[0,5,6,7],[0,5,6,7,54],[0,5,6,7],[0,5,6,7,8],[0,5,6,7,8,68],[0,5,7,8,76],[2,3,4],[0,5,6,7,8],[0,5,6,7,8,81],[0,5,6,7],[0,5,6,7,8,89],[2,3,4],[0,5,6,7,8,98],[2,3,4],[0,5,6,7],[0,5,118],[2,3,4],[2,3,4]],[100],[]⟩
noncomputable def bz7:List (Ent U):=[bk9,dz5,au2,aw9]
noncomputable def bU5 (n:Nat):(List UInt8) × Unit→Option (((List a00) × Int × Int × Unit) × Unit):=a05 (U:=U) Tryz.prog bz7 bz6 n Tryz.f47 aZ3
noncomputable def bU6:(List UInt8) × Unit→Option (((List a00) × Int × Int × Unit) × Unit):=bU5 a04
noncomputable def d31:Ent U:=⟨47,aZ3,bU6⟩
noncomputable def e27:=lp (tab bz7) bz6 Tryz.f47 0 aZ3
noncomputable def aj3 (n m:Nat) (a0:List UInt8) (x5:List a00) (x6:List UInt8) (x7:Int):Option (((List a00) × Int × Int × Unit) × Unit):=
 e27 n [.r,.r,.r,.r,.l,.r,.l,.at m] [(0,.one (.str a0)),(5,.one (.sl 29 x5 .app)),(6,.one (.str x6)),(7,.one (.int .i64 x7))]
def bm1:Sig τ:=⟨[(false,a02)],[a67,a13,a14]⟩
def cc9:Adv:=⟨57,[[0],[0,5],[0,5,6],[0,5,6,11],[0,5,6,29],[2,3,4],[0,5,6,7],[0,5,6,7],[0,5,6],[2,3,4]],[36],[]⟩
noncomputable def cd0:List (Ent U):=[]
noncomputable def cz0 (n:Nat):(List UInt8) × Unit→Option (((List a08) × Int × Int × Unit) × Unit):=a05 (U:=U) Tryz.prog cd0 cc9 n Tryz.f221 bm1
noncomputable def aA2:(List UInt8) × Unit→Option (((List a08) × Int × Int × Unit) × Unit):=cz0 a04
noncomputable def bF8:Ent U:=⟨221,bm1,aA2⟩
noncomputable def et8:=lp (tab cd0) cc9 Tryz.f221 0 bm1
noncomputable def b76 (n m:Nat) (a0:List UInt8) (x5:List a08) (x6:Int):Option (((List a08) × Int × Int × Unit) × Unit):=
 et8 n [.r,.r,.r,.l,.l,.at m] [(0,.one (.str a0)),(5,.one (.sl 89 x5 .app)),(6,.one (.int .i64 x6))]
def cd1:Sig τ:=⟨[(false,a02)],[a17,a13,a14]⟩
def df4:Adv:=⟨59,[[0,2],[0,2,10],[2,3,4],[0,2,22],[2,3,4],[0,2,5,6,7],[0,2,5,6,7,32],[2,3,4],[2,3,4]],[],[]⟩
noncomputable def df5:List (Ent U):=[bF8,af4]
noncomputable def bF9:(List UInt8) × Unit→Option ((a00 × Int × Int × Unit) × Unit):=a05 (U:=U) Tryz.prog df5 df4 0 Tryz.f171 cd1
noncomputable def dz6:Ent U:=⟨171,cd1,bF9⟩
def bm2:Sig τ:=⟨[(false,a02)],[a17,a13,a14]⟩
def cd2:Adv:=⟨97,[[0,2],[0,2,13],[2,3,4],[0,2,25],[2,3,4],[0,2,5],[0,2,5,31],[2,3,4],[0,2,5,38],[2,3,4],[0,2,5,6],[0,2,5,6,7],[0,2,5,6,7,49],[0,2,5,6,7],[0,2,5,6,7],[2,5,6,8,9,10],[2,5,6,8,9,10,86],[2,3,4],[2,6],[2,3,4]],[53],[]⟩
noncomputable def cd3:List (Ent U):=[af4,bF8]
noncomputable def cz1 (n:Nat):(List UInt8) × Unit→Option ((a00 × Int × Int × Unit) × Unit):=a05 (U:=U) Tryz.prog cd3 cd2 n Tryz.f172 bm2
noncomputable def cz2:(List UInt8) × Unit→Option ((a00 × Int × Int × Unit) × Unit):=cz1 a04
noncomputable def dz7:Ent U:=⟨172,bm2,cz2⟩
noncomputable def et9:=lp (tab cd3) cd2 Tryz.f172 0 bm2
noncomputable def b77 (n m:Nat) (a0:List UInt8) (x5:Int) (x6_15:Int) (x6_21:List a44) (x7:Int):Option ((a00 × Int × Int × Unit) × Unit):=
 et9 n [.r,.r,.r,.r,.r,.r,.r,.l,.r,.l,.at m] [(0,.one (.str a0)),(2,.box [.int .i64 0,.int .i64 0,.int .i64 0,.str ([]:List UInt8),.int .i64 0,.int .i64 0,.str ([]:List UInt8),.int .i64 0,.int .i64 0,.str ([]:List UInt8),.int .i64 0,.str ([]:List UInt8),.int .i64 0,.int .i64 0,.int .i64 0,.int .i64 0,.int .i64 0,.int .i64 0,.int .i64 0,.str ([]:List UInt8),.str ([]:List UInt8),.sl 87 [] .app,.int .i64 0,.str ([]:List UInt8),.sl 89 [] .app]),(5,.one (.int .i64 x5)),(6,.box [.int .i64 5,.int .i64 0,.int .i64 0,.str ([]:List UInt8),.int .i64 0,.int .i64 0,.str ([]:List UInt8),.int .i64 0,.int .i64 0,.str ([]:List UInt8),.int .i64 0,.str ([]:List UInt8),.int .i64 0,.int .i64 0,.int .i64 0,.int .i64 x6_15,.int .i64 0,.int .i64 0,.int .i64 0,.str ([]:List UInt8),.str ([]:List UInt8),.sl 87 x6_21 .app,.int .i64 0,.str ([]:List UInt8),.sl 89 [] .app]),(7,.one (.int .i64 x7))]
def cd4:Sig τ:=⟨[(false,a02)],[a17,a13,a14]⟩
def df6:Adv:=⟨88,[[0,2],[0,2,5],[0,2,5,16],[0,2,5],[0,2,5,20],[2,3,4],[0,2,5,45],[2,3,4],[0,2,5,6,7,8],[0,2,5,6,7,8,56],[2,3,4],[0,2,6,63],[2,3,4],[2,3,4]],[],[]⟩
noncomputable def df7:List (Ent U):=[bF8,af4]
noncomputable def bG0:(List UInt8) × Unit→Option ((a00 × Int × Int × Unit) × Unit):=a05 (U:=U) Tryz.prog df7 df6 0 Tryz.f173 cd4
noncomputable def dz8:Ent U:=⟨173,cd4,bG0⟩
def cd5:Sig τ:=⟨[(false,a02)],[a17,a13,a14]⟩
def df8:Adv:=⟨26,[[0,2],[0,2,6],[0,2,6,7],[2,3,4],[0,2,14],[2,3,4],[2,3,4]],[],[]⟩
noncomputable def df9:List (Ent U):=[dz6,dz7,dz8]
noncomputable def bG1:(List UInt8) × Unit→Option ((a00 × Int × Int × Unit) × Unit):=a05 (U:=U) Tryz.prog df9 df8 0 Tryz.f97 cd5
noncomputable def dz9:Ent U:=⟨97,cd5,bG1⟩
def bz8:Sig τ:=⟨[(false,a02)],[a26,a13,a14]⟩
def cJ2:Adv:=⟨37,[[0],[0,8],[2,3,4],[0,12],[2,3,4],[0,16],[2,3,4],[5,6,7],[5,6,7,32],[2,3,4],[2,3,4]],[],[]⟩
noncomputable def cJ3:List (Ent U):=[dz9]
noncomputable def b78:(List UInt8) × Unit→Option (((List a00) × Int × Int × Unit) × Unit):=a05 (U:=U) Tryz.prog cJ3 cJ2 0 Tryz.f48 bz8
noncomputable def d32:Ent U:=⟨48,bz8,b78⟩
def bU7:Sig τ:=⟨[(false,a02)],[a02,a13,a14]⟩
def d33:Adv:=⟨43,[[0],[0,6],[2,3,4],[0,10],[2,3,4],[0,16],[2,3,4],[0,20],[2,3,4],[0,5],[0,5,36],[2,3,4],[2,3,4]],[],[]⟩
noncomputable def d34:List (Ent U):=[]
noncomputable def aU6:(List UInt8) × Unit→Option (((List UInt8) × Int × Int × Unit) × Unit):=a05 (U:=U) Tryz.prog d34 d33 0 Tryz.f98 bU7
noncomputable def cd6:Ent U:=⟨98,bU7,aU6⟩
def aZ4:Sig τ:=⟨[(false,a02),(false,a13)],[aW5,a13,a14]⟩
def bz9:Adv:=⟨77,[[0,1],[0,1,7],[0,1,7,8],[0,1,7,8,13],[0,1,7,8,17],[0,1,7,8],[0,1,7,8],[0,1,7,8,44],[4,5,6],[0,1,7,8,9],[0,1,7,8,9],[0,1,7,8],[4,5,6]],[18,53],[]⟩
noncomputable def bA0:List (Ent U):=[]
noncomputable def bU8 (n:Nat):(List UInt8) × Int × Unit→Option (((List a18) × Int × Int × Unit) × Unit):=a05 (U:=U) Tryz.prog bA0 bz9 n Tryz.f99 aZ4
noncomputable def aq1:(List UInt8) × Int × Unit→Option (((List a18) × Int × Int × Unit) × Unit):=bU8 a04
noncomputable def bU9:Ent U:=⟨99,aZ4,aq1⟩
noncomputable def e28:=lp (tab bA0) bz9 Tryz.f99 0 aZ4
noncomputable def ay2 (n m:Nat) (a0:List UInt8) (a1:Int) (x7:List a18) (x8:Int):Option (((List a18) × Int × Int × Unit) × Unit):=
 e28 n [.r,.r,.r,.l,.l,.at m] [(0,.one (.str a0)),(1,.one (.int .i64 a1)),(7,.one (.sl 122 x7 .app)),(8,.one (.int .i64 x8))]
def b99:Sig τ:=⟨[(false,a02)],[a02]⟩
def cd7:Adv:=⟨17,[[0],[0,3],[2]],[],[]⟩
noncomputable def cd8:List (Ent U):=[cd6]
noncomputable def aR2:(List UInt8) × Unit→Option (((List UInt8) × Unit) × Unit):=a05 (U:=U) Tryz.prog cd8 cd7 0 Tryz.f100 b99
noncomputable def cq4:Ent U:=⟨100,b99,aR2⟩
def bm3:Sig τ:=⟨[(false,a02)],[a67,a15,a14]⟩
def cd9:Adv:=⟨68,[[0],[5,7],[5,7,18],[2,3,4],[5,8],[5,8,9],[5,8,9,10],[5,8,9,10,23],[5,8,9,10],[5,8,9,10,39],[5,8,9,10],[5,8,9,10],[8,9,65],[2,3,4],[2,3,4]],[40],[]⟩
noncomputable def ce0:List (Ent U):=[bU9,bT6]
noncomputable def cz3 (n:Nat):(List UInt8) × Unit→Option (((List a08) × Bool × Int × Unit) × Unit):=a05 (U:=U) Tryz.prog ce0 cd9 n Tryz.f258 bm3
noncomputable def aa2:(List UInt8) × Unit→Option (((List a08) × Bool × Int × Unit) × Unit):=cz3 a04
noncomputable def b40:Ent U:=⟨258,bm3,aa2⟩
noncomputable def eu0:=lp (tab ce0) cd9 Tryz.f258 0 bm3
noncomputable def ab7 (n m:Nat) (r1:((List a18) × Int × Int × Unit) × Unit) (x8:List a08) (x9:Bool) (x10:Int):Option (((List a08) × Bool × Int × Unit) × Unit):=
 eu0 n [.r,.r,.r,.r,.r,.l,.r,.l,.at m] [(5,.one (.sl 122 r1.1.1 .ro)),(8,.one (.sl 89 x8 .app)),(9,.one (.bool x9)),(10,.one (.int .i64 x10))]
def bA1:Sig τ:=⟨[(false,a02),(false,a13)],[a15,a14]⟩
def cJ4:Adv:=⟨23,[[0,1],[0,1,12],[4,5],[7,8],[4,5]],[],[]⟩
noncomputable def cJ5:List (Ent U):=[b40]
noncomputable def aM3:(List UInt8) × Int × Unit→Option ((Bool × Int × Unit) × Unit):=a05 (U:=U) Tryz.prog cJ5 cJ4 0 Tryz.f253 bA1
noncomputable def bV0:Ent U:=⟨253,bA1,aM3⟩
def bV1:Sig τ:=⟨[(false,a13)],[a13]⟩
def d35:Adv:=⟨7,[[0],[2]],[],[]⟩
noncomputable def d36:List (Ent U):=[]
noncomputable def au3:Int × Unit→Option ((Int × Unit) × Unit):=a05 (U:=U) Tryz.prog d36 d35 0 Tryz.f256 bV1
noncomputable def ce1:Ent U:=⟨256,bV1,au3⟩
def bV2:Sig τ:=⟨[(false,a02)],[a02,a15]⟩
def d37:Adv:=⟨10,[[0],[0,6],[2,3],[2,3]],[],[]⟩
noncomputable def d38:List (Ent U):=[cb8]
noncomputable def au4:(List UInt8) × Unit→Option (((List UInt8) × Bool × Unit) × Unit):=a05 (U:=U) Tryz.prog d38 d37 0 Tryz.f257 bV2
noncomputable def bm4:Ent U:=⟨257,bV2,au4⟩
def ce2:Sig τ:=⟨[(false,aa8),(false,a02)],[aa8,a14]⟩
def dg0:Adv:=⟨58,[[1,2,4],[1,2,4,13],[4,5],[1,2,4,6],[1,2,4,6,23],[4,5],[1,2,4,6,7],[1,2,4,6,7,8,9],[1,2,4,6,7,9,39],[4,5],[2,4,6,10],[2,4,6,10,46],[2,4,6,10],[2,4],[4,5]],[],[]⟩
noncomputable def dg1:List (Ent U):=[ce1,bV0,bm4,aE7]
noncomputable def bG2:a03 × (List UInt8) × Unit→Option ((a03 × Int × Unit) × Unit):=a05 (U:=U) Tryz.prog dg1 dg0 0 Tryz.f254 ce2
noncomputable def dA0:Ent U:=⟨254,ce2,bG2⟩
def bA2:Sig τ:=⟨[(false,a13),(false,a13)],[a15]⟩
def cJ6:Adv:=⟨24,[[0,1],[1,5],[1,5,6],[4],[1,5,10],[4],[1,14],[4],[4]],[],[]⟩
noncomputable def cJ7:List (Ent U):=[]
noncomputable def ax2:Int × Int × Unit→Option ((Bool × Unit) × Unit):=a05 (U:=U) Tryz.prog cJ7 cJ6 0 Tryz.f259 bA2
noncomputable def bV3:Ent U:=⟨259,bA2,ax2⟩
def bA3:Sig τ:=⟨[(false,a13)],[a13]⟩
def cJ8:Adv:=⟨8,[[0],[0,4],[2],[2]],[],[]⟩
noncomputable def cJ9:List (Ent U):=[]
noncomputable def aq2:Int × Unit→Option ((Int × Unit) × Unit):=a05 (U:=U) Tryz.prog cJ9 cJ8 0 Tryz.f232 bA3
noncomputable def b79:Ent U:=⟨232,bA3,aq2⟩
def bV4:Sig τ:=⟨[(false,a13)],[a13]⟩
def d39:Adv:=⟨5,[[0],[4],[2],[2]],[],[]⟩
noncomputable def d40:List (Ent U):=[]
noncomputable def a82:Int × Unit→Option ((Int × Unit) × Unit):=a05 (U:=U) Tryz.prog d40 d39 0 Tryz.f179 bV4
noncomputable def aE8:Ent U:=⟨179,bV4,a82⟩
def bV5:Sig τ:=⟨[(false,ad9)],[bc3,a15,a14]⟩
def d41:Adv:=⟨91,[[1,2],[2,5],[2,5,15],[2,3,4],[2,5,6],[2,5,6,41],[2,3,4],[2,5,6,47],[2,3,4],[2,5,6,7],[2,5,6,7,60],[2,3,4],[2,5,6,7,66],[2,3,4],[2,5,6,7,8,9,10],[2,5,6,7,8,9,10,78],[2,3,4],[2,6,9],[2,6,88],[2,6],[2,3,4]],[],[]⟩
noncomputable def d42:List (Ent U):=[af4,bV3,b79,aE8,b40]
noncomputable def bm5:a18 × Unit→Option ((a64 × Bool × Int × Unit) × Unit):=a05 (U:=U) Tryz.prog d42 d41 0 Tryz.f271 bV5
noncomputable def dg2:Ent U:=⟨271,bV5,bm5⟩
def b80:Sig τ:=⟨[(false,a02),(false,a13)],[a02]⟩
def bV6:Adv:=⟨12,[[0,1],[0,1,8],[0,1],[4]],[],[]⟩
noncomputable def bV7:List (Ent U):=[]
noncomputable def ce3 (n:Nat):(List UInt8) × Int × Unit→Option (((List UInt8) × Unit) × Unit):=a05 (U:=U) Tryz.prog bV7 bV6 n Tryz.f273 b80
noncomputable def aU7:(List UInt8) × Int × Unit→Option (((List UInt8) × Unit) × Unit):=ce3 a04
noncomputable def dg3:Ent U:=⟨273,b80,aU7⟩
noncomputable def el0:=lp (tab bV7) bV6 Tryz.f273 0 b80
noncomputable def aZ5 (n m:Nat) (a1:Int) (x0:List UInt8):Option (((List UInt8) × Unit) × Unit):=
 el0 n [.r,.l,.l,.at m] [(0,.one (.str x0)),(1,.one (.int .i64 a1))]
def bA4:Sig τ:=⟨[(false,a13),(false,a02),(false,a13)],[a02]⟩
def cK0:Adv:=⟨33,[[0,1,2],[1,2,9],[1,2,9,10],[6],[1,2,9,16],[6],[1,2,22],[2,7],[6],[6]],[],[]⟩
noncomputable def cK1:List (Ent U):=[dg3,aU4,bm4]
noncomputable def aq3:Int × (List UInt8) × Int × Unit→Option (((List UInt8) × Unit) × Unit):=a05 (U:=U) Tryz.prog cK1 cK0 0 Tryz.f260 bA4
noncomputable def bV8:Ent U:=⟨260,bA4,aq3⟩
def bV9:Sig τ:=⟨[(false,aa8),(false,bc3),(false,a02)],[a17,a15]⟩
def d43:Adv:=⟨51,[[2,3,4,6],[3,4,6,8],[3,4,6,8,25],[6,7],[3,4,6,8,29],[6,7],[3,4,6,8,38],[6,7],[6,8],[6,7]],[],[]⟩
noncomputable def d44:List (Ent U):=[aE7]
noncomputable def a51:a03 × a64 × (List UInt8) × Unit→Option ((a00 × Bool × Unit) × Unit):=a05 (U:=U) Tryz.prog d44 d43 0 Tryz.f272 bV9
noncomputable def dg4:Ent U:=⟨272,bV9,a51⟩
def bm6:Sig τ:=⟨[(false,aa8),(false,ad9)],[aa8,a26,a14]⟩
def cq5:Adv:=⟨109,[[2,3,4],[2,4,7,8,9],[2,4,7,9,26],[4,5,6],[2,4,7,10],[2,4,7,10,31],[2,4,7,11],[2,4,7,11,38],[4,5,6],[2,4,7,10],[2,4,7,12],[2,4,7,12,64],[2,4,7,12],[2,4,7,12,79],[2,4,7,12],[2,4,7,12,84],[2,4,7,12],[2,4,7,12],[2,4,13,14],[2,4,13,104],[4,5,6],[4,5,6]],[],[]⟩
noncomputable def cq6:List (Ent U):=[dg2,aE8,bV8,dg4]
noncomputable def aZ6:a03 × a18 × Unit→Option ((a03 × (List a00) × Int × Unit) × Unit):=a05 (U:=U) Tryz.prog cq6 cq5 0 Tryz.f255 bm6
noncomputable def cK2:Ent U:=⟨255,bm6,aZ6⟩
def bW0:Sig τ:=⟨[(false,aa8),(false,ad9)],[aa8,a26,a14]⟩
def d45:Adv:=⟨49,[[2,3,4],[2,3,4,12],[2,3,4,12,13],[2,3,4,7,8],[2,3,4,8,25],[2,4,8],[4,5,6],[2,3,4,32],[4,9,10],[4,5,6],[4,5,6]],[],[]⟩
noncomputable def d46:List (Ent U):=[bV0,dA0,cK2]
noncomputable def aE9:a03 × a18 × Unit→Option ((a03 × (List a00) × Int × Unit) × Unit):=a05 (U:=U) Tryz.prog d46 d45 0 Tryz.f222 bW0
noncomputable def dg5:Ent U:=⟨222,bW0,aE9⟩
def ce4:Sig τ:=⟨[(false,ad9)],[a17,a15,a14]⟩
def dg6:Adv:=⟨108,[[1,2],[1,2,5],[1,2,5,6],[1,2,5,6,15],[1,2,5,6],[1,2,5,6,19],[2,3,4],[1,2,5,6,7],[2,5,6,7,23],[2,5,7],[2,5,7,36],[2,3,4],[2,5,6,7],[2,5,6,7,45],[2,3,4],[2,5,6,7],[2,5,6,7,53],[2,5,6,7],[2,5,6,7,23,61],[2,5,6,7],[2,5,6,7,23,70],[2,5,6,7],[2,5,6,7,76],[2,5,6,7],[2,7,8,9,10],[2,7,8,10,102],[2,3,4],[2,7],[2,3,4]],[],[]⟩
noncomputable def dg7:List (Ent U):=[af4,b40,ce1,bm4]
noncomputable def aA3:a18 × Unit→Option ((a00 × Bool × Int × Unit) × Unit):=a05 (U:=U) Tryz.prog dg7 dg6 0 Tryz.f223 ce4
noncomputable def dA1:Ent U:=⟨223,ce4,aA3⟩
def ce5:Sig τ:=⟨[(false,ad9)],[a17,a15,a14]⟩
def dg8:Adv:=⟨104,[[1,2],[1,2,5],[1,2,5,6],[1,2,5,6,18],[1,2,5,6],[1,2,5,6,22],[2,3,4],[1,2,5,6,7,8],[1,2,5,6,7,8,31],[2,3,4],[1,2,5,6,7,8,35],[2,3,4],[1,2,5,6,7,8,9],[1,2,5,6,7,8,9,47],[2,3,4],[1,2,5,6,7,8,9,10,11,12],[1,2,5,6,7,8,9,10,12,64],[2,3,4],[1,2,5,7,13],[2,5,7,13,82],[2,7,13],[2,13,101],[2,3,4],[2,3,4]],[],[]⟩
noncomputable def dg9:List (Ent U):=[bV3,b79,aE8,b40,bV8,af4]
noncomputable def b41:a18 × Unit→Option ((a00 × Bool × Int × Unit) × Unit):=a05 (U:=U) Tryz.prog dg9 dg8 0 Tryz.f224 ce5
noncomputable def dA2:Ent U:=⟨224,ce5,b41⟩
def ce6:Sig τ:=⟨[(false,aa8),(false,ad9)],[aa8,a26,a14]⟩
def dh0:Adv:=⟨62,[[2,3,4],[2,3,4,7],[2,3,4,7],[2,3,4,7,9],[2,3,4,7,9,11],[2,4,7,8,9],[2,3,4,7,9,11,17],[2,3,4,7,9,11,17],[4,5,6],[2,3,4,7,9,11,21],[2,3,4,7,9,11,21],[2,3,4,7,9,11,21],[4,5,6],[2,3,4,7,9,11,31],[2,3,4,7,9,11,31],[2,3,4,7,9,11,31],[2,3,4,7,9,11,31],[2,4,7,8,9],[2,3,4,7,9,11,42],[2,3,4,7,9,42],[2,4,7,8,9],[2,4,7,9,56],[4,5,6],[4,5,6]],[],[999999]⟩
noncomputable def dh1:List (Ent U):=[dg5,dA1,dA2]
noncomputable def bG3:a03 × a18 × Unit→Option ((a03 × (List a00) × Int × Unit) × Unit):=a05 (U:=U) Tryz.prog dh1 dh0 0 Tryz.f174 ce6
noncomputable def dA3:Ent U:=⟨174,ce6,bG3⟩
def b81:Sig τ:=⟨[(false,aW5)],[a26,aa8,a13,a14]⟩
def bW1:Adv:=⟨43,[[0,3],[0,3,6],[0,3,6,7],[0,3,6,7,8],[0,3,6,7,8,15],[0,3,6,7,8],[0,3,6,7,8,9,10,11],[0,3,6,7,8,9,10,11,29],[2,3,4,5],[0,3,6,7,8,10],[0,3,6,7,8],[2,3,4,5]],[38],[]⟩
noncomputable def bW2:List (Ent U):=[dA3]
noncomputable def ce7 (n:Nat):(List a18) × Unit→Option (((List a00) × a03 × Int × Int × Unit) × Unit):=a05 (U:=U) Tryz.prog bW2 bW1 n Tryz.f101 b81
noncomputable def bm7:(List a18) × Unit→Option (((List a00) × a03 × Int × Int × Unit) × Unit):=ce7 a04
noncomputable def dh2:Ent U:=⟨101,b81,bm7⟩
noncomputable def el1:=lp (tab bW2) bW1 Tryz.f101 0 b81
noncomputable def aZ7 (n m:Nat) (a0:List a18) (x6:List a00) (x7_0:List UInt8) (x7_1:List UInt8) (x7_2:List UInt8) (x7_3:List UInt8) (x7_4:List UInt8) (x7_5:List UInt8) (x7_6:List UInt8) (x8:Int):Option (((List a00) × a03 × Int × Int × Unit) × Unit):=
 el1 n [.r,.r,.r,.l,.r,.l,.at m] [(0,.one (.sl 122 a0 .ro)),(3,.box [.str ([]:List UInt8),.str ([]:List UInt8),.str ([]:List UInt8),.str ([]:List UInt8),.str ([]:List UInt8),.str ([]:List UInt8),.str ([]:List UInt8)]),(6,.one (.sl 29 x6 .app)),(7,.box [.str x7_0,.str x7_1,.str x7_2,.str x7_3,.str x7_4,.str x7_5,.str x7_6]),(8,.one (.int .i64 x8))]
def bA5:Sig τ:=⟨[(false,a02)],[a26,a13,a14]⟩
def cK3:Adv:=⟨55,[[0],[0,5,6,7],[0,5,6,7,18],[2,3,4],[0,5,6,7,8],[0,5,6,7,8,28],[2,3,4],[6,7,8],[6,7,8,42],[2,3,4],[6,7,9],[2,3,4]],[],[]⟩
noncomputable def cK4:List (Ent U):=[cd6,bU9,cq4,dh2]
noncomputable def b82:(List UInt8) × Unit→Option (((List a00) × Int × Int × Unit) × Unit):=a05 (U:=U) Tryz.prog cK4 cK3 0 Tryz.f49 bA5
noncomputable def d47:Ent U:=⟨49,bA5,b82⟩
def bA6:Sig τ:=⟨[(false,a13),(false,a02)],[a26,a13,a14]⟩
def cK5:Adv:=⟨36,[[0,1],[1,7],[1,7,8],[4,5,6],[1,7,15],[4,5,6],[1,7,22],[4,5,6],[1,29],[4,5,6],[4,5,6]],[],[]⟩
noncomputable def cK6:List (Ent U):=[d30,d31,d32,d47]
noncomputable def b83:Int × (List UInt8) × Unit→Option (((List a00) × Int × Int × Unit) × Unit):=a05 (U:=U) Tryz.prog cK6 cK5 0 Tryz.f20 bA6
noncomputable def d48:Ent U:=⟨20,bA6,b83⟩
def bm8:Sig τ:=⟨[(false,a13),(false,a13)],[a02,a15]⟩
def ce8:Adv:=⟨27,[[0,1],[0,1,11],[4,5],[0,1,6],[0,1,6,7],[0,1,6,7,14],[0,1,6,7],[0,1,6,7],[0,1,6,7],[4,5]],[],[]⟩
noncomputable def ce9:List (Ent U):=[ao0]
noncomputable def cz4 (n:Nat):Int × Int × Unit→Option (((List UInt8) × Bool × Unit) × Unit):=a05 (U:=U) Tryz.prog ce9 ce8 n Tryz.f127 bm8
noncomputable def ah0:Int × Int × Unit→Option (((List UInt8) × Bool × Unit) × Unit):=cz4 a04
noncomputable def bG4:Ent U:=⟨127,bm8,ah0⟩
noncomputable def eu1:=lp (tab ce9) ce8 Tryz.f127 0 bm8
noncomputable def b84 (n m:Nat) (a1:Int) (x0:Int) (x6:List UInt8) (x7:Int):Option (((List UInt8) × Bool × Unit) × Unit):=
 eu1 n [.r,.r,.r,.l,.r,.l,.at m] [(0,.one (.int .i64 x0)),(1,.one (.int .i64 a1)),(6,.one (.str x6)),(7,.one (.int .i64 x7))]
def cz5:Sig τ:=⟨[(false,a13),(false,a13)],[a02]⟩
def dA4:Adv:=⟨14,[[0,1],[5],[4]],[],[]⟩
noncomputable def dA5:List (Ent U):=[bG4]
noncomputable def a39:Int × Int × Unit→Option (((List UInt8) × Unit) × Unit):=a05 (U:=U) Tryz.prog dA5 dA4 0 Tryz.f64 cz5
noncomputable def an1:Ent U:=⟨64,cz5,a39⟩
def cf0:Sig τ:=⟨[(false,a02)],[a02,a15]⟩
def dh3:Adv:=⟨9,[[0],[0,6],[2,3],[2,3]],[],[]⟩
noncomputable def dh4:List (Ent U):=[]
noncomputable def cz6:(List UInt8) × Unit→Option (((List UInt8) × Bool × Unit) × Unit):=a05 (U:=U) Tryz.prog dh4 dh3 0 Tryz.f102 cf0
noncomputable def dA6:Ent U:=⟨102,cf0,cz6⟩
def cf1:Sig τ:=⟨[(false,ad6)],[a02,a15]⟩
def dh5:Adv:=⟨70,[[1],[1,4,5],[1,4,5,6,7],[1,4,5,6,7,8,9],[1,4,6,8,55],[2,3],[2,3]],[],[]⟩
noncomputable def dh6:List (Ent U):=[bG4]
noncomputable def aN5:a23 × Unit→Option (((List UInt8) × Bool × Unit) × Unit):=a05 (U:=U) Tryz.prog dh6 dh5 0 Tryz.f176 cf1
noncomputable def dA7:Ent U:=⟨176,cf1,aN5⟩
def bW3:Sig τ:=⟨[(false,a17)],[a02]⟩
def d49:Adv:=⟨38,[[1],[1,3],[1,3,14],[1,3],[4],[2]],[],[]⟩
noncomputable def d50:List (Ent U):=[aY5,cT0,dA7]
noncomputable def aU8:a00 × Unit→Option (((List UInt8) × Unit) × Unit):=a05 (U:=U) Tryz.prog d50 d49 0 Tryz.f103 bW3
noncomputable def dh7:Ent U:=⟨103,bW3,aU8⟩
def aR3:Sig τ:=⟨[(false,a26)],[a02,a13,a14]⟩
def bm9:Adv:=⟨115,[[0],[0,5],[0,5,15],[0,5],[0,5,23],[2,3,4],[0,27],[2,3,4],[0,6],[0,6,7],[0,6,7,8],[0,6,7,8,41],[0,6,7,8],[0,6,7,8,9],[0,6,7,8],[0,6,7,8,11],[0,6,7,8,11,54],[0,6,7,8,11],[0,6,7,8,11,59],[2,3,4],[0,6,7,8,11,105],[2,3,4],[0,6,7,8,11],[2,3,4]],[],[]⟩
noncomputable def bn0:List (Ent U):=[b67,an1,dA6,dh7]
noncomputable def bA7 (n:Nat):(List a00) × Unit→Option (((List UInt8) × Int × Int × Unit) × Unit):=a05 (U:=U) Tryz.prog bn0 bm9 n Tryz.f50 aR3
noncomputable def bA8:(List a00) × Unit→Option (((List UInt8) × Int × Int × Unit) × Unit):=bA7 a04
noncomputable def cK7:Ent U:=⟨50,aR3,bA8⟩
noncomputable def cq7:=lp (tab bn0) bm9 Tryz.f50 0 aR3
noncomputable def aI5 (n m:Nat) (a0:List a00) (x5:Int):Option (((List UInt8) × Int × Int × Unit) × Unit):=
 cq7 n [.r,.l,.r,.l,.at m] [(0,.one (.sl 29 a0 .ro)),(5,.one (.int .i64 x5))]
noncomputable def am0 (n m:Nat) (a0:List a00) (y3:a00) (x7:Int) (x8:List UInt8) (x11:Int):Option (((List UInt8) × Int × Int × Unit) × Unit):=
 cq7 n [.r,.r,.r,.r,.r,.r,.r,.l,.r,.l,.at m] [(0,.one (.sl 29 a0 .ro)),(6,.box [.int .i64 y3.kind,.int .i64 y3.cmd,.int .i64 y3.ver,.str y3.auth,.int .i64 y3.family,.int .i64 y3.ae,.str y3.prefix_,.int .i64 y3.plen,.int .i64 y3.tag,.str y3.next,.int .i64 y3.metric,.str y3.id,.int .i64 y3.seq,.int .i64 y3.seq2,.int .i64 y3.interval,.int .i64 y3.flags,.int .i64 y3.hops,.int .i64 y3.nonce,.int .i64 y3.cost,.str y3.addr,.str y3.orig,.sl 87 y3.list .ro,.int .i64 y3.type_,.str y3.data,.sl 89 y3.subs .ro]),(7,.one (.int .i64 x7)),(8,.one (.str x8)),(11,.one (.int .i64 x11))]
def cf2:Sig τ:=⟨[(false,ad6)],[a02,a15]⟩
def dh8:Adv:=⟨62,[[1],[1,4,5],[1,4,5,6,7],[1,4,5,6,7,8,9],[1,4,6,8,53],[2,3],[2,3]],[],[]⟩
noncomputable def dh9:List (Ent U):=[bG4]
noncomputable def aN6:a23 × Unit→Option (((List UInt8) × Bool × Unit) × Unit):=a05 (U:=U) Tryz.prog dh9 dh8 0 Tryz.f104 cf2
noncomputable def dA8:Ent U:=⟨104,cf2,aN6⟩
def aR4:Sig τ:=⟨[(false,a26)],[a02,a13,a14]⟩
def bn1:Adv:=⟨107,[[0],[0,5],[0,5,16],[0,5],[0,5,24],[2,3,4],[0,28],[2,3,4],[0,6],[0,6,7],[0,6,7,8],[0,6,7,8,39],[0,6,7,8],[0,6,7,8,51],[2,3,4],[0,6,7,8,59],[0,6,7,8],[0,6,7,8,9],[0,6,7,8],[0,6,7,8,11],[0,6,7,8],[0,6,7,8,104],[2,3,4],[2,3,4]],[],[]⟩
noncomputable def bn2:List (Ent U):=[bS5,an1,bk9,dA8]
noncomputable def bA9 (n:Nat):(List a00) × Unit→Option (((List UInt8) × Int × Int × Unit) × Unit):=a05 (U:=U) Tryz.prog bn2 bn1 n Tryz.f51 aR4
noncomputable def bB0:(List a00) × Unit→Option (((List UInt8) × Int × Int × Unit) × Unit):=bA9 a04
noncomputable def cK8:Ent U:=⟨51,aR4,bB0⟩
noncomputable def cq8:=lp (tab bn2) bn1 Tryz.f51 0 aR4
noncomputable def aI6 (n m:Nat) (a0:List a00) (x5:Int):Option (((List UInt8) × Int × Int × Unit) × Unit):=
 cq8 n [.r,.l,.r,.l,.at m] [(0,.one (.sl 29 a0 .ro)),(5,.one (.int .i64 x5))]
noncomputable def am1 (n m:Nat) (a0:List a00) (x6:List UInt8) (x7:List UInt8) (x8:Int):Option (((List UInt8) × Int × Int × Unit) × Unit):=
 cq8 n [.r,.r,.r,.r,.r,.l,.r,.l,.at m] [(0,.one (.sl 29 a0 .ro)),(6,.one (.str x6)),(7,.one (.str x7)),(8,.one (.int .i64 x8))]
def bn3:Sig τ:=⟨[(false,a67)],[a02,a15]⟩
def cf3:Adv:=⟨39,[[0],[0,8],[2,3],[0,4],[0,4,5],[0,4,5,12],[0,4,5],[0,4,5],[2,3]],[],[]⟩
noncomputable def cf4:List (Ent U):=[aL5]
noncomputable def cz7 (n:Nat):(List a08) × Unit→Option (((List UInt8) × Bool × Unit) × Unit):=a05 (U:=U) Tryz.prog cf4 cf3 n Tryz.f177 bn3
noncomputable def b42:(List a08) × Unit→Option (((List UInt8) × Bool × Unit) × Unit):=cz7 a04
noncomputable def bG5:Ent U:=⟨177,bn3,b42⟩
noncomputable def eu2:=lp (tab cf4) cf3 Tryz.f177 0 bn3
noncomputable def b85 (n m:Nat) (a0:List a08) (x4:List UInt8) (x5:Int):Option (((List UInt8) × Bool × Unit) × Unit):=
 eu2 n [.r,.r,.r,.l,.r,.l,.at m] [(0,.one (.sl 89 a0 .ro)),(4,.one (.str x4)),(5,.one (.int .i64 x5))]
def cf5:Sig τ:=⟨[(false,a17)],[a02,a15]⟩
def di0:Adv:=⟨45,[[1],[1,8],[2,3],[1,4],[2,3]],[],[]⟩
noncomputable def di1:List (Ent U):=[bT0,bG5,an1]
noncomputable def bG6:a00 × Unit→Option (((List UInt8) × Bool × Unit) × Unit):=a05 (U:=U) Tryz.prog di1 di0 0 Tryz.f105 cf5
noncomputable def dA9:Ent U:=⟨105,cf5,bG6⟩
def cf6:Sig τ:=⟨[(false,a17)],[a02,a15]⟩
def di2:Adv:=⟨49,[[1],[1,8],[2,3],[1,4],[1,4,17],[2,3],[2,3]],[],[]⟩
noncomputable def di3:List (Ent U):=[bT1,bG5,an1]
noncomputable def bG7:a00 × Unit→Option (((List UInt8) × Bool × Unit) × Unit):=a05 (U:=U) Tryz.prog di3 di2 0 Tryz.f106 cf6
noncomputable def dB0:Ent U:=⟨106,cf6,bG7⟩
def bn4:Sig τ:=⟨[(false,a17)],[a02,a15]⟩
def cf7:Adv:=⟨54,[[1],[1,10],[2,3],[1,4],[1,4,5],[1,4,5,26],[1,4,5],[1,4,5],[4,6],[2,3]],[],[]⟩
noncomputable def cf8:List (Ent U):=[bT3,an1,bG5]
noncomputable def cz8 (n:Nat):a00 × Unit→Option (((List UInt8) × Bool × Unit) × Unit):=a05 (U:=U) Tryz.prog cf8 cf7 n Tryz.f107 bn4
noncomputable def bG8:a00 × Unit→Option (((List UInt8) × Bool × Unit) × Unit):=cz8 a04
noncomputable def dB1:Ent U:=⟨107,bn4,bG8⟩
noncomputable def eu3:=lp (tab cf8) cf7 Tryz.f107 0 bn4
noncomputable def b86 (n m:Nat) (a0:a00) (x4:List UInt8) (x5:Int):Option (((List UInt8) × Bool × Unit) × Unit):=
 eu3 n [.r,.r,.r,.l,.r,.l,.at m] [(1,.box [.int .i64 a0.kind,.int .i64 a0.cmd,.int .i64 a0.ver,.str a0.auth,.int .i64 a0.family,.int .i64 a0.ae,.str a0.prefix_,.int .i64 a0.plen,.int .i64 a0.tag,.str a0.next,.int .i64 a0.metric,.str a0.id,.int .i64 a0.seq,.int .i64 a0.seq2,.int .i64 a0.interval,.int .i64 a0.flags,.int .i64 a0.hops,.int .i64 a0.nonce,.int .i64 a0.cost,.str a0.addr,.str a0.orig,.sl 87 a0.list .ro,.int .i64 a0.type_,.str a0.data,.sl 89 a0.subs .ro]),(4,.one (.str x4)),(5,.one (.int .i64 x5))]
def aR5:Sig τ:=⟨[(false,a26)],[a02,a13,a14]⟩
def bn5:Adv:=⟨56,[[0],[0,5],[0,5,11],[0,5],[0,5,19],[2,3,4],[0,23],[2,3,4],[0,26],[2,3,4],[0,6,7],[0,6,7,35],[0,6,7],[0,6,44],[6],[6,54],[2,3,4],[2,3,4]],[],[]⟩
noncomputable def bn6:List (Ent U):=[bT4,dA9,dB0,dB1]
noncomputable def bB1 (n:Nat):(List a00) × Unit→Option (((List UInt8) × Int × Int × Unit) × Unit):=a05 (U:=U) Tryz.prog bn6 bn5 n Tryz.f52 aR5
noncomputable def bB2:(List a00) × Unit→Option (((List UInt8) × Int × Int × Unit) × Unit):=bB1 a04
noncomputable def cK9:Ent U:=⟨52,aR5,bB2⟩
noncomputable def dR8:=lp (tab bn6) bn5 Tryz.f52 0 aR5
noncomputable def aI7 (n m:Nat) (a0:List a00) (x5:Int):Option (((List UInt8) × Int × Int × Unit) × Unit):=
 dR8 n [.r,.l,.r,.l,.at m] [(0,.one (.sl 29 a0 .ro)),(5,.one (.int .i64 x5))]
def bB3:Sig τ:=⟨[(false,a02)],[a02,a15]⟩
def cL0:Adv:=⟨9,[[0],[0,6],[2,3],[2,3]],[],[]⟩
noncomputable def cL1:List (Ent U):=[au2]
noncomputable def b87:(List UInt8) × Unit→Option (((List UInt8) × Bool × Unit) × Unit):=a05 (U:=U) Tryz.prog cL1 cL0 0 Tryz.f231 bB3
noncomputable def d51:Ent U:=⟨231,bB3,b87⟩
def bn7:Sig τ:=⟨[(false,a17)],[a13,a02]⟩
def cq9:Adv:=⟨59,[[1],[1,4],[1,4,10],[1,4,10,11],[2,3],[1,4,10,19],[2,3],[1,4,24],[2,3],[1,4,5],[1,4,5,40],[1,4,5],[2,3]],[],[]⟩
noncomputable def cr0:List (Ent U):=[an1,d51]
noncomputable def aZ8:a00 × Unit→Option ((Int × (List UInt8) × Unit) × Unit):=a05 (U:=U) Tryz.prog cr0 cq9 0 Tryz.f195 bn7
noncomputable def cL2:Ent U:=⟨195,bn7,aZ8⟩
def cf9:Sig τ:=⟨[(false,a13),(false,a02)],[a02,a15]⟩
def di4:Adv:=⟨26,[[0,1],[0,1,16],[4,5],[4,5]],[],[]⟩
noncomputable def di5:List (Ent U):=[]
noncomputable def aa3:Int × (List UInt8) × Unit→Option (((List UInt8) × Bool × Unit) × Unit):=a05 (U:=U) Tryz.prog di5 di4 0 Tryz.f124 cf9
noncomputable def as9:Ent U:=⟨124,cf9,aa3⟩
def bn8:Sig τ:=⟨[(false,a67)],[a02,a15]⟩
def cg0:Adv:=⟨35,[[0],[0,10],[2,3],[0,4],[0,4,5],[0,4,5,14],[0,4,5],[0,4,5,6],[0,4,5],[2,3]],[],[]⟩
noncomputable def cg1:List (Ent U):=[aM0,as9]
noncomputable def cz9 (n:Nat):(List a08) × Unit→Option (((List UInt8) × Bool × Unit) × Unit):=a05 (U:=U) Tryz.prog cg1 cg0 n Tryz.f125 bn8
noncomputable def aN7:(List a08) × Unit→Option (((List UInt8) × Bool × Unit) × Unit):=cz9 a04
noncomputable def bG9:Ent U:=⟨125,bn8,aN7⟩
noncomputable def eu4:=lp (tab cg1) cg0 Tryz.f125 0 bn8
noncomputable def b88 (n m:Nat) (a0:List a08) (x4:List UInt8) (x5:Int):Option (((List UInt8) × Bool × Unit) × Unit):=
 eu4 n [.r,.r,.r,.l,.r,.l,.at m] [(0,.one (.sl 89 a0 .ro)),(4,.one (.str x4)),(5,.one (.int .i64 x5))]
def cg2:Sig τ:=⟨[(false,a17)],[a02,a15]⟩
def di6:Adv:=⟨29,[[1],[1,10],[2,3],[1,4,5],[4,5,6],[2,3]],[],[]⟩
noncomputable def di7:List (Ent U):=[bT8,cL2,bG9,as9]
noncomputable def bH0:a00 × Unit→Option (((List UInt8) × Bool × Unit) × Unit):=a05 (U:=U) Tryz.prog di7 di6 0 Tryz.f122 cg2
noncomputable def dB2:Ent U:=⟨122,cg2,bH0⟩
def cg3:Sig τ:=⟨[(false,a02),(false,a13)],[a02]⟩
def di8:Adv:=⟨14,[[0,1],[4]],[],[]⟩
noncomputable def di9:List (Ent U):=[aU4,b79]
noncomputable def bH1:(List UInt8) × Int × Unit→Option (((List UInt8) × Unit) × Unit):=a05 (U:=U) Tryz.prog di9 di8 0 Tryz.f196 cg3
noncomputable def dB3:Ent U:=⟨196,cg3,bH1⟩
def bB4:Sig τ:=⟨[(false,a17)],[a02]⟩
def cL3:Adv:=⟨12,[[1],[2]],[],[]⟩
noncomputable def cL4:List (Ent U):=[dB3,aE8]
noncomputable def a74:a00 × Unit→Option (((List UInt8) × Unit) × Unit):=a05 (U:=U) Tryz.prog cL4 cL3 0 Tryz.f126 bB4
noncomputable def b89:Ent U:=⟨126,bB4,a74⟩
def cg4:Sig τ:=⟨[(false,a17)],[a02,a15]⟩
def dj0:Adv:=⟨58,[[1],[1,9],[2,3],[1,4],[1,4,6],[1,4,6,26],[2,3],[2,3]],[],[]⟩
noncomputable def dj1:List (Ent U):=[bT9,bG9,b89,as9,an1]
noncomputable def bH2:a00 × Unit→Option (((List UInt8) × Bool × Unit) × Unit):=a05 (U:=U) Tryz.prog dj1 dj0 0 Tryz.f123 cg4
noncomputable def dB4:Ent U:=⟨123,cg4,bH2⟩
def bB5:Sig τ:=⟨[(false,a17)],[a02]⟩
def cL5:Adv:=⟨28,[[1],[1,3,4],[1,3,4,11],[1,3,4],[1,3,18],[3],[2]],[],[]⟩
noncomputable def cL6:List (Ent U):=[dB2,dB4,as9]
noncomputable def b90:a00 × Unit→Option (((List UInt8) × Unit) × Unit):=a05 (U:=U) Tryz.prog cL6 cL5 0 Tryz.f60 bB5
noncomputable def d52:Ent U:=⟨60,bB5,b90⟩
def cA0:Sig τ:=⟨[(false,a02)],[a02]⟩
def dB5:Adv:=⟨12,[[0],[3],[2]],[],[]⟩
noncomputable def dB6:List (Ent U):=[as9]
noncomputable def bn9:(List UInt8) × Unit→Option (((List UInt8) × Unit) × Unit):=a05 (U:=U) Tryz.prog dB6 dB5 0 Tryz.f61 cA0
noncomputable def dR9:Ent U:=⟨61,cA0,bn9⟩
def cg5:Sig τ:=⟨[(false,a02)],[a02]⟩
def dj2:Adv:=⟨24,[[0],[0,3],[0,3,10],[0,3],[0,3,14],[3],[4],[2]],[],[]⟩
noncomputable def dj3:List (Ent U):=[au2,as9]
noncomputable def aA4:(List UInt8) × Unit→Option (((List UInt8) × Unit) × Unit):=a05 (U:=U) Tryz.prog dj3 dj2 0 Tryz.f62 cg5
noncomputable def dB7:Ent U:=⟨62,cg5,aA4⟩
def b91:Sig τ:=⟨[(false,a02),(false,a02)],[a13]⟩
def bW4:Adv:=⟨28,[[0,1],[0,1,5],[0,1,5,24],[0,1,5],[4]],[],[]⟩
noncomputable def bW5:List (Ent U):=[]
noncomputable def cg6 (n:Nat):(List UInt8) × (List UInt8) × Unit→Option ((Int × Unit) × Unit):=a05 (U:=U) Tryz.prog bW5 bW4 n Tryz.f178 b91
noncomputable def ac7:(List UInt8) × (List UInt8) × Unit→Option ((Int × Unit) × Unit):=cg6 a04
noncomputable def dj4:Ent U:=⟨178,b91,ac7⟩
noncomputable def el2:=lp (tab bW5) bW4 Tryz.f178 0 b91
noncomputable def aZ9 (n m:Nat) (a0:List UInt8) (a1:List UInt8) (x5:Int):Option ((Int × Unit) × Unit):=
 el2 n [.r,.r,.l,.l,.at m] [(0,.one (.str a0)),(1,.one (.str a1)),(5,.one (.int .i64 x5))]
def bo0:Sig τ:=⟨[(false,a17),(false,a13)],[a02]⟩
def cr1:Adv:=⟨57,[[1,2],[1,2,5],[1,2,5,13],[1,2,5],[1,2,5,6],[1,2,6,8],[9],[4]],[],[]⟩
noncomputable def cr2:List (Ent U):=[bG9,an1,b89,as9]
noncomputable def a07:a00 × Int × Unit→Option (((List UInt8) × Unit) × Unit):=a05 (U:=U) Tryz.prog cr2 cr1 0 Tryz.f63 bo0
noncomputable def cL7:Ent U:=⟨63,bo0,a07⟩
def cg7:Sig τ:=⟨[(false,aa8),(false,a17)],[a02,aa8,a14]⟩
def dj5:Adv:=⟨105,[[2,3,5],[2,3,5,13],[4,5,6],[2,3,5,17],[4,5,6],[2,3,5,7],[2,3,5,7,8],[2,3,5,7,8,24],[2,3,5,7,8,9],[2,3,5,7,8,9,37],[4,5,6],[2,3,5,8,9,43],[2,3,5,8,9],[2,3,5,8,9],[2,3,5,8,9,56],[2,3,5,8,9],[2,3,5,8],[2,3,5,8,10],[2,3,5,8,10,77],[2,3,5,8,10],[2,3,5,8,10,92],[2,3,5,8,10],[4,5,6]],[],[]⟩
noncomputable def dj6:List (Ent U):=[b72,d52,aE7,dR9,dB7,aE8,b89,dj4,cL7]
noncomputable def bH3:a03 × a00 × Unit→Option (((List UInt8) × a03 × Int × Unit) × Unit):=a05 (U:=U) Tryz.prog dj6 dj5 0 Tryz.f108 cg7
noncomputable def dB8:Ent U:=⟨108,cg7,bH3⟩
def bW6:Sig τ:=⟨[(false,a02)],[a02,a15]⟩
def d53:Adv:=⟨13,[[0],[0,6],[2,3],[2,3]],[],[]⟩
noncomputable def d54:List (Ent U):=[an1]
noncomputable def bo1:(List UInt8) × Unit→Option (((List UInt8) × Bool × Unit) × Unit):=a05 (U:=U) Tryz.prog d54 d53 0 Tryz.f37 bW6
noncomputable def dj7:Ent U:=⟨37,bW6,bo1⟩
def aR6:Sig τ:=⟨[(false,a26)],[a02,a13,a14]⟩
def bo2:Adv:=⟨61,[[0],[0,5],[0,5,17],[0,5],[0,5,25],[2,3,4],[0,6],[0,6,7],[0,6,7,8],[0,6,7,8,30],[0,6,7,8],[0,6,7,8,9,10,11],[0,6,7,8,9,10,11,44],[2,3,4],[0,6,7,8,9],[0,6,7,8],[0,6,7,8,53],[2,3,4],[12],[2,3,4]],[],[]⟩
noncomputable def bo3:List (Ent U):=[b72,dB8,dj7]
noncomputable def bB6 (n:Nat):(List a00) × Unit→Option (((List UInt8) × Int × Int × Unit) × Unit):=a05 (U:=U) Tryz.prog bo3 bo2 n Tryz.f53 aR6
noncomputable def bB7:(List a00) × Unit→Option (((List UInt8) × Int × Int × Unit) × Unit):=bB6 a04
noncomputable def cL8:Ent U:=⟨53,aR6,bB7⟩
noncomputable def cr3:=lp (tab bo3) bo2 Tryz.f53 0 aR6
noncomputable def aI8 (n m:Nat) (a0:List a00) (x5:Int):Option (((List UInt8) × Int × Int × Unit) × Unit):=
 cr3 n [.r,.l,.r,.l,.at m] [(0,.one (.sl 29 a0 .ro)),(5,.one (.int .i64 x5))]
noncomputable def aI9 (n m:Nat) (a0:List a00) (x6:List UInt8) (x7_0:List UInt8) (x7_1:List UInt8) (x7_2:List UInt8) (x7_3:List UInt8) (x7_4:List UInt8) (x7_5:List UInt8) (x7_6:List UInt8) (x8:Int):Option (((List UInt8) × Int × Int × Unit) × Unit):=
 cr3 n [.r,.r,.r,.r,.l,.r,.l,.at m] [(0,.one (.sl 29 a0 .ro)),(6,.one (.str x6)),(7,.box [.str x7_0,.str x7_1,.str x7_2,.str x7_3,.str x7_4,.str x7_5,.str x7_6]),(8,.one (.int .i64 x8))]
def bo4:Sig τ:=⟨[(false,a13),(false,a26)],[a02,a13,a14]⟩
def cr4:Adv:=⟨36,[[0,1],[1,7],[1,7,8],[4,5,6],[1,7,15],[4,5,6],[1,7,22],[4,5,6],[1,29],[4,5,6],[4,5,6]],[],[]⟩
noncomputable def cr5:List (Ent U):=[cK7,cK8,cK9,cL8]
noncomputable def b00:Int × (List a00) × Unit→Option (((List UInt8) × Int × Int × Unit) × Unit):=a05 (U:=U) Tryz.prog cr5 cr4 0 Tryz.f22 bo4
noncomputable def cL9:Ent U:=⟨22,bo4,b00⟩
def aJ0:Sig τ:=⟨[(false,a26),(false,a26)],[a15]⟩
def ba0:Adv:=⟨27,[[0,1],[0,1,10],[4],[0,1,5],[0,1,5,14],[0,1,5],[0,1,5,26],[4],[4]],[],[]⟩
noncomputable def ba1:List (Ent U):=[cb5]
noncomputable def bo5 (n:Nat):(List a00) × (List a00) × Unit→Option ((Bool × Unit) × Unit):=a05 (U:=U) Tryz.prog ba1 ba0 n Tryz.f23 aJ0
noncomputable def aR7:(List a00) × (List a00) × Unit→Option ((Bool × Unit) × Unit):=bo5 a04
noncomputable def cr6:Ent U:=⟨23,aJ0,aR7⟩
noncomputable def dE6:=lp (tab ba1) ba0 Tryz.f23 0 aJ0
noncomputable def aB4 (n m:Nat) (a0:List a00) (a1:List a00) (x5:Int):Option ((Bool × Unit) × Unit):=
 dE6 n [.r,.r,.l,.r,.l,.at m] [(0,.one (.sl 29 a0 .ro)),(1,.one (.sl 29 a1 .ro)),(5,.one (.int .i64 x5))]
def ag3:Sig τ:=⟨[(false,a13),(false,a26),(false,a02)],[a15]⟩
def aP2:Adv:=⟨107,[[0,1,2],[0,1,2,27],[6],[0,1,2,7],[0,1,2,7,32],[0,1,2,7],[0,1,2,7,47],[6],[0,1,2,8,9,10],[0,1,8,9,10,11,12,13],[0,1,8,9,10,11,12,13,14,15,16],[8,9,10,11,12,13,14,15,16,17,18,19],[6]],[],[]⟩
noncomputable def aP3:List (Ent U):=[cD2,d09,bR2,d26,bO7,d48,bw6,cL9,cr6]
noncomputable def aU9 (n:Nat):Int × (List a00) × (List UInt8) × Unit→Option ((Bool × Unit) × Unit):=a05 (U:=U) Tryz.prog aP3 aP2 n Tryz.f3 ag3
noncomputable def aV0:Int × (List a00) × (List UInt8) × Unit→Option ((Bool × Unit) × Unit):=aU9 a04
noncomputable def dj8:Ent U:=⟨3,ag3,aV0⟩
noncomputable def d63:=lp (tab aP3) aP2 Tryz.f3 0 ag3
noncomputable def ar8 (n m:Nat) (a0:Int) (a1:List a00) (a2:List UInt8) (x7:Int):Option ((Bool × Unit) × Unit):=
 d63 n [.r,.r,.l,.r,.l,.at m] [(0,.one (.int .i64 a0)),(1,.one (.sl 29 a1 .ro)),(2,.one (.str a2)),(7,.one (.int .i64 x7))]
end Go.VI
