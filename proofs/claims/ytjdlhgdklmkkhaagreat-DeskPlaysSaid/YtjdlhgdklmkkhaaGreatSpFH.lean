import Derived.Test.YtjdlhgdklmkkhaaGreatSpFTy
import Derived.Test.YtjdlhgdklmkkhaaGreatSpXM
set_option linter.unusedVariables false
set_option linter.unusedSimpArgs false
set_option maxRecDepth 1000000
set_option maxHeartbeats 4000000
noncomputable section
namespace Go.VI
open Go Go.Proofs
def co:bT τ:=⟨[(false,fo)],[cX]⟩
def G6:bJ:=⟨81,[[1],[1,50],[2],[1,3],[1,3,55],[1,3],[1,3,65],[2],[1,4],[1,4,70],[1,4],[1,4,80],[2],[2]],[],[]⟩
def bU:List (bG U):=[]
def Hk (n:Nat):bE × Unit->Option ((Bool × Unit) × Unit):=bK (U:=U) Tryz.prog bU G6 n Tryz.f25 co
def Cu:=Hk fuel
def Q2:bG U:=⟨25,co,Cu⟩
def OW:=lp (tab bU) G6 Tryz.f25 0 co
def za (n m:Nat) (a0:bE) (x3:Int):Option ((Bool × Unit) × Unit):=
 OW n [.r,.r,.l,.r,.l,.at m] [(1,.box [.int .i64 a0.kind,.int .i64 a0.cmd,.int .i64 a0.ver,.str a0.aC,.int .i64 a0.family,.int .i64 a0.ae,.str a0.ah,.int .i64 a0.af,.int .i64 a0.tag,.str a0.next,.int .i64 a0.aj,.str a0.id,.int .i64 a0.seq,.int .i64 a0.seq2,.int .i64 a0.aw,.int .i64 a0.flags,.int .i64 a0.hops,.int .i64 a0.aB,.int .i64 a0.cost,.str a0.addr,.str a0.aD,.sl 94 a0.list .ro,.int .i64 a0.aA,.str a0.data,.sl 96 a0.subs .ro]),(3,.one (.int .i64 x3))]
def xI (n m:Nat) (a0:bE) (x4:Int):Option ((Bool × Unit) × Unit):=
 OW n [.r,.r,.r,.l,.r,.l,.at m] [(1,.box [.int .i64 a0.kind,.int .i64 a0.cmd,.int .i64 a0.ver,.str a0.aC,.int .i64 a0.family,.int .i64 a0.ae,.str a0.ah,.int .i64 a0.af,.int .i64 a0.tag,.str a0.next,.int .i64 a0.aj,.str a0.id,.int .i64 a0.seq,.int .i64 a0.seq2,.int .i64 a0.aw,.int .i64 a0.flags,.int .i64 a0.hops,.int .i64 a0.aB,.int .i64 a0.cost,.str a0.addr,.str a0.aD,.sl 94 a0.list .ro,.int .i64 a0.aA,.str a0.data,.sl 96 a0.subs .ro]),(4,.one (.int .i64 x4))]
def zU:bT τ:=⟨[(false,ii),(false,cd)],[cX]⟩
def Fd:bJ:=⟨22,[[0,1],[0,9],[4],[0,5],[0,5,13],[0,5],[0,5,21],[4],[4]],[],[]⟩
def H0:List (bG U):=[Q2]
def Dz (n:Nat):(List bE) × Int × Unit->Option ((Bool × Unit) × Unit):=bK (U:=U) Tryz.prog H0 Fd n Tryz.f14 zU
def HY:=Dz fuel
def LA:bG U:=⟨14,zU,HY⟩
def ef3:=lp (tab H0) Fd Tryz.f14 0 zU
def xK (n m:Nat) (a0:List bE) (x5:Int):Option ((Bool × Unit) × Unit):=
 ef3 n [.r,.r,.l,.r,.l,.at m] [(0,.one (.sl 77 a0 .ro)),(5,.one (.int .i64 x5))]
def yd:bT τ:=⟨[(false,Df)],[cX]⟩
def Dw:bJ:=⟨29,[[0],[0,6],[2],[0,3],[0,3,10],[0,3],[0,3,28],[2],[2]],[],[999999]⟩
def Hb:List (bG U):=[LA]
def H8 (n:Nat):(List da) × Unit->Option ((Bool × Unit) × Unit):=bK (U:=U) Tryz.prog Hb Dw n Tryz.f7 yd
def Fb:=H8 fuel
def MH:bG U:=⟨7,yd,Fb⟩
def eY4:=lp (tab Hb) Dw Tryz.f7 0 yd
def wU (n m:Nat) (a0:List da) (x3:Int):Option ((Bool × Unit) × Unit):=
 eY4 n [.r,.r,.l,.r,.l,.at m] [(0,.one (.sl 39 a0 .ro)),(3,.one (.int .i64 x3))]
def eu0:bT τ:=⟨[],[cX]⟩
def th:Unit->Option ((Bool × Unit) × Unit):=eO4
def EG:bG U:=⟨8,eu0,th⟩
def zF:bT τ:=⟨[(false,T6),(false,T6)],[cX]⟩
def mu:bJ:=⟨26,[[0,1],[0,1,10],[4],[0,1,5],[0,1,5,14],[0,1,5],[0,1,5,25],[4],[4]],[],[]⟩
def H9 (n:Nat):(List eB) × (List eB) × Unit->Option ((Bool × Unit) × Unit):=bK (U:=U) Tryz.prog bU mu n Tryz.f49 zF
def CJ:=H9 fuel
def Xn:bG U:=⟨49,zF,CJ⟩
def eu1:=lp (tab bU) mu Tryz.f49 0 zF
def Aa (n m:Nat) (a0 a1:List eB) (x5:Int):Option ((Bool × Unit) × Unit):=
 eu1 n [.r,.r,.l,.r,.l,.at m] [(0,.one (.sl 94 a0 .ro)),(1,.one (.sl 94 a1 .ro)),(5,.one (.int .i64 x5))]
def BG:bT τ:=⟨[(false,mw),(false,mw)],[cX]⟩
def Iu (n:Nat):(List b8) × (List b8) × Unit->Option ((Bool × Unit) × Unit):=bK (U:=U) Tryz.prog bU mu n Tryz.f50 BG
def Ei:=Iu fuel
def Um:bG U:=⟨50,BG,Ei⟩
def eO5:=lp (tab bU) mu Tryz.f50 0 BG
def wI (n m:Nat) (a0 a1:List b8) (x5:Int):Option ((Bool × Unit) × Unit):=
 eO5 n [.r,.r,.l,.r,.l,.at m] [(0,.one (.sl 96 a0 .ro)),(1,.one (.sl 96 a1 .ro)),(5,.one (.int .i64 x5))]
def sc:bT τ:=⟨[(false,fo),(false,fo)],[cX]⟩
def LW:bJ:=⟨174,[[2,3],[2,3,79],[4],[2,3,161],[4],[4]],[],[]⟩
def Om:List (bG U):=[Xn,Um]
def gt:bE × bE × Unit->Option ((Bool × Unit) × Unit):=bK (U:=U) Tryz.prog Om LW 0 Tryz.f31 sc
def Qi:bG U:=⟨31,sc,gt⟩
def Tl:bJ:=⟨214,[[1],[1,3],[1,3,10],[2],[1,3,10,11],[1,3],[1,3,10,34],[1,3],[1,3,10,51],[1,3],[1,3,10,74],[1,3],[1,3,10,97],[1,3],[1,3,10,105],[1,3,10,107],[1,3],[1,3,10,115],[1,3],[1,3,10,120],[1,3],[1,3,10,131],[1,3],[1,3,10,145],[1,3],[1,3,10,171],[1,3],[1,3,10,182],[1,3],[1,3,202],[1,3],[2]],[],[]⟩
def t8:List (bG U):=[Qi]
def jW:bE × Unit->Option ((Bool × Unit) × Unit):=bK (U:=U) Tryz.prog t8 Tl 0 Tryz.f94 co
def lX:bG U:=⟨94,co,jW⟩
def mF:bT τ:=⟨[],[cz]⟩
def BO:bJ:=⟨1,[[],[0]],[],[]⟩
def jz:Unit->Option ((at1 × Unit) × Unit):=bK (U:=U) Tryz.prog bU BO 0 Tryz.f95 mF
def BC:bG U:=⟨95,mF,jz⟩
def iK:bT τ:=⟨[(false,cz),(false,cd)],[cX]⟩
def J0:bJ:=⟨28,[[0,1],[4]],[],[]⟩
def yT:at1 × Int × Unit->Option ((Bool × Unit) × Unit):=bK (U:=U) Tryz.prog bU J0 0 Tryz.f232 iK
def Rh:bG U:=⟨232,iK,yT⟩
def gd:bT τ:=⟨[(false,cz),(false,cd)],[cz]⟩
def DI:bJ:=⟨42,[[0,1],[0,1,5],[0,1,5,6],[0,1,5,6,19],[0,1,5,6],[0,1,5,6,24],[0,1,5,6],[4]],[],[]⟩
def DW:List (bG U):=[Rh]
def Eu (n:Nat):at1 × Int × Unit->Option ((at1 × Unit) × Unit):=bK (U:=U) Tryz.prog DW DI n Tryz.f178 gd
def nB:=Eu fuel
def yV:bG U:=⟨178,gd,nB⟩
def eO6:=lp (tab DW) DI Tryz.f178 0 gd
def tv (n m:Nat) (a0:at1) (a1 x6:Int) (x9:at1):Option ((at1 × Unit) × Unit):=
 eO6 n [.r,.r,.l,.r,.l,.at m] [(0,.one (.str a0)),(1,.one (.int .i64 a1)),(5,.one (.sref 9)),(6,.one (.int .i64 x6)),(9,.bblk 5 x9 true)]
def sn:bJ:=⟨10,[[0,1],[4]],[],[]⟩
def xz:List (bG U):=[yV]
def tB:at1 × Int × Unit->Option ((Bool × Unit) × Unit):=bK (U:=U) Tryz.prog xz sn 0 Tryz.f116 iK
def W5:bG U:=⟨116,iK,tB⟩
def QC:bJ:=⟨29,[[0,1],[4]],[],[]⟩
def US:List (bG U):=[W5]
def jI:at1 × Int × Unit->Option ((Bool × Unit) × Unit):=bK (U:=U) Tryz.prog US QC 0 Tryz.f69 iK
def qq:bG U:=⟨69,iK,jI⟩
def MS:bJ:=⟨135,[[1],[1,42],[2],[1,56],[2],[1,59],[2],[1,102],[2],[1,105],[2],[2]],[],[]⟩
def QB:List (bG U):=[lX,BC,qq]
def qX:bE × Unit->Option ((Bool × Unit) × Unit):=bK (U:=U) Tryz.prog QB MS 0 Tryz.f53 co
def zJ:bG U:=⟨53,co,qX⟩
def jS:bT τ:=⟨[(false,cd)],[cz]⟩
def wL:bJ:=⟨8,[[0],[0,4],[2],[2]],[],[]⟩
def GV:Int × Unit->Option ((at1 × Unit) × Unit):=bK (U:=U) Tryz.prog bU wL 0 Tryz.f114 jS
def Ok:bG U:=⟨114,jS,GV⟩
def Ln:bJ:=⟨2,[[],[0]],[],[]⟩
def KC:List (bG U):=[Ok]
def px:Unit->Option ((at1 × Unit) × Unit):=bK (U:=U) Tryz.prog KC Ln 0 Tryz.f66 mF
def yE:bG U:=⟨66,mF,px⟩
def Bl:Unit->Option ((at1 × Unit) × Unit):=bK (U:=U) Tryz.prog bU BO 0 Tryz.f115 mF
def MT:bG U:=⟨115,mF,Bl⟩
def ij:bT τ:=⟨[(false,cz)],[cX]⟩
def Kz:bJ:=⟨12,[[0],[2]],[],[]⟩
def wx:List (bG U):=[MT]
def lL:at1 × Unit->Option ((Bool × Unit) × Unit):=bK (U:=U) Tryz.prog wx Kz 0 Tryz.f68 ij
def sR:bG U:=⟨68,ij,lL⟩
def NT:bJ:=⟨64,[[1],[2]],[],[]⟩
def Mn:List (bG U):=[lX,qq,yE,sR]
def tm:bE × Unit->Option ((Bool × Unit) × Unit):=bK (U:=U) Tryz.prog Mn NT 0 Tryz.f54 co
def Iw:bG U:=⟨54,co,tm⟩
def li:bT τ:=⟨[(false,cd),(false,cd)],[cX]⟩
def I9:bJ:=⟨27,[[0,1],[0,1,16],[4],[0,1,5],[0,1,5,6],[0,1,5,6,19],[0,1,5,6],[0,1,5,6],[4]],[],[]⟩
def In (n:Nat):Int × Int × Unit->Option ((Bool × Unit) × Unit):=bK (U:=U) Tryz.prog bU I9 n Tryz.f158 li
def gI:=In fuel
def u5:bG U:=⟨158,li,gI⟩
def Zd:=lp (tab bU) I9 Tryz.f158 0 li
def xj (n m:Nat) (a0 a1 x5 x6:Int):Option ((Bool × Unit) × Unit):=
 Zd n [.r,.r,.r,.l,.r,.l,.at m] [(0,.one (.int .i64 a0)),(1,.one (.int .i64 a1)),(5,.one (.int .i64 x5)),(6,.one (.int .i64 x6))]
def nW:bT τ:=⟨[(false,mw),(false,cd),(false,cd)],[cX]⟩
def Fi:bJ:=⟨39,[[0,1,2],[0,1,2,7],[0,1,2,7,11],[0,1,2,7],[0,1,2,7,38],[6],[6]],[],[]⟩
def DV (n:Nat):(List b8) × Int × Int × Unit->Option ((Bool × Unit) × Unit):=bK (U:=U) Tryz.prog bU Fi n Tryz.f225 nW
def BH:=DV fuel
def Hd:bG U:=⟨225,nW,BH⟩
def eO8:=lp (tab bU) Fi Tryz.f225 0 nW
def yp (n m:Nat) (a0:List b8) (a1 a2 x7:Int):Option ((Bool × Unit) × Unit):=
 eO8 n [.r,.l,.r,.l,.at m] [(0,.one (.sl 96 a0 .ro)),(1,.one (.int .i64 a1)),(2,.one (.int .i64 a2)),(7,.one (.int .i64 x7))]
def j8:bT τ:=⟨[(false,mw)],[cX]⟩
def mI:bJ:=⟨5,[[0],[2]],[],[]⟩
def RR:List (bG U):=[Hd]
def pB:(List b8) × Unit->Option ((Bool × Unit) × Unit):=bK (U:=U) Tryz.prog RR mI 0 Tryz.f159 j8
def xg:bG U:=⟨159,j8,pB⟩
def S6:bJ:=⟨57,[[1],[2]],[],[]⟩
def NH:List (bG U):=[lX,u5,xg]
def uo:bE × Unit->Option ((Bool × Unit) × Unit):=bK (U:=U) Tryz.prog NH S6 0 Tryz.f96 co
def F4:bG U:=⟨96,co,uo⟩
def Q9:bJ:=⟨65,[[1],[1,11],[2],[1,14],[2],[2]],[],[]⟩
def t5:List (bG U):=[lX,xg,u5]
def u9:bE × Unit->Option ((Bool × Unit) × Unit):=bK (U:=U) Tryz.prog t5 Q9 0 Tryz.f97 co
def IF:bG U:=⟨97,co,u9⟩
def Hw:bJ:=⟨65,[[1],[1,39],[2],[1,3],[1,3,44],[1,3],[1,3,64],[2],[2]],[],[]⟩
def Ga (n:Nat):bE × Unit->Option ((Bool × Unit) × Unit):=bK (U:=U) Tryz.prog t5 Hw n Tryz.f98 co
def Bc:=Ga fuel
def Dn:bG U:=⟨98,co,Bc⟩
def eu2:=lp (tab t5) Hw Tryz.f98 0 co
def yN (n m:Nat) (a0:bE) (x3:Int):Option ((Bool × Unit) × Unit):=
 eu2 n [.r,.r,.l,.r,.l,.at m] [(1,.box [.int .i64 a0.kind,.int .i64 a0.cmd,.int .i64 a0.ver,.str a0.aC,.int .i64 a0.family,.int .i64 a0.ae,.str a0.ah,.int .i64 a0.af,.int .i64 a0.tag,.str a0.next,.int .i64 a0.aj,.str a0.id,.int .i64 a0.seq,.int .i64 a0.seq2,.int .i64 a0.aw,.int .i64 a0.flags,.int .i64 a0.hops,.int .i64 a0.aB,.int .i64 a0.cost,.str a0.addr,.str a0.aD,.sl 94 a0.list .ro,.int .i64 a0.aA,.str a0.data,.sl 96 a0.subs .ro]),(3,.one (.int .i64 x3))]
def wD:bJ:=⟨13,[[1],[2]],[],[]⟩
def Sl:List (bG U):=[F4,IF,Dn]
def tF:bE × Unit->Option ((Bool × Unit) × Unit):=bK (U:=U) Tryz.prog Sl wD 0 Tryz.f55 co
def CD:bG U:=⟨55,co,tF⟩
def mM:bT τ:=⟨[(false,mw)],[cd]⟩
def FE:bJ:=⟨21,[[0],[0,3],[0,3,4],[0,3,4,8],[0,3,4],[0,3,4],[2]],[],[]⟩
def Dm (n:Nat):(List b8) × Unit->Option ((Int × Unit) × Unit):=bK (U:=U) Tryz.prog bU FE n Tryz.f226 mM
def ve:=Dm fuel
def Ey:bG U:=⟨226,mM,ve⟩
def eu3:=lp (tab bU) FE Tryz.f226 0 mM
def xY (n m:Nat) (a0:List b8) (x3 x4:Int):Option ((Int × Unit) × Unit):=
 eu3 n [.r,.r,.l,.r,.l,.at m] [(0,.one (.sl 96 a0 .ro)),(3,.one (.int .i64 x3)),(4,.one (.int .i64 x4))]
def qk:bJ:=⟨10,[[0],[2]],[],[]⟩
def T5:List (bG U):=[Hd,Ey]
def oI:(List b8) × Unit->Option ((Bool × Unit) × Unit):=bK (U:=U) Tryz.prog T5 qk 0 Tryz.f160 j8
def uk:bG U:=⟨160,j8,oI⟩
def sb:bT τ:=⟨[(false,cd)],[cX]⟩
def pP:List (bG U):=[u5]
def oU:Int × Unit->Option ((Bool × Unit) × Unit):=bK (U:=U) Tryz.prog pP mI 0 Tryz.f161 sb
def WR:bG U:=⟨161,sb,oU⟩
def se:bT τ:=⟨[(false,cd),(false,cz)],[cX]⟩
def W6:bJ:=⟨24,[[0,1],[1,5],[1,5,6],[4],[1,5,10],[4],[1,5,15],[4],[1,20],[4],[4]],[],[]⟩
def xC:List (bG U):=[sR]
def uh:Int × at1 × Unit->Option ((Bool × Unit) × Unit):=bK (U:=U) Tryz.prog xC W6 0 Tryz.f162 se
def Vq:bG U:=⟨162,se,uh⟩
def OQ:bJ:=⟨58,[[1],[1,35],[2],[1,37],[1,37,38],[1,37,38],[2],[1,37,41],[2],[1,51],[2],[2]],[],[]⟩
def TD:List (bG U):=[lX,uk,WR,Vq]
def tc:bE × Unit->Option ((Bool × Unit) × Unit):=bK (U:=U) Tryz.prog TD OQ 0 Tryz.f99 co
def Fz:bG U:=⟨99,co,tc⟩
def qh:bT τ:=⟨[(false,cd),(false,cz),(false,cd)],[cX]⟩
def XB:bJ:=⟨49,[[0,1,2],[1,2,7],[1,2,7,8],[6],[1,2,7,16],[6],[1,2,7,26],[6],[1,2,36],[6],[6]],[],[]⟩
def M5:List (bG U):=[qq,sR]
def td:Int × at1 × Int × Unit->Option ((Bool × Unit) × Unit):=bK (U:=U) Tryz.prog M5 XB 0 Tryz.f163 qh
def JB:bG U:=⟨163,qh,td⟩
def XI:bJ:=⟨54,[[1],[1,21],[2],[1,24],[2],[2]],[],[]⟩
def OO:List (bG U):=[lX,uk,JB,u5]
def vm:bE × Unit->Option ((Bool × Unit) × Unit):=bK (U:=U) Tryz.prog OO XI 0 Tryz.f100 co
def I8:bG U:=⟨100,co,vm⟩
def qz:Int × Unit->Option ((Bool × Unit) × Unit):=bK (U:=U) Tryz.prog pP mI 0 Tryz.f164 sb
def J6:bG U:=⟨164,sb,qz⟩
def jt:bT τ:=⟨[(false,cz)],[cd]⟩
def Sf:bJ:=⟨9,[[0],[0,5],[2],[8],[2],[2]],[],[]⟩
def wR:at1 × Unit->Option ((Int × Unit) × Unit):=bK (U:=U) Tryz.prog bU Sf 0 Tryz.f165 jt
def Ua:bG U:=⟨165,jt,wR⟩
def fP:bT τ:=⟨[(false,cd)],[cd]⟩
def Oy:bJ:=⟨11,[[0],[0,4],[2],[10],[2],[2]],[],[]⟩
def ob:Int × Unit->Option ((Int × Unit) × Unit):=bK (U:=U) Tryz.prog bU Oy 0 Tryz.f166 fP
def s0:bG U:=⟨166,fP,ob⟩
def O5:bJ:=⟨79,[[1],[1,44],[2],[1,47],[2],[2]],[],[]⟩
def Vj:List (bG U):=[lX,uk,JB,J6,Ua,s0]
def zq:bE × Unit->Option ((Bool × Unit) × Unit):=bK (U:=U) Tryz.prog Vj O5 0 Tryz.f101 co
def Od:bG U:=⟨101,co,zq⟩
def KB:bJ:=⟨26,[[1],[2]],[],[]⟩
def Rb:List (bG U):=[lX]
def Cd:bE × Unit->Option ((Bool × Unit) × Unit):=bK (U:=U) Tryz.prog Rb KB 0 Tryz.f102 co
def RJ:bG U:=⟨102,co,Cd⟩
def Wt:bJ:=⟨17,[[1],[2]],[],[]⟩
def UO:List (bG U):=[Fz,I8,Od,RJ]
def rk:bE × Unit->Option ((Bool × Unit) × Unit):=bK (U:=U) Tryz.prog UO Wt 0 Tryz.f56 co
def Bz:bG U:=⟨56,co,rk⟩
def mK:bT τ:=⟨[(false,cd),(false,fo)],[cX]⟩
def OL:bJ:=⟨22,[[0,3],[3,5],[3,5,6],[4],[3,5,10],[4],[3,5,14],[4],[3,18],[4],[4]],[],[]⟩
def RV:List (bG U):=[zJ,Iw,CD,Bz]
def AH:Int × bE × Unit->Option ((Bool × Unit) × Unit):=bK (U:=U) Tryz.prog RV OL 0 Tryz.f34 mK
def S4:bG U:=⟨34,mK,AH⟩
def nv:bT τ:=⟨[(false,cd),(false,cd)],[cz,cX]⟩
def H7:bJ:=⟨27,[[0,1],[0,1,11],[4,5],[0,1,6],[0,1,6,7],[0,1,6,7,14],[0,1,6,7],[0,1,6,7],[0,1,6,7],[4,5]],[],[]⟩
def Dk (n:Nat):Int × Int × Unit->Option ((at1 × Bool × Unit) × Unit):=bK (U:=U) Tryz.prog pP H7 n Tryz.f167 nv
def kV:=Dk fuel
def N9:bG U:=⟨167,nv,kV⟩
def eY5:=lp (tab pP) H7 Tryz.f167 0 nv
def zK (n m:Nat) (a1 x0:Int) (x6:at1) (x7:Int):Option ((at1 × Bool × Unit) × Unit):=
 eY5 n [.r,.r,.r,.l,.r,.l,.at m] [(0,.one (.int .i64 x0)),(1,.one (.int .i64 a1)),(6,.one (.str x6)),(7,.one (.int .i64 x7))]
def I6:bT τ:=⟨[(false,cd),(false,cd)],[cz]⟩
def Uu:bJ:=⟨14,[[0,1],[5],[4]],[],[]⟩
def sm:List (bG U):=[N9]
def dK:Int × Int × Unit->Option ((at1 × Unit) × Unit):=bK (U:=U) Tryz.prog sm Uu 0 Tryz.f103 I6
def lk:bG U:=⟨103,I6,dK⟩
def ei:bT τ:=⟨[(false,cz)],[cz,cX]⟩
def ko:bJ:=⟨9,[[0],[0,6],[2,3],[2,3]],[],[]⟩
def DT:at1 × Unit->Option ((at1 × Bool × Unit) × Unit):=bK (U:=U) Tryz.prog bU ko 0 Tryz.f104 ei
def Ou:bG U:=⟨104,ei,DT⟩
def qI:bT τ:=⟨[(false,cd)],[cz,cX]⟩
def N8:bJ:=⟨12,[[0],[0,9],[2,3],[2,3]],[],[]⟩
def tM:Int × Unit->Option ((at1 × Bool × Unit) × Unit):=bK (U:=U) Tryz.prog xz N8 0 Tryz.f168 qI
def Dx:bG U:=⟨168,qI,tM⟩
def kd:bT τ:=⟨[(false,qd)],[cz,cX]⟩
def KL:bJ:=⟨70,[[1],[1,4,5],[1,4,5,6,7],[1,4,5,6,7,8,9],[1,4,6,8,55],[2,3],[2,3]],[],[]⟩
def qx:de × Unit->Option ((at1 × Bool × Unit) × Unit):=bK (U:=U) Tryz.prog sm KL 0 Tryz.f169 kd
def Mc:bG U:=⟨169,kd,qx⟩
def gK:bT τ:=⟨[(false,fo)],[cz]⟩
def OY:bJ:=⟨38,[[1],[1,3],[1,3,14],[1,3],[4],[2]],[],[]⟩
def Q5:List (bG U):=[BC,Dx,Mc]
def uO:bE × Unit->Option ((at1 × Unit) × Unit):=bK (U:=U) Tryz.prog Q5 OY 0 Tryz.f105 gK
def Kw:bG U:=⟨105,gK,uO⟩
def dX:bT τ:=⟨[(false,ii)],[cz,cd,eo]⟩
def GI:bJ:=⟨115,[[0],[0,5],[0,5,15],[0,5],[0,5,23],[2,3,4],[0,27],[2,3,4],[0,6],[0,6,7],[0,6,7,8],[0,6,7,8,41],[0,6,7,8],[0,6,7,8,9],[0,6,7,8],[0,6,7,8,11],[0,6,7,8,11,54],[0,6,7,8,11],[0,6,7,8,11,59],[2,3,4],[0,6,7,8,11,105],[2,3,4],[0,6,7,8,11],[2,3,4]],[],[]⟩
def Ik:List (bG U):=[zJ,lk,Ou,Kw]
def Dh (n:Nat):(List bE) × Unit->Option ((at1 × Int × Int × Unit) × Unit):=bK (U:=U) Tryz.prog Ik GI n Tryz.f57 dX
def Gw:=Dh fuel
def VZ:bG U:=⟨57,dX,Gw⟩
def Xd:=lp (tab Ik) GI Tryz.f57 0 dX
def yK (n m:Nat) (a0:List bE) (x5:Int):Option ((at1 × Int × Int × Unit) × Unit):=
 Xd n [.r,.l,.r,.l,.at m] [(0,.one (.sl 77 a0 .ro)),(5,.one (.int .i64 x5))]
def pU (n m:Nat) (a0:List bE) (y3:bE) (x7:Int) (x8:at1) (x11:Int):Option ((at1 × Int × Int × Unit) × Unit):=
 Xd n [.r,.r,.r,.r,.r,.r,.r,.l,.r,.l,.at m] [(0,.one (.sl 77 a0 .ro)),(6,.box [.int .i64 y3.kind,.int .i64 y3.cmd,.int .i64 y3.ver,.str y3.aC,.int .i64 y3.family,.int .i64 y3.ae,.str y3.ah,.int .i64 y3.af,.int .i64 y3.tag,.str y3.next,.int .i64 y3.aj,.str y3.id,.int .i64 y3.seq,.int .i64 y3.seq2,.int .i64 y3.aw,.int .i64 y3.flags,.int .i64 y3.hops,.int .i64 y3.aB,.int .i64 y3.cost,.str y3.addr,.str y3.aD,.sl 94 y3.list .ro,.int .i64 y3.aA,.str y3.data,.sl 96 y3.subs .ro]),(7,.one (.int .i64 x7)),(8,.one (.str x8)),(11,.one (.int .i64 x11))]
def Pq:bJ:=⟨62,[[1],[1,4,5],[1,4,5,6,7],[1,4,5,6,7,8,9],[1,4,6,8,53],[2,3],[2,3]],[],[]⟩
def rf:de × Unit->Option ((at1 × Bool × Unit) × Unit):=bK (U:=U) Tryz.prog sm Pq 0 Tryz.f106 kd
def W9:bG U:=⟨106,kd,rf⟩
def DH:bJ:=⟨107,[[0],[0,5],[0,5,16],[0,5],[0,5,24],[2,3,4],[0,28],[2,3,4],[0,6],[0,6,7],[0,6,7,8],[0,6,7,8,39],[0,6,7,8],[0,6,7,8,51],[2,3,4],[0,6,7,8,59],[0,6,7,8],[0,6,7,8,9],[0,6,7,8],[0,6,7,8,11],[0,6,7,8],[0,6,7,8,104],[2,3,4],[2,3,4]],[],[]⟩
def C9:List (bG U):=[Iw,lk,yE,W9]
def GX (n:Nat):(List bE) × Unit->Option ((at1 × Int × Int × Unit) × Unit):=bK (U:=U) Tryz.prog C9 DH n Tryz.f58 dX
def Hx:=GX fuel
def UD:bG U:=⟨58,dX,Hx⟩
def U5:=lp (tab C9) DH Tryz.f58 0 dX
def vA (n m:Nat) (a0:List bE) (x5:Int):Option ((at1 × Int × Int × Unit) × Unit):=
 U5 n [.r,.l,.r,.l,.at m] [(0,.one (.sl 77 a0 .ro)),(5,.one (.int .i64 x5))]
def qp (n m:Nat) (a0:List bE) (x6 x7:at1) (x8:Int):Option ((at1 × Int × Int × Unit) × Unit):=
 U5 n [.r,.r,.r,.r,.r,.l,.r,.l,.at m] [(0,.one (.sl 77 a0 .ro)),(6,.one (.str x6)),(7,.one (.str x7)),(8,.one (.int .i64 x8))]
def iy:bT τ:=⟨[(false,mw)],[cz,cX]⟩
def C5:bJ:=⟨39,[[0],[0,8],[2,3],[0,4],[0,4,5],[0,4,5,12],[0,4,5],[0,4,5],[2,3]],[],[]⟩
def Cw:List (bG U):=[xg]
def Eb (n:Nat):(List b8) × Unit->Option ((at1 × Bool × Unit) × Unit):=bK (U:=U) Tryz.prog Cw C5 n Tryz.f170 iy
def tT:=Eb fuel
def yz:bG U:=⟨170,iy,tT⟩
def eY6:=lp (tab Cw) C5 Tryz.f170 0 iy
def yL (n m:Nat) (a0:List b8) (x4:at1) (x5:Int):Option ((at1 × Bool × Unit) × Unit):=
 eY6 n [.r,.r,.r,.l,.r,.l,.at m] [(0,.one (.sl 96 a0 .ro)),(4,.one (.str x4)),(5,.one (.int .i64 x5))]
def dU:bT τ:=⟨[(false,fo)],[cz,cX]⟩
def Sg:bJ:=⟨45,[[1],[1,8],[2,3],[1,4],[2,3]],[],[]⟩
def SW:List (bG U):=[F4,yz,lk]
def xZ:bE × Unit->Option ((at1 × Bool × Unit) × Unit):=bK (U:=U) Tryz.prog SW Sg 0 Tryz.f107 dU
def J8:bG U:=⟨107,dU,xZ⟩
def UT:bJ:=⟨49,[[1],[1,8],[2,3],[1,4],[1,4,17],[2,3],[2,3]],[],[]⟩
def Pz:List (bG U):=[IF,yz,lk]
def As:bE × Unit->Option ((at1 × Bool × Unit) × Unit):=bK (U:=U) Tryz.prog Pz UT 0 Tryz.f108 dU
def QT:bG U:=⟨108,dU,As⟩
def Ix:bJ:=⟨54,[[1],[1,10],[2,3],[1,4],[1,4,5],[1,4,5,26],[1,4,5],[1,4,5],[4,6],[2,3]],[],[]⟩
def Fo:List (bG U):=[Dn,lk,yz]
def IZ (n:Nat):bE × Unit->Option ((at1 × Bool × Unit) × Unit):=bK (U:=U) Tryz.prog Fo Ix n Tryz.f109 dU
def wG:=IZ fuel
def Pn:bG U:=⟨109,dU,wG⟩
def eY7:=lp (tab Fo) Ix Tryz.f109 0 dU
def ww (n m:Nat) (a0:bE) (x4:at1) (x5:Int):Option ((at1 × Bool × Unit) × Unit):=
 eY7 n [.r,.r,.r,.l,.r,.l,.at m] [(1,.box [.int .i64 a0.kind,.int .i64 a0.cmd,.int .i64 a0.ver,.str a0.aC,.int .i64 a0.family,.int .i64 a0.ae,.str a0.ah,.int .i64 a0.af,.int .i64 a0.tag,.str a0.next,.int .i64 a0.aj,.str a0.id,.int .i64 a0.seq,.int .i64 a0.seq2,.int .i64 a0.aw,.int .i64 a0.flags,.int .i64 a0.hops,.int .i64 a0.aB,.int .i64 a0.cost,.str a0.addr,.str a0.aD,.sl 94 a0.list .ro,.int .i64 a0.aA,.str a0.data,.sl 96 a0.subs .ro]),(4,.one (.str x4)),(5,.one (.int .i64 x5))]
def IK:bJ:=⟨56,[[0],[0,5],[0,5,11],[0,5],[0,5,19],[2,3,4],[0,23],[2,3,4],[0,26],[2,3,4],[0,6,7],[0,6,7,35],[0,6,7],[0,6,44],[6],[6,54],[2,3,4],[2,3,4]],[],[]⟩
def EJ:List (bG U):=[CD,J8,QT,Pn]
def JH (n:Nat):(List bE) × Unit->Option ((at1 × Int × Int × Unit) × Unit):=bK (U:=U) Tryz.prog EJ IK n Tryz.f59 dX
def Hn:=JH fuel
def Wo:bG U:=⟨59,dX,Hn⟩
def ef4:=lp (tab EJ) IK Tryz.f59 0 dX
def yk (n m:Nat) (a0:List bE) (x5:Int):Option ((at1 × Int × Int × Unit) × Unit):=
 ef4 n [.r,.l,.r,.l,.at m] [(0,.one (.sl 77 a0 .ro)),(5,.one (.int .i64 x5))]
def zk:at1 × Unit->Option ((at1 × Bool × Unit) × Unit):=bK (U:=U) Tryz.prog xC ko 0 Tryz.f293 ei
def Vp:bG U:=⟨293,ei,zk⟩
def EX:bT τ:=⟨[(false,fo)],[cd,cz]⟩
def J1:bJ:=⟨59,[[1],[1,4],[1,4,10],[1,4,10,11],[2,3],[1,4,10,19],[2,3],[1,4,24],[2,3],[1,4,5],[1,4,5,40],[1,4,5],[2,3]],[],[]⟩
def Sz:List (bG U):=[lk,Vp]
def xn:bE × Unit->Option ((Int × at1 × Unit) × Unit):=bK (U:=U) Tryz.prog Sz J1 0 Tryz.f273 EX
def Uf:bG U:=⟨273,EX,xn⟩
def sT:bT τ:=⟨[(false,cd),(false,cz)],[cz,cX]⟩
def AF:bJ:=⟨26,[[0,1],[0,1,16],[4,5],[4,5]],[],[]⟩
def il:Int × at1 × Unit->Option ((at1 × Bool × Unit) × Unit):=bK (U:=U) Tryz.prog bU AF 0 Tryz.f229 sT
def nt:bG U:=⟨229,sT,il⟩
def FY:bJ:=⟨35,[[0],[0,10],[2,3],[0,4],[0,4,5],[0,4,5,14],[0,4,5],[0,4,5,6],[0,4,5],[2,3]],[],[]⟩
def Dg:List (bG U):=[uk,nt]
def CY (n:Nat):(List b8) × Unit->Option ((at1 × Bool × Unit) × Unit):=bK (U:=U) Tryz.prog Dg FY n Tryz.f231 iy
def rA:=CY fuel
def yi:bG U:=⟨231,iy,rA⟩
def eY8:=lp (tab Dg) FY Tryz.f231 0 iy
def wu (n m:Nat) (a0:List b8) (x4:at1) (x5:Int):Option ((at1 × Bool × Unit) × Unit):=
 eY8 n [.r,.r,.r,.l,.r,.l,.at m] [(0,.one (.sl 96 a0 .ro)),(4,.one (.str x4)),(5,.one (.int .i64 x5))]
def SH:bJ:=⟨29,[[1],[1,10],[2,3],[1,4,5],[4,5,6],[2,3]],[],[]⟩
def Vz:List (bG U):=[Fz,Uf,yi,nt]
def xR:bE × Unit->Option ((at1 × Bool × Unit) × Unit):=bK (U:=U) Tryz.prog Vz SH 0 Tryz.f227 dU
def Ux:bG U:=⟨227,dU,xR⟩
def oq:Int × Unit->Option ((Int × Unit) × Unit):=bK (U:=U) Tryz.prog bU wL 0 Tryz.f240 fP
def Ag:bG U:=⟨240,fP,oq⟩
def Ky:bJ:=⟨14,[[0,1],[4]],[],[]⟩
def JM:List (bG U):=[yV,Ag]
def wm:at1 × Int × Unit->Option ((at1 × Unit) × Unit):=bK (U:=U) Tryz.prog JM Ky 0 Tryz.f230 gd
def VB:bG U:=⟨230,gd,wm⟩
def zu:bJ:=⟨5,[[0],[4],[2],[2]],[],[]⟩
def gM:Int × Unit->Option ((Int × Unit) × Unit):=bK (U:=U) Tryz.prog bU zu 0 Tryz.f175 fP
def rc:bG U:=⟨175,fP,gM⟩
def wA:bJ:=⟨12,[[1],[2]],[],[]⟩
def LG:List (bG U):=[VB,rc]
def gC:bE × Unit->Option ((at1 × Unit) × Unit):=bK (U:=U) Tryz.prog LG wA 0 Tryz.f176 gK
def AO:bG U:=⟨176,gK,gC⟩
def Py:bJ:=⟨58,[[1],[1,9],[2,3],[1,4],[1,4,6],[1,4,6,26],[2,3],[2,3]],[],[]⟩
def NI:List (bG U):=[I8,yi,AO,nt,lk]
def wy:bE × Unit->Option ((at1 × Bool × Unit) × Unit):=bK (U:=U) Tryz.prog NI Py 0 Tryz.f228 dU
def LY:bG U:=⟨228,dU,wy⟩
def U3:bJ:=⟨28,[[1],[1,3,4],[1,3,4,11],[1,3,4],[1,3,18],[3],[2]],[],[]⟩
def MM:List (bG U):=[Ux,LY,nt]
def zR:bE × Unit->Option ((at1 × Unit) × Unit):=bK (U:=U) Tryz.prog MM U3 0 Tryz.f171 gK
def TA:bG U:=⟨171,gK,zR⟩
def jV:bT τ:=⟨[(false,cz)],[cz]⟩
def K6:bJ:=⟨12,[[0],[3],[2]],[],[]⟩
def Pi:List (bG U):=[nt]
def tO:at1 × Unit->Option ((at1 × Unit) × Unit):=bK (U:=U) Tryz.prog Pi K6 0 Tryz.f172 jV
def Ts:bG U:=⟨172,jV,tO⟩
def Qx:bJ:=⟨24,[[0],[0,3],[0,3,10],[0,3],[0,3,14],[3],[4],[2]],[],[]⟩
def QV:List (bG U):=[sR,nt]
def oS:at1 × Unit->Option ((at1 × Unit) × Unit):=bK (U:=U) Tryz.prog QV Qx 0 Tryz.f173 jV
def Xc:bG U:=⟨173,jV,oS⟩
def kN:bT τ:=⟨[(false,cz),(false,cz)],[cd]⟩
def Gc:bJ:=⟨28,[[0,1],[0,1,5],[0,1,5,24],[0,1,5],[4]],[],[]⟩
def DK (n:Nat):at1 × at1 × Unit->Option ((Int × Unit) × Unit):=bK (U:=U) Tryz.prog bU Gc n Tryz.f174 kN
def kc:=DK fuel
def TL:bG U:=⟨174,kN,kc⟩
def eO9:=lp (tab bU) Gc Tryz.f174 0 kN
def yb (n m:Nat) (a0 a1:at1) (x5:Int):Option ((Int × Unit) × Unit):=
 eO9 n [.r,.r,.l,.l,.at m] [(0,.one (.str a0)),(1,.one (.str a1)),(5,.one (.int .i64 x5))]
def D5:bT τ:=⟨[(false,fo),(false,cd)],[cz]⟩
def KF:bJ:=⟨57,[[1,2],[1,2,5],[1,2,5,13],[1,2,5],[1,2,5,6],[1,2,6,8],[9],[4]],[],[]⟩
def PM:List (bG U):=[yi,lk,AO,nt]
def cv:bE × Int × Unit->Option ((at1 × Unit) × Unit):=bK (U:=U) Tryz.prog PM KF 0 Tryz.f177 D5
def KG:bG U:=⟨177,D5,cv⟩
def sO:bT τ:=⟨[(false,nO),(false,fo)],[cz,nO,eo]⟩
def Nd:bJ:=⟨105,[[2,3,5],[2,3,5,13],[4,5,6],[2,3,5,17],[4,5,6],[2,3,5,7],[2,3,5,7,8],[2,3,5,7,8,24],[2,3,5,7,8,9],[2,3,5,7,8,9,37],[4,5,6],[2,3,5,8,9,43],[2,3,5,8,9],[2,3,5,8,9],[2,3,5,8,9,56],[2,3,5,8,9],[2,3,5,8],[2,3,5,8,10],[2,3,5,8,10,77],[2,3,5,8,10],[2,3,5,8,10,92],[2,3,5,8,10],[4,5,6]],[],[]⟩
def KD:List (bG U):=[Bz,TA,s0,Ts,Xc,rc,AO,TL,KG]
def zP:bQ × bE × Unit->Option ((at1 × bQ × Int × Unit) × Unit):=bK (U:=U) Tryz.prog KD Nd 0 Tryz.f110 sO
def Sm:bG U:=⟨110,sO,zP⟩
def NN:bJ:=⟨13,[[0],[0,6],[2,3],[2,3]],[],[]⟩
def Tc:List (bG U):=[lk]
def xl:at1 × Unit->Option ((at1 × Bool × Unit) × Unit):=bK (U:=U) Tryz.prog Tc NN 0 Tryz.f111 ei
def Ro:bG U:=⟨111,ei,xl⟩
def Jv:bJ:=⟨61,[[0],[0,5],[0,5,17],[0,5],[0,5,25],[2,3,4],[0,6],[0,6,7],[0,6,7,8],[0,6,7,8,30],[0,6,7,8],[0,6,7,8,9,10,11],[0,6,7,8,9,10,11,44],[2,3,4],[0,6,7,8,9],[0,6,7,8],[0,6,7,8,53],[2,3,4],[12],[2,3,4]],[],[]⟩
def IV:List (bG U):=[Bz,Sm,Ro]
def Jt (n:Nat):(List bE) × Unit->Option ((at1 × Int × Int × Unit) × Unit):=bK (U:=U) Tryz.prog IV Jv n Tryz.f60 dX
def GH:=Jt fuel
def VC:bG U:=⟨60,dX,GH⟩
def Ob:=lp (tab IV) Jv Tryz.f60 0 dX
def zt (n m:Nat) (a0:List bE) (x5:Int):Option ((at1 × Int × Int × Unit) × Unit):=
 Ob n [.r,.l,.r,.l,.at m] [(0,.one (.sl 77 a0 .ro)),(5,.one (.int .i64 x5))]
def BS (n m:Nat) (a0:List bE) (x6 x7_0 x7_1 x7_2 x7_3 x7_4 x7_5 x7_6:at1) (x8:Int):Option ((at1 × Int × Int × Unit) × Unit):=
 Ob n [.r,.r,.r,.r,.l,.r,.l,.at m] [(0,.one (.sl 77 a0 .ro)),(6,.one (.str x6)),(7,.box [.str x7_0,.str x7_1,.str x7_2,.str x7_3,.str x7_4,.str x7_5,.str x7_6]),(8,.one (.int .i64 x8))]
def od:bT τ:=⟨[(false,cd),(false,ii)],[cz,cd,eo]⟩
def xi:bJ:=⟨36,[[0,1],[1,7],[1,7,8],[4,5,6],[1,7,15],[4,5,6],[1,7,22],[4,5,6],[1,29],[4,5,6],[4,5,6]],[],[]⟩
def RP:List (bG U):=[VZ,UD,Wo,VC]
def qQ:Int × (List bE) × Unit->Option ((at1 × Int × Int × Unit) × Unit):=bK (U:=U) Tryz.prog RP xi 0 Tryz.f36 od
def D1:bG U:=⟨36,od,qQ⟩
def pS:bT τ:=⟨[(false,cd),(false,ii),(false,cd)],[cX]⟩
def Su:bJ:=⟨25,[[0,1,2],[2,7,9],[6]],[],[]⟩
def PP:List (bG U):=[D1]
def vo:Int × (List bE) × Int × Unit->Option ((Bool × Unit) × Unit):=bK (U:=U) Tryz.prog PP Su 0 Tryz.f35 pS
def P2:bG U:=⟨35,pS,vo⟩
def nh:bT τ:=⟨[(false,cd),(false,ii),(false,cd)],[yA,cd,eo]⟩
def DQ:bJ:=⟨97,[[0,1,2],[0,1,2,22],[6,7,8],[0,1,2,9],[0,1,2,9,26],[0,1,2,9],[0,1,2,9,35],[6,7,8],[0,1,2,10],[0,1,2,10,40],[0,1,2,10],[0,1,2,10,51],[6,7,8],[0,1,2,11],[0,1,2,11,12],[0,1,2,11,12,56],[0,1,2,11,12,13],[0,1,2,11,12,13,74],[0,1,2,11,12,13],[0,1,2,11,12,13,14],[0,1,2,11,12,13],[0,1,2,11,12],[6,7,8]],[89],[]⟩
def CA:List (bG U):=[S4,P2,D1]
def Ct (n:Nat):Int × (List bE) × Int × Unit->Option (((List at1) × Int × Int × Unit) × Unit):=bK (U:=U) Tryz.prog CA DQ n Tryz.f20 nh
def tE:=Ct fuel
def KS:bG U:=⟨20,nh,tE⟩
def A4:=lp (tab CA) DQ Tryz.f20 0 nh
def AB (n m:Nat) (a0:Int) (a1:List bE) (a2 x9:Int):Option (((List at1) × Int × Int × Unit) × Unit):=
 A4 n [.r,.r,.l,.r,.l,.at m] [(0,.one (.int .i64 a0)),(1,.one (.sl 77 a1 .ro)),(2,.one (.int .i64 a2)),(9,.one (.int .i64 x9))]
def vN (n m:Nat) (a0:Int) (a1:List bE) (a2 x10:Int):Option (((List at1) × Int × Int × Unit) × Unit):=
 A4 n [.r,.r,.r,.l,.r,.l,.at m] [(0,.one (.int .i64 a0)),(1,.one (.sl 77 a1 .ro)),(2,.one (.int .i64 a2)),(10,.one (.int .i64 x10))]
def sD (n m:Nat) (a0:Int) (a1:List bE) (a2:Int) (x11:List at1) (x12:Int):Option (((List at1) × Int × Int × Unit) × Unit):=
 A4 n [.r,.r,.r,.r,.r,.l,.r,.l,.at m] [(0,.one (.int .i64 a0)),(1,.one (.sl 77 a1 .ro)),(2,.one (.int .i64 a2)),(11,.one (.sl 9 x11 .app)),(12,.one (.int .i64 x12))]
def xk (n m0 m:Nat) (a0:Int) (a1:List bE) (a2:Int) (x11:List at1) (x12 x13:Int):Option (((List at1) × Int × Int × Unit) × Unit):=
 A4 n [.r,.r,.r,.r,.r,.l,.r,.l,.inn m0,.r,.l,.r,.l,.l,.at m] [(0,.one (.int .i64 a0)),(1,.one (.sl 77 a1 .ro)),(2,.one (.int .i64 a2)),(11,.one (.sl 9 x11 .app)),(12,.one (.int .i64 x12)),(13,.one (.int .i64 x13))]
def lZ:bT τ:=⟨[(false,cz)],[cd,eo]⟩
def Vt:bJ:=⟨55,[[0],[0,4],[2,3],[0,10],[2,3],[0,19],[2,3],[0,28],[2,3],[0,37],[2,3],[0,45],[2,3],[51],[2,3],[2,3]],[],[]⟩
def xe:at1 × Unit->Option ((Int × Int × Unit) × Unit):=bK (U:=U) Tryz.prog bU Vt 0 Tryz.f61 lZ
def Qr:bG U:=⟨61,lZ,xe⟩
def Qs:bJ:=⟨16,[[0],[2]],[],[]⟩
def s8:at1 × Unit->Option ((Bool × Unit) × Unit):=bK (U:=U) Tryz.prog bU Qs 0 Tryz.f62 ij
def Ep:bG U:=⟨62,ij,s8⟩
def So:List (bG U):=[Ep]
def Az:at1 × Unit->Option ((at1 × Bool × Unit) × Unit):=bK (U:=U) Tryz.prog So ko 0 Tryz.f63 ei
def N6:bG U:=⟨63,ei,Az⟩
def Ih:bJ:=⟨23,[[0],[0,3],[0,3,4],[0,3,4,12],[0,3,4],[0,3,4],[2]],[],[]⟩
def G7 (n:Nat):at1 × Unit->Option ((Int × Unit) × Unit):=bK (U:=U) Tryz.prog bU Ih n Tryz.f112 jt
def dh:=G7 fuel
def ox:bG U:=⟨112,jt,dh⟩
def ef6:=lp (tab bU) Ih Tryz.f112 0 jt
def xE (n m:Nat) (a0:at1) (x3 x4:Int):Option ((Int × Unit) × Unit):=
 ef6 n [.r,.r,.l,.r,.l,.at m] [(0,.one (.str a0)),(3,.one (.int .i64 x3)),(4,.one (.int .i64 x4))]
def jT:bT τ:=⟨[(false,cz)],[qd,cX]⟩
def OM:bJ:=⟨24,[[0,2],[0,2,6],[2,3],[2,3]],[],[]⟩
def xU:List (bG U):=[ox]
def AL:at1 × Unit->Option ((de × Bool × Unit) × Unit):=bK (U:=U) Tryz.prog xU OM 0 Tryz.f64 jT
def PQ:bG U:=⟨64,jT,AL⟩
def pA:bT τ:=⟨[(false,cz)],[cd,cX]⟩
def Ge:bJ:=⟨20,[[0],[0,4],[0,4,8],[0,4],[0,4,5],[0,4,18],[2,3],[2,3]],[],[]⟩
def ID:List (bG U):=[Dx]
def FD (n:Nat):at1 × Unit->Option ((Int × Bool × Unit) × Unit):=bK (U:=U) Tryz.prog ID Ge n Tryz.f113 pA
def En:=FD fuel
def LQ:bG U:=⟨113,pA,En⟩
def eP0:=lp (tab ID) Ge Tryz.f113 0 pA
def zx (n m:Nat) (a0:at1) (x4:Int):Option ((Int × Bool × Unit) × Unit):=
 eP0 n [.r,.l,.r,.l,.at m] [(0,.one (.str a0)),(4,.one (.int .i64 x4))]
def Iv:bT τ:=⟨[(false,qd),(false,cd),(false,cd),(false,cz),(false,cX)],[fo,eo]⟩
def Xz:bJ:=⟨98,[[1,2,3,4,5,10],[2,4,5,10,12],[2,4,5,10,12,31],[10,12,44],[10,11],[10,11],[2,5,10,12,49],[10,11],[5,10,12,52],[5,10,12],[5,10,12,68],[10,11],[5,10,12,13,14],[5,10,12,13,14],[5,10,12,86],[10,11],[10,12,95],[10,11],[10,11]],[],[]⟩
def SK:List (bG U):=[BC,zJ,LQ,qq]
def yc:de × Int × Int × at1 × Bool × Unit->Option ((bE × Int × Unit) × Unit):=bK (U:=U) Tryz.prog SK Xz 0 Tryz.f65 Iv
def N3:bG U:=⟨65,Iv,yc⟩
def eE:bT τ:=⟨[(false,cz)],[ii,cd,eo]⟩
def IJ:bJ:=⟨82,[[0],[0,5,6],[0,5,6,20],[2,3,4],[0,5,7],[0,5,7,30],[0,7],[0,5,7],[0,5,7,39],[2,3,4],[0,5,7,8],[0,5,7,8,9],[0,5,7,8,9,44],[0,5,7,8,9],[0,5,7,8,9,10],[0,5,7,8,9,12,13],[0,5,7,8,9,12,13,74],[2,3,4],[0,5,7,8,9],[2,3,4]],[77],[]⟩
def Gg:List (bG U):=[Qr,Ep,N6,PQ,N3]
def GJ (n:Nat):at1 × Unit->Option (((List bE) × Int × Int × Unit) × Unit):=bK (U:=U) Tryz.prog Gg IJ n Tryz.f37 eE
def FS:=GJ fuel
def L8:bG U:=⟨37,eE,FS⟩
def eu4:=lp (tab Gg) IJ Tryz.f37 0 eE
def po (n m:Nat) (a0:at1) (x5:Int) (x7:at1) (x8:List bE) (x9:Int):Option (((List bE) × Int × Int × Unit) × Unit):=
 eu4 n [.r,.r,.r,.r,.r,.r,.l,.r,.l,.at m] [(0,.one (.str a0)),(5,.one (.int .i64 x5)),(7,.one (.str x7)),(8,.one (.sl 77 x8 .app)),(9,.one (.int .i64 x9))]
def UB:bJ:=⟨20,[[0,2],[0,2,6],[2,3],[2,3]],[],[]⟩
def AQ:at1 × Unit->Option ((de × Bool × Unit) × Unit):=bK (U:=U) Tryz.prog xU UB 0 Tryz.f67 jT
def VX:bG U:=⟨67,jT,AQ⟩
def DX:bJ:=⟨122,[[0],[0,10],[2,3,4],[0,14],[2,3,4],[0,20],[2,3,4],[0,29],[2,3,4],[0,33],[2,3,4],[0,42],[2,3,4],[0,5],[0,5,6],[0,5,6,7],[0,5,6,7,54],[0,5,6,7],[0,5,6,7,8],[0,5,6,7,8,68],[0,5,7,8,76],[2,3,4],[0,5,6,7,8],[0,5,6,7,8,81],[0,5,6,7],[0,5,6,7,8,89],[2,3,4],[0,5,6,7,8,98],[2,3,4],[0,5,6,7],[0,5,118],[2,3,4],[2,3,4]],[100],[]⟩
def GZ:List (bG U):=[yE,VX,sR,qq]
def E0 (n:Nat):at1 × Unit->Option (((List bE) × Int × Int × Unit) × Unit):=bK (U:=U) Tryz.prog GZ DX n Tryz.f38 eE
def Ex:=E0 fuel
def OE:bG U:=⟨38,eE,Ex⟩
def eu5:=lp (tab GZ) DX Tryz.f38 0 eE
def ou (n m:Nat) (a0:at1) (x5:List bE) (x6:at1) (x7:Int):Option (((List bE) × Int × Int × Unit) × Unit):=
 eu5 n [.r,.r,.r,.r,.l,.r,.l,.at m] [(0,.one (.str a0)),(5,.one (.sl 77 x5 .app)),(6,.one (.str x6)),(7,.one (.int .i64 x7))]
def n9:bT τ:=⟨[(false,cz)],[mw,cd,eo]⟩
def Dq:bJ:=⟨57,[[0],[0,5],[0,5,6],[0,5,6,11],[0,5,6,29],[2,3,4],[0,5,6,7],[0,5,6,7],[0,5,6],[2,3,4]],[36],[]⟩
def H4 (n:Nat):at1 × Unit->Option (((List b8) × Int × Int × Unit) × Unit):=bK (U:=U) Tryz.prog bU Dq n Tryz.f179 n9
def oZ:=H4 fuel
def F5:bG U:=⟨179,n9,oZ⟩
def eY9:=lp (tab bU) Dq Tryz.f179 0 n9
def xh (n m:Nat) (a0:at1) (x5:List b8) (x6:Int):Option (((List b8) × Int × Int × Unit) × Unit):=
 eY9 n [.r,.r,.r,.l,.l,.at m] [(0,.one (.str a0)),(5,.one (.sl 96 x5 .app)),(6,.one (.int .i64 x6))]
def ep:bT τ:=⟨[(false,cz)],[fo,cd,eo]⟩
def OG:bJ:=⟨59,[[0,2],[0,2,10],[2,3,4],[0,2,22],[2,3,4],[0,2,5,6,7],[0,2,5,6,7,32],[2,3,4],[2,3,4]],[],[]⟩
def AM:List (bG U):=[F5,ox]
def zG:at1 × Unit->Option ((bE × Int × Int × Unit) × Unit):=bK (U:=U) Tryz.prog AM OG 0 Tryz.f117 ep
def Nb:bG U:=⟨117,ep,zG⟩
def GF:bJ:=⟨97,[[0,2],[0,2,13],[2,3,4],[0,2,25],[2,3,4],[0,2,5],[0,2,5,31],[2,3,4],[0,2,5,38],[2,3,4],[0,2,5,6],[0,2,5,6,7],[0,2,5,6,7,49],[0,2,5,6,7],[0,2,5,6,7],[2,5,6,8,9,10],[2,5,6,8,9,10,86],[2,3,4],[2,6],[2,3,4]],[53],[]⟩
def Cs:List (bG U):=[ox,F5]
def Jm (n:Nat):at1 × Unit->Option ((bE × Int × Int × Unit) × Unit):=bK (U:=U) Tryz.prog Cs GF n Tryz.f118 ep
def Cy:=Jm fuel
def QP:bG U:=⟨118,ep,Cy⟩
def eZ0:=lp (tab Cs) GF Tryz.f118 0 ep
def yS (n m:Nat) (a0:at1) (x5 x6_15:Int) (x6_21:List eB) (x7:Int):Option ((bE × Int × Int × Unit) × Unit):=
 eZ0 n [.r,.r,.r,.r,.r,.r,.r,.l,.r,.l,.at m] [(0,.one (.str a0)),(2,.box [.int .i64 0,.int .i64 0,.int .i64 0,.str ([]:at1),.int .i64 0,.int .i64 0,.str ([]:at1),.int .i64 0,.int .i64 0,.str ([]:at1),.int .i64 0,.str ([]:at1),.int .i64 0,.int .i64 0,.int .i64 0,.int .i64 0,.int .i64 0,.int .i64 0,.int .i64 0,.str ([]:at1),.str ([]:at1),.sl 94 [] .app,.int .i64 0,.str ([]:at1),.sl 96 [] .app]),(5,.one (.int .i64 x5)),(6,.box [.int .i64 5,.int .i64 0,.int .i64 0,.str ([]:at1),.int .i64 0,.int .i64 0,.str ([]:at1),.int .i64 0,.int .i64 0,.str ([]:at1),.int .i64 0,.str ([]:at1),.int .i64 0,.int .i64 0,.int .i64 0,.int .i64 x6_15,.int .i64 0,.int .i64 0,.int .i64 0,.str ([]:at1),.str ([]:at1),.sl 94 x6_21 .app,.int .i64 0,.str ([]:at1),.sl 96 [] .app]),(7,.one (.int .i64 x7))]
def RY:bJ:=⟨88,[[0,2],[0,2,5],[0,2,5,16],[0,2,5],[0,2,5,20],[2,3,4],[0,2,5,45],[2,3,4],[0,2,5,6,7,8],[0,2,5,6,7,8,56],[2,3,4],[0,2,6,63],[2,3,4],[2,3,4]],[],[]⟩
def z6:at1 × Unit->Option ((bE × Int × Int × Unit) × Unit):=bK (U:=U) Tryz.prog AM RY 0 Tryz.f119 ep
def QD:bG U:=⟨119,ep,z6⟩
def AJ:bJ:=⟨26,[[0,2],[0,2,6],[0,2,6,7],[2,3,4],[0,2,14],[2,3,4],[2,3,4]],[],[]⟩
def U4:List (bG U):=[Nb,QP,QD]
def yY:at1 × Unit->Option ((bE × Int × Int × Unit) × Unit):=bK (U:=U) Tryz.prog U4 AJ 0 Tryz.f70 ep
def Wq:bG U:=⟨70,ep,yY⟩
def wZ:bJ:=⟨37,[[0],[0,8],[2,3,4],[0,12],[2,3,4],[0,16],[2,3,4],[5,6,7],[5,6,7,32],[2,3,4],[2,3,4]],[],[]⟩
def Qe:List (bG U):=[Wq]
def Ac:at1 × Unit->Option (((List bE) × Int × Int × Unit) × Unit):=bK (U:=U) Tryz.prog Qe wZ 0 Tryz.f39 eE
def QM:bG U:=⟨39,eE,Ac⟩
def qJ:bT τ:=⟨[(false,cz)],[cz,cd,eo]⟩
def WY:bJ:=⟨43,[[0],[0,6],[2,3,4],[0,10],[2,3,4],[0,16],[2,3,4],[0,20],[2,3,4],[0,5],[0,5,36],[2,3,4],[2,3,4]],[],[]⟩
def t9:at1 × Unit->Option ((at1 × Int × Int × Unit) × Unit):=bK (U:=U) Tryz.prog bU WY 0 Tryz.f71 qJ
def F1:bG U:=⟨71,qJ,t9⟩
def mQ:bT τ:=⟨[(false,cz),(false,cd)],[Ww,cd,eo]⟩
def Ck:bJ:=⟨77,[[0,1],[0,1,7],[0,1,7,8],[0,1,7,8,13],[0,1,7,8,17],[0,1,7,8],[0,1,7,8],[0,1,7,8,44],[4,5,6],[0,1,7,8,9],[0,1,7,8,9],[0,1,7,8],[4,5,6]],[18,53],[]⟩
def Em (n:Nat):at1 × Int × Unit->Option (((List cy) × Int × Int × Unit) × Unit):=bK (U:=U) Tryz.prog bU Ck n Tryz.f72 mQ
def oh:=Em fuel
def Dy:bG U:=⟨72,mQ,oh⟩
def eu6:=lp (tab bU) Ck Tryz.f72 0 mQ
def ta (n m:Nat) (a0:at1) (a1:Int) (x7:List cy) (x8:Int):Option (((List cy) × Int × Int × Unit) × Unit):=
 eu6 n [.r,.r,.r,.l,.l,.at m] [(0,.one (.str a0)),(1,.one (.int .i64 a1)),(7,.one (.sl 149 x7 .app)),(8,.one (.int .i64 x8))]
def Nu:bJ:=⟨17,[[0],[0,3],[2]],[],[]⟩
def OH:List (bG U):=[F1]
def wd:at1 × Unit->Option ((at1 × Unit) × Unit):=bK (U:=U) Tryz.prog OH Nu 0 Tryz.f73 jV
def RX:bG U:=⟨73,jV,wd⟩
def mW:bT τ:=⟨[(false,cz)],[mw,cX,eo]⟩
def CR:bJ:=⟨68,[[0],[5,7],[5,7,18],[2,3,4],[5,8],[5,8,9],[5,8,9,10],[5,8,9,10,23],[5,8,9,10],[5,8,9,10,39],[5,8,9,10],[5,8,9,10],[8,9,65],[2,3,4],[2,3,4]],[40],[]⟩
def CE:List (bG U):=[Dy,Ey]
def FB (n:Nat):at1 × Unit->Option (((List b8) × Bool × Int × Unit) × Unit):=bK (U:=U) Tryz.prog CE CR n Tryz.f238 mW
def iw:=FB fuel
def tU:bG U:=⟨238,mW,iw⟩
def Yd:=lp (tab CE) CR Tryz.f238 0 mW
def j0 (n m:Nat) (r1:((List cy) × Int × Int × Unit) × Unit) (x8:List b8) (x9:Bool) (x10:Int):Option (((List b8) × Bool × Int × Unit) × Unit):=
 Yd n [.r,.r,.r,.r,.r,.l,.r,.l,.at m] [(5,.one (.sl 149 r1.1.1 .ro)),(8,.one (.sl 96 x8 .app)),(9,.one (.bool x9)),(10,.one (.int .i64 x10))]
def qS:bT τ:=⟨[(false,cz),(false,cd)],[cX,eo]⟩
def BD:bJ:=⟨23,[[0,1],[0,1,12],[4,5],[7,8],[4,5]],[],[]⟩
def Oi:List (bG U):=[tU]
def uu:at1 × Int × Unit->Option ((Bool × Int × Unit) × Unit):=bK (U:=U) Tryz.prog Oi BD 0 Tryz.f233 qS
def B4:bG U:=⟨233,qS,uu⟩
def sv:bJ:=⟨7,[[0],[2]],[],[]⟩
def pu:Int × Unit->Option ((Int × Unit) × Unit):=bK (U:=U) Tryz.prog bU sv 0 Tryz.f236 fP
def Ds:bG U:=⟨236,fP,pu⟩
def XL:bJ:=⟨10,[[0],[0,6],[2,3],[2,3]],[],[]⟩
def oz:at1 × Unit->Option ((at1 × Bool × Unit) × Unit):=bK (U:=U) Tryz.prog wx XL 0 Tryz.f237 ei
def yo:bG U:=⟨237,ei,oz⟩
def Eo:bT τ:=⟨[(false,nO),(false,cz)],[nO,eo]⟩
def KU:bJ:=⟨58,[[1,2,4],[1,2,4,13],[4,5],[1,2,4,6],[1,2,4,6,23],[4,5],[1,2,4,6,7],[1,2,4,6,7,8,9],[1,2,4,6,7,9,39],[4,5],[2,4,6,10],[2,4,6,10,46],[2,4,6,10],[2,4],[4,5]],[],[]⟩
def OP:List (bG U):=[Ds,B4,yo,s0]
def zI:bQ × at1 × Unit->Option ((bQ × Int × Unit) × Unit):=bK (U:=U) Tryz.prog OP KU 0 Tryz.f234 Eo
def VW:bG U:=⟨234,Eo,zI⟩
def NZ:bJ:=⟨24,[[0,1],[1,5],[1,5,6],[4],[1,5,10],[4],[1,14],[4],[4]],[],[]⟩
def qe:Int × Int × Unit->Option ((Bool × Unit) × Unit):=bK (U:=U) Tryz.prog bU NZ 0 Tryz.f239 li
def FA:bG U:=⟨239,li,qe⟩
def o0:bT τ:=⟨[(false,nF)],[tx,cX,eo]⟩
def Ra:bJ:=⟨91,[[1,2],[2,5],[2,5,15],[2,3,4],[2,5,6],[2,5,6,41],[2,3,4],[2,5,6,47],[2,3,4],[2,5,6,7],[2,5,6,7,60],[2,3,4],[2,5,6,7,66],[2,3,4],[2,5,6,7,8,9,10],[2,5,6,7,8,9,10,78],[2,3,4],[2,6,9],[2,6,88],[2,6],[2,3,4]],[],[]⟩
def N5:List (bG U):=[ox,FA,Ag,rc,tU]
def vO:cy × Unit->Option ((eg × Bool × Int × Unit) × Unit):=bK (U:=U) Tryz.prog N5 Ra 0 Tryz.f274 o0
def TQ:bG U:=⟨274,o0,vO⟩
def IB:bJ:=⟨12,[[0,1],[0,1,8],[0,1],[4]],[],[]⟩
def CP (n:Nat):at1 × Int × Unit->Option ((at1 × Unit) × Unit):=bK (U:=U) Tryz.prog bU IB n Tryz.f276 gd
def uT:=CP fuel
def Vh:bG U:=⟨276,gd,uT⟩
def eP1:=lp (tab bU) IB Tryz.f276 0 gd
def AZ (n m:Nat) (a1:Int) (x0:at1):Option ((at1 × Unit) × Unit):=
 eP1 n [.r,.l,.l,.at m] [(0,.one (.str x0)),(1,.one (.int .i64 a1))]
def sd:bT τ:=⟨[(false,cd),(false,cz),(false,cd)],[cz]⟩
def L6:bJ:=⟨33,[[0,1,2],[1,2,9],[1,2,9,10],[6],[1,2,9,16],[6],[1,2,22],[2,7],[6],[6]],[],[]⟩
def UQ:List (bG U):=[Vh,yV,yo]
def oX:Int × at1 × Int × Unit->Option ((at1 × Unit) × Unit):=bK (U:=U) Tryz.prog UQ L6 0 Tryz.f241 sd
def Eg:bG U:=⟨241,sd,oX⟩
def Gt:bT τ:=⟨[(false,nO),(false,tx),(false,cz)],[fo,cX]⟩
def VR:bJ:=⟨51,[[2,3,4,6],[3,4,6,8],[3,4,6,8,25],[6,7],[3,4,6,8,29],[6,7],[3,4,6,8,38],[6,7],[6,8],[6,7]],[],[]⟩
def Tb:List (bG U):=[s0]
def eL:bQ × eg × at1 × Unit->Option ((bE × Bool × Unit) × Unit):=bK (U:=U) Tryz.prog Tb VR 0 Tryz.f275 Gt
def KQ:bG U:=⟨275,Gt,eL⟩
def iQ:bT τ:=⟨[(false,nO),(false,nF)],[nO,ii,eo]⟩
def Qk:bJ:=⟨109,[[2,3,4],[2,4,7,8,9],[2,4,7,9,26],[4,5,6],[2,4,7,10],[2,4,7,10,31],[2,4,7,11],[2,4,7,11,38],[4,5,6],[2,4,7,10],[2,4,7,12],[2,4,7,12,64],[2,4,7,12],[2,4,7,12,79],[2,4,7,12],[2,4,7,12,84],[2,4,7,12],[2,4,7,12],[2,4,13,14],[2,4,13,104],[4,5,6],[4,5,6]],[],[]⟩
def R7:List (bG U):=[TQ,rc,Eg,KQ]
def zH:bQ × cy × Unit->Option ((bQ × (List bE) × Int × Unit) × Unit):=bK (U:=U) Tryz.prog R7 Qk 0 Tryz.f235 iQ
def NE:bG U:=⟨235,iQ,zH⟩
def Kd:bJ:=⟨49,[[2,3,4],[2,3,4,12],[2,3,4,12,13],[2,3,4,7,8],[2,3,4,8,25],[2,4,8],[4,5,6],[2,3,4,32],[4,9,10],[4,5,6],[4,5,6]],[],[]⟩
def Mw:List (bG U):=[B4,VW,NE]
def sB:bQ × cy × Unit->Option ((bQ × (List bE) × Int × Unit) × Unit):=bK (U:=U) Tryz.prog Mw Kd 0 Tryz.f180 iQ
def JP:bG U:=⟨180,iQ,sB⟩
def jY:bT τ:=⟨[(false,nF)],[fo,cX,eo]⟩
def Tz:bJ:=⟨108,[[1,2],[1,2,5],[1,2,5,6],[1,2,5,6,15],[1,2,5,6],[1,2,5,6,19],[2,3,4],[1,2,5,6,7],[2,5,6,7,23],[2,5,7],[2,5,7,36],[2,3,4],[2,5,6,7],[2,5,6,7,45],[2,3,4],[2,5,6,7],[2,5,6,7,53],[2,5,6,7],[2,5,6,7,23,61],[2,5,6,7],[2,5,6,7,23,70],[2,5,6,7],[2,5,6,7,76],[2,5,6,7],[2,7,8,9,10],[2,7,8,10,102],[2,3,4],[2,7],[2,3,4]],[],[]⟩
def Nj:List (bG U):=[ox,tU,Ds,yo]
def oK:cy × Unit->Option ((bE × Bool × Int × Unit) × Unit):=bK (U:=U) Tryz.prog Nj Tz 0 Tryz.f181 jY
def XC:bG U:=⟨181,jY,oK⟩
def SG:bJ:=⟨104,[[1,2],[1,2,5],[1,2,5,6],[1,2,5,6,18],[1,2,5,6],[1,2,5,6,22],[2,3,4],[1,2,5,6,7,8],[1,2,5,6,7,8,31],[2,3,4],[1,2,5,6,7,8,35],[2,3,4],[1,2,5,6,7,8,9],[1,2,5,6,7,8,9,47],[2,3,4],[1,2,5,6,7,8,9,10,11,12],[1,2,5,6,7,8,9,10,12,64],[2,3,4],[1,2,5,7,13],[2,5,7,13,82],[2,7,13],[2,13,101],[2,3,4],[2,3,4]],[],[]⟩
def Tn:List (bG U):=[FA,Ag,rc,tU,Eg,ox]
def up:cy × Unit->Option ((bE × Bool × Int × Unit) × Unit):=bK (U:=U) Tryz.prog Tn SG 0 Tryz.f182 jY
def RW:bG U:=⟨182,jY,up⟩
def vP:bJ:=⟨62,[[2,3,4],[2,3,4,7],[2,3,4,7],[2,3,4,7,9],[2,3,4,7,9,11],[2,4,7,8,9],[2,3,4,7,9,11,17],[2,3,4,7,9,11,17],[4,5,6],[2,3,4,7,9,11,21],[2,3,4,7,9,11,21],[2,3,4,7,9,11,21],[4,5,6],[2,3,4,7,9,11,31],[2,3,4,7,9,11,31],[2,3,4,7,9,11,31],[2,3,4,7,9,11,31],[2,4,7,8,9],[2,3,4,7,9,11,42],[2,3,4,7,9,42],[2,4,7,8,9],[2,4,7,9,56],[4,5,6],[4,5,6]],[],[999999]⟩
def Mp:List (bG U):=[JP,XC,RW]
def BM:bQ × cy × Unit->Option ((bQ × (List bE) × Int × Unit) × Unit):=bK (U:=U) Tryz.prog Mp vP 0 Tryz.f120 iQ
def KP:bG U:=⟨120,iQ,BM⟩
def nP:bT τ:=⟨[(false,Ww)],[ii,nO,cd,eo]⟩
def DN:bJ:=⟨43,[[0,3],[0,3,6],[0,3,6,7],[0,3,6,7,8],[0,3,6,7,8,15],[0,3,6,7,8],[0,3,6,7,8,9,10,11],[0,3,6,7,8,9,10,11,29],[2,3,4,5],[0,3,6,7,8,10],[0,3,6,7,8],[2,3,4,5]],[38],[]⟩
def G3:List (bG U):=[KP]
def Cj (n:Nat):(List cy) × Unit->Option (((List bE) × bQ × Int × Int × Unit) × Unit):=bK (U:=U) Tryz.prog G3 DN n Tryz.f74 nP
def AR:=Cj fuel
def MW:bG U:=⟨74,nP,AR⟩
def eP2:=lp (tab G3) DN Tryz.f74 0 nP
def vX (n m:Nat) (a0:List cy) (x6:List bE) (x7_0 x7_1 x7_2 x7_3 x7_4 x7_5 x7_6:at1) (x8:Int):Option (((List bE) × bQ × Int × Int × Unit) × Unit):=
 eP2 n [.r,.r,.r,.l,.r,.l,.at m] [(0,.one (.sl 149 a0 .ro)),(3,.box [.str ([]:at1),.str ([]:at1),.str ([]:at1),.str ([]:at1),.str ([]:at1),.str ([]:at1),.str ([]:at1)]),(6,.one (.sl 77 x6 .app)),(7,.box [.str x7_0,.str x7_1,.str x7_2,.str x7_3,.str x7_4,.str x7_5,.str x7_6]),(8,.one (.int .i64 x8))]
def yI:bJ:=⟨55,[[0],[0,5,6,7],[0,5,6,7,18],[2,3,4],[0,5,6,7,8],[0,5,6,7,8,28],[2,3,4],[6,7,8],[6,7,8,42],[2,3,4],[6,7,9],[2,3,4]],[],[]⟩
def U7:List (bG U):=[F1,Dy,RX,MW]
def xS:at1 × Unit->Option (((List bE) × Int × Int × Unit) × Unit):=bK (U:=U) Tryz.prog U7 yI 0 Tryz.f40 eE
def R4:bG U:=⟨40,eE,xS⟩
def mU:bT τ:=⟨[(false,cd),(false,cz)],[ii,cd,eo]⟩
def J9:List (bG U):=[L8,OE,QM,R4]
def rQ:Int × at1 × Unit->Option (((List bE) × Int × Int × Unit) × Unit):=bK (U:=U) Tryz.prog J9 xi 0 Tryz.f21 mU
def Kt:bG U:=⟨21,mU,rQ⟩
def vS:bT τ:=⟨[(false,Df),(false,cd)],[dN3,fS9]⟩
def Cg:bJ:=⟨118,[[0,1,5],[0,1,5,6],[0,1,5,6,7],[0,1,5,6,7,8],[0,1,5,6,7,8,15],[0,1,5,6,7,8],[0,1,5,6,7,8,24],[0,1,5,6,7,8],[0,1,5,6,7,8,9],[0,1,5,6,7,8,9,10],[0,1,5,6,7,8,9,10,39],[0,1,5,6,7,8,9],[0,1,5,6,7,8,9,10],[0,1,5,6,7,8,9,10,11],[0,1,5,6,7,8,9,10,11,67],[0,1,5,6,7,8,9,10,11],[0,1,5,6,7,8,9,10,11],[0,1,5,6,7,8,9,10],[0,1,5,6,7,8,9,10],[0,1,5,6,7,8,9,10],[0,1,5,6,7,8,10,106],[0,1,5,6,7,8],[0,1,5,6,7,8],[4,5]],[25,96],[999999]⟩
def Gn:List (bG U):=[KS,Kt]
def Hq (n:Nat):(List da) × Int × Unit->Option (((List dF) × mL × Unit) × Unit):=bK (U:=U) Tryz.prog Gn Cg n Tryz.f9 vS
def FJ:=Hq fuel
def Rg:bG U:=⟨9,vS,FJ⟩
def To:=lp (tab Gn) Cg Tryz.f9 0 vS
def i6 (n m:Nat) (a0:List da) (a1:Int) (x6:List dF) (x7_0 x7_1 x7_2 x8:Int):Option (((List dF) × mL × Unit) × Unit):=
 To n [.r,.r,.r,.l,.r,.l,.at m] [(0,.one (.sl 39 a0 .ro)),(1,.one (.int .i64 a1)),(5,.box [.int .i64 0,.int .i64 0,.int .i64 0]),(6,.one (.sl 36 x6 .app)),(7,.box [.int .i64 x7_0,.int .i64 x7_1,.int .i64 x7_2]),(8,.one (.int .i64 x8))]
def sI (n m0 m:Nat) (a0:List da) (a1:Int) (x6:List dF) (x7_0 x7_1 x7_2 x8:Int) (x9_1:List at1) (x9_2 x9_3 x10 x11:Int):Option (((List dF) × mL × Unit) × Unit):=
 To n [.r,.r,.r,.l,.r,.l,.inn m0,.r,.l,.l,.r,.r,.r,.l,.r,.l,.r,.r,.r,.l,.at m] [(0,.one (.sl 39 a0 .ro)),(1,.one (.int .i64 a1)),(5,.box [.int .i64 0,.int .i64 0,.int .i64 0]),(6,.one (.sl 36 x6 .app)),(7,.box [.int .i64 x7_0,.int .i64 x7_1,.int .i64 x7_2]),(8,.one (.int .i64 x8)),(9,.box [.sl 77 [] .app,.sl 9 x9_1 .ro,.int .i64 x9_2,.int .i64 x9_3]),(10,.one (.int .i64 x10)),(11,.one (.int .i64 x11))]
def Uj:bT τ:=⟨[(true,UP),(false,cX),(false,cX)],[cX]⟩
def vK:gR × Bool × Bool × Unit->Option ((Bool × Unit) × (gR × Unit)):=Gl
def EC:bG U:=⟨22,Uj,vK⟩
def Fn:bT τ:=⟨[(true,rP)],[cX]⟩
def UI:bJ:=⟨7,[[0],[2]],[],[999999]⟩
def UV:List (bG U):=[EC]
def zw:dM × Unit->Option ((Bool × Unit) × (dM × Unit)):=bK (U:=U) Tryz.prog UV UI 0 Tryz.f10 Fn
def Qy:bG U:=⟨10,Fn,zw⟩
def SF:bT τ:=⟨[(true,UP)],[cX]⟩
def zh:gR × Unit->Option ((Bool × Unit) × (gR × Unit)):=Qb
def Bm:bG U:=⟨28,SF,zh⟩
def Cb:bT τ:=⟨[(false,fo)],[fe2]⟩
def Wu:bJ:=⟨50,[[1,2],[2]],[],[]⟩
def Gz:bE × Unit->Option ((Cl × Unit) × Unit):=bK (U:=U) Tryz.prog bU Wu 0 Tryz.f183 Cb
def NM:bG U:=⟨183,Cb,Gz⟩
def VJ:bJ:=⟨116,[[1],[1,3],[1,3,4,5],[1,3,4,5,13],[2],[1,3,4,5,13,14],[1,3,4,5,13,14],[1,3,4],[1,3,4,25],[1,3,4],[1,3,4,5],[1,3,4,5,13,33],[1,3,4,5],[1,3,4,5,13,42],[1,3,4,5],[1,3,4,5,13,51],[1,3,4,5],[1,3,4,5,13,54],[1,3,4,5,13,56],[1,3,4,5],[1,3,4,5,13,60],[1,3,4,5],[1,3,4,5,13,63],[1,3,4,5],[1,3,4,5,13,68],[1,3,4,5],[1,3,4,5,13,74],[1,3,4,5],[1,3,4,5,13,84],[1,3,4,5],[1,3,4,5,13,89],[1,3,4,5],[1,3,4,97],[1,3,4],[1,3,4,5],[2]],[],[]⟩
def Lg:List (bG U):=[NM]
def jL:bE × Unit->Option ((Bool × Unit) × Unit):=bK (U:=U) Tryz.prog Lg VJ 0 Tryz.f121 co
def mq:bG U:=⟨121,co,jL⟩
def nr:bJ:=⟨6,[[0],[2]],[],[]⟩
def wE:at1 × Unit->Option ((Bool × Unit) × Unit):=bK (U:=U) Tryz.prog bU nr 0 Tryz.f122 ij
def Tr:bG U:=⟨122,ij,wE⟩
def Gr:bJ:=⟨15,[[0],[6,7,8],[6,7,8,9],[4,6,7,8],[6,7,8,13],[2],[6,7,8],[2]],[],[]⟩
def D4 (n:Nat):at1 × Unit->Option ((Bool × Unit) × Unit):=bK (U:=U) Tryz.prog bU Gr n Tryz.f123 ij
def eK:=D4 fuel
def v9:bG U:=⟨123,ij,eK⟩
def eP3:=lp (tab bU) Gr Tryz.f123 0 ij
def yG (n m:Nat) (a0:at1) (x8:Int):Option ((Bool × Unit) × Unit):=
 eP3 n [.r,.l,.r,.l,.at m] [(6,.one (.bs 5 a0 .app)),(7,.one (.int .i64 (a0.length:Int))),(8,.one (.int .i64 x8))]
def R0:bJ:=⟨23,[[0,1],[4]],[],[]⟩
def dp:Int × Int × Unit->Option ((Bool × Unit) × Unit):=bK (U:=U) Tryz.prog bU R0 0 Tryz.f124 li
def ln:bG U:=⟨124,li,dp⟩
def LN:bJ:=⟨40,[[0,1],[0,1,11],[4],[0,1,5],[0,1,5,17],[4],[0,1,5,6],[0,1,5,6],[5],[4]],[],[]⟩
def lc:at1 × Int × Unit->Option ((at1 × Unit) × Unit):=bK (U:=U) Tryz.prog bU LN 0 Tryz.f242 gd
def vg:bG U:=⟨242,gd,lc⟩
def S8:List (bG U):=[vg]
def ru:at1 × Int × Unit->Option ((Bool × Unit) × Unit):=bK (U:=U) Tryz.prog S8 sn 0 Tryz.f184 iK
def Is:bG U:=⟨184,iK,ru⟩
def Qj:bJ:=⟨29,[[0,1],[0,1,5],[4]],[],[]⟩
def LL:List (bG U):=[Is]
def ic:at1 × Int × Unit->Option ((Bool × Unit) × Unit):=bK (U:=U) Tryz.prog LL Qj 0 Tryz.f125 iK
def ur:bG U:=⟨125,iK,ic⟩
def Ki:bJ:=⟨129,[[1],[1,3],[2],[1,24],[2],[1,43],[2],[1,58],[2],[1,88],[2],[1,102],[2],[2]],[],[]⟩
def Rr:List (bG U):=[mq,Tr,v9,ln,ur]
def rX:bE × Unit->Option ((Bool × Unit) × Unit):=bK (U:=U) Tryz.prog Rr Ki 0 Tryz.f75 co
def xy:bG U:=⟨75,co,rX⟩
def iT:Int × Unit->Option ((at1 × Unit) × Unit):=bK (U:=U) Tryz.prog bU sv 0 Tryz.f133 jS
def oT:bG U:=⟨133,jS,iT⟩
def rl:bT τ:=⟨[(false,cz),(false,cz)],[cX]⟩
def UJ:bJ:=⟨18,[[0,1],[4]],[],[]⟩
def BT:at1 × at1 × Unit->Option ((Bool × Unit) × Unit):=bK (U:=U) Tryz.prog bU UJ 0 Tryz.f247 rl
def NB:bG U:=⟨247,rl,BT⟩
def OC:bJ:=⟨8,[[0,1],[4]],[],[]⟩
def vD:List (bG U):=[NB]
def Bt:at1 × at1 × Unit->Option ((Bool × Unit) × Unit):=bK (U:=U) Tryz.prog vD OC 0 Tryz.f192 rl
def Wp:bG U:=⟨192,rl,Bt⟩
def Wj:List (bG U):=[Wp]
def lF:at1 × Unit->Option ((Bool × Unit) × Unit):=bK (U:=U) Tryz.prog Wj qk 0 Tryz.f134 ij
def sy:bG U:=⟨134,ij,lF⟩
def Kj:bJ:=⟨60,[[1],[1,3],[2],[1,28],[2],[2]],[],[]⟩
def OB:List (bG U):=[mq,ln,ur,oT,sy]
def uc:bE × Unit->Option ((Bool × Unit) × Unit):=bK (U:=U) Tryz.prog OB Kj 0 Tryz.f78 co
def DC:bG U:=⟨78,co,uc⟩
def B8:bJ:=⟨32,[[0,1,2],[1,2,9,10,11],[1,2,9,10,11,12],[1,2,8,9,10,11],[1,2,9,10,11,30],[6],[1,2,9,10,11],[6]],[],[]⟩
def Jd (n:Nat):(List b8) × Int × Int × Unit->Option ((Bool × Unit) × Unit):=bK (U:=U) Tryz.prog bU B8 n Tryz.f249 nW
def wV:=Jd fuel
def Io:bG U:=⟨249,nW,wV⟩
def fe3:=lp (tab bU) B8 Tryz.f249 0 nW
def xB (n m:Nat) (a1 a2:Int) (a0:List b8) (x11:Int):Option ((Bool × Unit) × Unit):=
 fe3 n [.r,.l,.r,.l,.at m] [(1,.one (.int .i64 a1)),(2,.one (.int .i64 a2)),(9,.one (.sl 96 a0 .ro)),(10,.one (.int .i64 (a0.length:Int))),(11,.one (.int .i64 x11))]
def MD:List (bG U):=[Io]
def oY:(List b8) × Unit->Option ((Bool × Unit) × Unit):=bK (U:=U) Tryz.prog MD mI 0 Tryz.f195 j8
def zO:bG U:=⟨195,j8,oY⟩
def De:bJ:=⟨59,[[1],[1,34],[2],[1,41,42,43],[1,41,42,43,44],[1,4,41,42,43],[1,41,42,43,49],[2],[1,41,42,43],[2]],[],[]⟩
def qr:List (bG U):=[mq,ln,zO]
def EM (n:Nat):bE × Unit->Option ((Bool × Unit) × Unit):=bK (U:=U) Tryz.prog qr De n Tryz.f139 co
def Bi:=EM fuel
def GS:bG U:=⟨139,co,Bi⟩
def Z2:=lp (tab qr) De Tryz.f139 0 co
def vE (n m:Nat) (a0:bE) (x41:List Int) (x42 x43:Int):Option ((Bool × Unit) × Unit):=
 Z2 n [.r,.r,.l,.r,.l,.at m] [(1,.box [.int .i64 a0.kind,.int .i64 a0.cmd,.int .i64 a0.ver,.str a0.aC,.int .i64 a0.family,.int .i64 a0.ae,.str a0.ah,.int .i64 a0.af,.int .i64 a0.tag,.str a0.next,.int .i64 a0.aj,.str a0.id,.int .i64 a0.seq,.int .i64 a0.seq2,.int .i64 a0.aw,.int .i64 a0.flags,.int .i64 a0.hops,.int .i64 a0.aB,.int .i64 a0.cost,.str a0.addr,.str a0.aD,.sl 94 a0.list .ro,.int .i64 a0.aA,.str a0.data,.sl 96 a0.subs .ro]),(41,.one (.sl 3 x41 .app)),(42,.one (.int .i64 x42)),(43,.one (.int .i64 x43))]
def Xe:bJ:=⟨63,[[1],[1,11],[2],[1,13],[1,13,14],[2],[1,16],[2],[2]],[],[]⟩
def MJ:List (bG U):=[mq,zO,ln]
def vh:bE × Unit->Option ((Bool × Unit) × Unit):=bK (U:=U) Tryz.prog MJ Xe 0 Tryz.f140 co
def Dt:bG U:=⟨140,co,vh⟩
def D3:bJ:=⟨56,[[1],[1,34],[2],[1,36,37,38],[1,36,37,38,39],[1,4,36,37,38],[1,36,37,38,51],[2],[1,36,37,38],[2]],[],[]⟩
def I2 (n:Nat):bE × Unit->Option ((Bool × Unit) × Unit):=bK (U:=U) Tryz.prog qr D3 n Tryz.f141 co
def AG:=I2 fuel
def Gk:bG U:=⟨141,co,AG⟩
def eP5:=lp (tab qr) D3 Tryz.f141 0 co
def rM (n m:Nat) (a0:bE) (x38:Int):Option ((Bool × Unit) × Unit):=
 eP5 n [.r,.r,.l,.r,.l,.at m] [(1,.box [.int .i64 a0.kind,.int .i64 a0.cmd,.int .i64 a0.ver,.str a0.aC,.int .i64 a0.family,.int .i64 a0.ae,.str a0.ah,.int .i64 a0.af,.int .i64 a0.tag,.str a0.next,.int .i64 a0.aj,.str a0.id,.int .i64 a0.seq,.int .i64 a0.seq2,.int .i64 a0.aw,.int .i64 a0.flags,.int .i64 a0.hops,.int .i64 a0.aB,.int .i64 a0.cost,.str a0.addr,.str a0.aD,.sl 94 a0.list .ro,.int .i64 a0.aA,.str a0.data,.sl 96 a0.subs .ro]),(36,.one (.sl 94 a0.list .ro)),(37,.one (.int .i64 (a0.list.length:Int))),(38,.one (.int .i64 x38))]
def Tf:List (bG U):=[GS,Dt,Gk]
def tf:bE × Unit->Option ((Bool × Unit) × Unit):=bK (U:=U) Tryz.prog Tf wD 0 Tryz.f81 co
def CX:bG U:=⟨81,co,tf⟩
def CT:bJ:=⟨20,[[0],[0,3],[3,6,7,8],[3,6,7,8,9],[3,5,6,7,8],[3,6,7,8],[3,6,7,8],[2]],[],[]⟩
def Fh (n:Nat):(List b8) × Unit->Option ((Int × Unit) × Unit):=bK (U:=U) Tryz.prog bU CT n Tryz.f252 mM
def sQ:=Fh fuel
def wz:bG U:=⟨252,mM,sQ⟩
def Zi:=lp (tab bU) CT Tryz.f252 0 mM
def wv (n m:Nat) (a0:List b8) (x3 x8:Int):Option ((Int × Unit) × Unit):=
 Zi n [.r,.r,.l,.r,.l,.at m] [(3,.one (.int .i64 x3)),(6,.one (.sl 96 a0 .ro)),(7,.one (.int .i64 (a0.length:Int))),(8,.one (.int .i64 x8))]
def N0:List (bG U):=[Io,wz]
def pI:(List b8) × Unit->Option ((Bool × Unit) × Unit):=bK (U:=U) Tryz.prog N0 qk 0 Tryz.f202 j8
def tH:bG U:=⟨202,j8,pI⟩
def HH:bT τ:=⟨[],[Z3]⟩
def ND:bJ:=⟨6,[[0],[0]],[],[]⟩
def oC:Unit->Option ((Es × Unit) × Unit):=bK (U:=U) Tryz.prog bU ND 0 Tryz.f253 HH
def tn:bG U:=⟨253,HH,oC⟩
def LO:bJ:=⟨47,[[0,1,2],[0,1,2,13],[6],[0,1,2,7],[6]],[],[]⟩
def OR:List (bG U):=[tn,Is,sy]
def sW:Int × at1 × Int × Unit->Option ((Bool × Unit) × Unit):=bK (U:=U) Tryz.prog OR LO 0 Tryz.f203 qh
def E5:bG U:=⟨203,qh,sW⟩
def Xk:bJ:=⟨9,[[0],[4],[4,5],[2],[7],[2],[2]],[],[]⟩
def rb:at1 × Unit->Option ((Int × Unit) × Unit):=bK (U:=U) Tryz.prog bU Xk 0 Tryz.f205 jt
def Ce:bG U:=⟨205,jt,rb⟩
def QH:bJ:=⟨9,[[0],[3],[3,4],[2],[3,6],[6],[2],[2]],[],[]⟩
def nj:Int × Unit->Option ((Int × Unit) × Unit):=bK (U:=U) Tryz.prog bU QH 0 Tryz.f206 fP
def vu:bG U:=⟨206,fP,nj⟩
def Gf:bT τ:=⟨[(false,cz),(false,cX)],[cX]⟩
def zW:at1 × Bool × Unit->Option ((Bool × Unit) × Unit):=bK (U:=U) Tryz.prog bU sn 0 Tryz.f204 Gf
def Oj:bG U:=⟨204,Gf,zW⟩
def PI:bJ:=⟨76,[[1],[1,3],[2],[1,28],[2],[1,45],[2],[2]],[],[]⟩
def Ut:List (bG U):=[mq,tH,E5,ln,Ce,vu,Oj]
def A6:bE × Unit->Option ((Bool × Unit) × Unit):=bK (U:=U) Tryz.prog Ut PI 0 Tryz.f146 co
def Pp:bG U:=⟨146,co,A6⟩
def Uv:bJ:=⟨52,[[1],[1,21],[2],[1,23],[1,23,24],[2],[1,26],[2],[2]],[],[]⟩
def R5:List (bG U):=[mq,tH,E5,ln]
def qZ:bE × Unit->Option ((Bool × Unit) × Unit):=bK (U:=U) Tryz.prog R5 Uv 0 Tryz.f147 co
def GP:bG U:=⟨147,co,qZ⟩
def NQ:bJ:=⟨26,[[0,1],[0,1,5],[0,1,5,6],[4],[0,1,5,10],[4],[0,1,15],[4],[4]],[],[]⟩
def QI:List (bG U):=[Ce,sy]
def vp:Int × at1 × Unit->Option ((Bool × Unit) × Unit):=bK (U:=U) Tryz.prog QI NQ 0 Tryz.f207 se
def O3:bG U:=⟨207,se,vp⟩
def F0:bJ:=⟨57,[[1],[1,13,14,15],[1,13,14,15,16],[1,4,13,14,15],[1,13,14,15,21],[2],[1,13,14,15],[1,31],[2],[1,33],[1,33,34],[1,33,34],[2],[1,37],[2],[2]],[],[]⟩
def H6:List (bG U):=[ln,mq,tH,O3]
def JE (n:Nat):bE × Unit->Option ((Bool × Unit) × Unit):=bK (U:=U) Tryz.prog H6 F0 n Tryz.f148 co
def vj:=JE fuel
def Jk:bG U:=⟨148,co,vj⟩
def eu7:=lp (tab H6) F0 Tryz.f148 0 co
def pR (n m:Nat) (a0:bE) (x13:List Int) (x14 x15:Int):Option ((Bool × Unit) × Unit):=
 eu7 n [.r,.l,.r,.l,.at m] [(1,.box [.int .i64 a0.kind,.int .i64 a0.cmd,.int .i64 a0.ver,.str a0.aC,.int .i64 a0.family,.int .i64 a0.ae,.str a0.ah,.int .i64 a0.af,.int .i64 a0.tag,.str a0.next,.int .i64 a0.aj,.str a0.id,.int .i64 a0.seq,.int .i64 a0.seq2,.int .i64 a0.aw,.int .i64 a0.flags,.int .i64 a0.hops,.int .i64 a0.aB,.int .i64 a0.cost,.str a0.addr,.str a0.aD,.sl 94 a0.list .ro,.int .i64 a0.aA,.str a0.data,.sl 96 a0.subs .ro]),(13,.one (.sl 3 x13 .app)),(14,.one (.int .i64 x14)),(15,.one (.int .i64 x15))]
def Qt:bJ:=⟨36,[[1],[1,4],[1,4,5],[2],[1,4,9],[1,4,9],[2],[1,14],[2],[2]],[],[]⟩
def LX:List (bG U):=[Pp,GP,mq,Jk]
def rG:bE × Unit->Option ((Bool × Unit) × Unit):=bK (U:=U) Tryz.prog LX Qt 0 Tryz.f84 co
def Ah:bG U:=⟨84,co,rG⟩
def Gb:bJ:=⟨19,[[0,3],[3,5,6],[4]],[],[]⟩
def CH:List (bG U):=[xy,DC,CX,Ah]
def Fx:bJ:=⟨18,[[0,2],[2,4],[2,4,5],[2,3],[2,4,8],[2,3],[2,4,11],[2,3],[2,14],[2,3],[2,3]],[],[999999]⟩
def A0:gU U:=inl Tryz.prog 44 (tab CH) Fx 0 Tryz.f44 (tab CH)
def ym:Int × bE × Unit->Option ((Bool × Unit) × Unit):=pM (U:=U) Tryz.prog A0 Gb 0 Tryz.f87 mK
def P8:bG U:=⟨87,mK,ym⟩
def FH:at1 × Unit->Option ((at1 × Bool × Unit) × Unit):=bK (U:=U) Tryz.prog bU ko 0 Tryz.f130 ei
def Uh:bG U:=⟨130,ei,FH⟩
def Qh:bJ:=⟨34,[[2,3],[4]],[],[]⟩
def yn:bE × bE × Unit->Option ((Bool × Unit) × Unit):=bK (U:=U) Tryz.prog bU Qh 0 Tryz.f131 sc
def Vw:bG U:=⟨131,sc,yn⟩
def LC:bJ:=⟨28,[[0],[0,10],[2,3],[4],[2,3]],[],[]⟩
def si:Int × Unit->Option ((at1 × Bool × Unit) × Unit):=bK (U:=U) Tryz.prog bU LC 0 Tryz.f190 qI
def F8:bG U:=⟨190,qI,si⟩
def FZ:bJ:=⟨29,[[0,1],[0,1,11],[4,5],[0,1,6],[0,6,7],[0,6,7,17],[0,6,7],[0,6,7],[0,6,7],[4,5]],[],[]⟩
def uz:List (bG U):=[ln]
def AC (n:Nat):Int × Int × Unit->Option ((at1 × Bool × Unit) × Unit):=bK (U:=U) Tryz.prog uz FZ n Tryz.f201 nv
def jw:=AC fuel
def tD:bG U:=⟨201,nv,jw⟩
def eZ3:=lp (tab uz) FZ Tryz.f201 0 nv
def tG (n m:Nat) (x0 x7:Int) (x13:at1):Option ((at1 × Bool × Unit) × Unit):=
 eZ3 n [.r,.r,.r,.l,.r,.l,.at m] [(0,.one (.int .i64 x0)),(6,.one (.sref 13)),(7,.one (.int .i64 x7)),(13,.bblk 5 x13 true)]
def Nz:bJ:=⟨76,[[1],[1,43],[2,3],[1,4],[1,4,6],[1,4,6,8],[2,3]],[],[]⟩
def NC:List (bG U):=[ln,tD]
def pX:de × Unit->Option ((at1 × Bool × Unit) × Unit):=bK (U:=U) Tryz.prog NC Nz 0 Tryz.f191 kd
def Vb:bG U:=⟨191,kd,pX⟩
def Kq:bJ:=⟨39,[[1],[1,3],[1,3,25],[3],[4],[2]],[],[]⟩
def Pf:List (bG U):=[oT,F8,Vb]
def tr:bE × Unit->Option ((at1 × Unit) × Unit):=bK (U:=U) Tryz.prog Pf Kq 0 Tryz.f132 gK
def KR:bG U:=⟨132,gK,tr⟩
def I7:bJ:=⟨84,[[0],[0,13,14,15],[0,13,14,15,16],[0,5,6,13,14,15],[0,5,13,14,15,22],[2,3,4],[0,13,14,15],[0,27],[2,3,4],[0,7],[0,7,8],[0,7,8,9,10],[0,7,8,9,47],[0,7,8],[0,7,8],[0,7,8,53,54,55],[0,7,8,53,54,55,56],[0,7,8,11,12,53,54,55],[0,7,8,11,12,53,54,55,60],[2,3,4],[0,7,8,11,12,53,54,55,65],[2,3,4],[0,7,8,53,54,55],[0,7,8,53,54,55],[2,3,4]],[48,77],[]⟩
def EU:List (bG U):=[xy,Uh,Vw,KR]
def Jj (n:Nat):(List bE) × Unit->Option ((at1 × Int × Int × Unit) × Unit):=bK (U:=U) Tryz.prog EU I7 n Tryz.f77 dX
def Fa:=Jj fuel
def Rz:bG U:=⟨77,dX,Fa⟩
def Lp:=lp (tab EU) I7 Tryz.f77 0 dX
def yO (n m:Nat) (a0:List bE) (x15:Int):Option ((at1 × Int × Int × Unit) × Unit):=
 Lp n [.r,.l,.r,.l,.at m] [(0,.one (.sl 77 a0 .ro)),(13,.one (.sl 77 a0 .ro)),(14,.one (.int .i64 (a0.length:Int))),(15,.one (.int .i64 x15))]
def p8 (n m:Nat) (a0:List bE) (x7:Int) (x8:at1) (x55:Int):Option ((at1 × Int × Int × Unit) × Unit):=
 Lp n [.r,.r,.r,.r,.r,.r,.l,.r,.l,.at m] [(0,.one (.sl 77 a0 .ro)),(7,.one (.int .i64 x7)),(8,.one (.bs 5 x8 .app)),(53,.one (.sl 77 a0 .ro)),(54,.one (.int .i64 (a0.length:Int))),(55,.one (.int .i64 x55))]
def Kp:bJ:=⟨52,[[1],[1,33],[2,3],[2,3]],[],[]⟩
def AU:de × Unit->Option ((at1 × Bool × Unit) × Unit):=bK (U:=U) Tryz.prog uz Kp 0 Tryz.f248 kd
def WN:bG U:=⟨248,kd,AU⟩
def Ij:bT τ:=⟨[(true,QG),(false,qd)],[]⟩
def P1:bJ:=⟨20,[[0,3],[0,4],[]],[15],[]⟩
def U1:List (bG U):=[WN]
def rF:ll × de × Unit->Option ((Unit) × (ll × Unit)):=bK (U:=U) Tryz.prog U1 P1 0 Tryz.f194 Ij
def MR:bG U:=⟨194,Ij,rF⟩
def GA:bT τ:=⟨[(true,QG),(false,fo)],[]⟩
def Pe:bJ:=⟨32,[[0,3],[0,3,10],[0,3],[0,3],[]],[],[]⟩
def WC:List (bG U):=[MR]
def AP:ll × bE × Unit->Option ((Unit) × (ll × Unit)):=bK (U:=U) Tryz.prog WC Pe 0 Tryz.f138 GA
def Xf:bG U:=⟨138,GA,AP⟩
def D7:bJ:=⟨65,[[0],[0,10,11,12],[0,10,11,12,13],[0,5,6,10,11,12],[0,5,10,11,12,19],[2,3,4],[0,10,11,12],[0,24],[2,3,4],[0,7],[0,7,34,35,36],[0,7,34,35,36,37],[0,7,8,9,34,35,36],[0,7,8,9,34,35,36,47],[2,3,4],[0,7,8,34,35,36],[0,7,8,34,35,36,57],[2,3,4],[0,7,34,35,36],[2,3,4]],[],[]⟩
def GD:List (bG U):=[DC,oT,Xf]
def E1 (n:Nat):(List bE) × Unit->Option ((at1 × Int × Int × Unit) × Unit):=bK (U:=U) Tryz.prog GD D7 n Tryz.f80 dX
def Ed:=E1 fuel
def Ql:bG U:=⟨80,dX,Ed⟩
def Lk:=lp (tab GD) D7 Tryz.f80 0 dX
def ye (n m:Nat) (a0:List bE) (x12:Int):Option ((at1 × Int × Int × Unit) × Unit):=
 Lk n [.r,.l,.r,.l,.at m] [(0,.one (.sl 77 a0 .ro)),(10,.one (.sl 77 a0 .ro)),(11,.one (.int .i64 (a0.length:Int))),(12,.one (.int .i64 x12))]
def yx (n m:Nat) (a0:List bE) (x33_0 x33_1:at1) (x36:Int):Option ((at1 × Int × Int × Unit) × Unit):=
 Lk n [.r,.r,.r,.r,.l,.r,.l,.at m] [(0,.one (.sl 77 a0 .ro)),(7,.one (.ref 33 0)),(33,.box [.bs 5 x33_0 .app,.str x33_1]),(34,.one (.sl 77 a0 .ro)),(35,.one (.int .i64 (a0.length:Int))),(36,.one (.int .i64 x36))]
def IP:bJ:=⟨36,[[0],[0,9],[2,3],[0,4],[4,13,14,15],[4,13,14,15,16],[4,6,13,14,15],[4,6,13,14,15],[4,13,14,15],[4,13,14,15],[2,3]],[19,29],[]⟩
def C3:List (bG U):=[zO,wz]
def CN (n:Nat):(List b8) × Unit->Option ((at1 × Bool × Unit) × Unit):=bK (U:=U) Tryz.prog C3 IP n Tryz.f199 iy
def um:=CN fuel
def wo:bG U:=⟨199,iy,um⟩
def fn2:=lp (tab C3) IP Tryz.f199 0 iy
def zj (n m:Nat) (a0:List b8) (x4:at1) (x15:Int):Option ((at1 × Bool × Unit) × Unit):=
 fn2 n [.r,.r,.r,.l,.r,.l,.at m] [(4,.one (.bs 5 x4 .app)),(13,.one (.sl 96 a0 .ro)),(14,.one (.int .i64 (a0.length:Int))),(15,.one (.int .i64 x15))]
def KE:bJ:=⟨11,[[0],[3],[2]],[],[]⟩
def wg:List (bG U):=[tD]
def sx:Int × Unit->Option ((at1 × Unit) × Unit):=bK (U:=U) Tryz.prog wg KE 0 Tryz.f200 jS
def PL:bG U:=⟨200,jS,sx⟩
def Pc:bJ:=⟨46,[[1],[1,9],[2,3],[1,4],[1,4,6],[2,3]],[],[]⟩
def W2:List (bG U):=[GS,wo,PL]
def xp:bE × Unit->Option ((at1 × Bool × Unit) × Unit):=bK (U:=U) Tryz.prog W2 Pc 0 Tryz.f143 dU
def We:bG U:=⟨143,dU,xp⟩
def OU:bJ:=⟨60,[[1],[1,12],[2,3],[1,4],[1,4,21],[2,3],[1,4,6],[1,4,6,8],[2,3]],[],[]⟩
def RB:List (bG U):=[Dt,wo,tD]
def xd:bE × Unit->Option ((at1 × Bool × Unit) × Unit):=bK (U:=U) Tryz.prog RB OU 0 Tryz.f144 dU
def Re:bG U:=⟨144,dU,xd⟩
def FR:bJ:=⟨54,[[1],[1,13],[2,3],[1,4],[1,4,24,25,26],[1,4,24,25,26,27],[1,4,6,24,25,26],[1,4,6,7,24,25,26],[1,4,7,24,25,26],[1,4,24,25,26],[1,4,24,25,26],[4,9],[2,3]],[36,40],[]⟩
def I4:List (bG U):=[Gk,tD,wo]
def Fj (n:Nat):bE × Unit->Option ((at1 × Bool × Unit) × Unit):=bK (U:=U) Tryz.prog I4 FR n Tryz.f145 dU
def BI:=Fj fuel
def MP:bG U:=⟨145,dU,BI⟩
def fe4:=lp (tab I4) FR Tryz.f145 0 dU
def vQ (n m:Nat) (a0:bE) (x4:at1) (x26:Int):Option ((at1 × Bool × Unit) × Unit):=
 fe4 n [.r,.r,.r,.l,.r,.l,.at m] [(1,.box [.int .i64 a0.kind,.int .i64 a0.cmd,.int .i64 a0.ver,.str a0.aC,.int .i64 a0.family,.int .i64 a0.ae,.str a0.ah,.int .i64 a0.af,.int .i64 a0.tag,.str a0.next,.int .i64 a0.aj,.str a0.id,.int .i64 a0.seq,.int .i64 a0.seq2,.int .i64 a0.aw,.int .i64 a0.flags,.int .i64 a0.hops,.int .i64 a0.aB,.int .i64 a0.cost,.str a0.addr,.str a0.aD,.sl 94 a0.list .ro,.int .i64 a0.aA,.str a0.data,.sl 96 a0.subs .ro]),(4,.one (.bs 5 x4 .app)),(24,.one (.sl 94 a0.list .ro)),(25,.one (.int .i64 (a0.list.length:Int))),(26,.one (.int .i64 x26))]
def CG:bJ:=⟨56,[[0],[0,9,10],[0,9,10,11],[0,5,9,10],[0,5,9,10,18],[2,3,4],[0,9,10],[0,23],[2,3,4],[0,26],[2,3,4],[0,6,7],[0,6,7,35],[0,6,7],[0,6,44],[6],[6,54],[2,3,4],[2,3,4]],[],[]⟩
def IX:List (bG U):=[CX,We,Re,MP]
def Iz (n:Nat):(List bE) × Unit->Option ((at1 × Int × Int × Unit) × Unit):=bK (U:=U) Tryz.prog IX CG n Tryz.f83 dX
def ED:=Iz fuel
def Nl:bG U:=⟨83,dX,ED⟩
def eu8:=lp (tab IX) CG Tryz.f83 0 dX
def yv (n m:Nat) (a0:List bE) (x10:Int):Option ((at1 × Int × Int × Unit) × Unit):=
 eu8 n [.r,.l,.r,.l,.at m] [(0,.one (.sl 77 a0 .ro)),(9,.one (.int .i64 (a0.length:Int))),(10,.one (.int .i64 x10))]
def gv:Int × at1 × Unit->Option ((at1 × Bool × Unit) × Unit):=bK (U:=U) Tryz.prog bU AF 0 Tryz.f258 sT
def sA:bG U:=⟨258,sT,gv⟩
def GB:bJ:=⟨32,[[0],[0,11],[2,3],[0,4],[4,12,13,14],[4,12,13,14,15],[4,6,12,13,14],[4,7,12,13,14],[4,12,13,14],[4,12,13,14],[2,3]],[26],[]⟩
def GG:List (bG U):=[tH,sA]
def ET (n:Nat):(List b8) × Unit->Option ((at1 × Bool × Unit) × Unit):=bK (U:=U) Tryz.prog GG GB n Tryz.f262 iy
def kw:=ET fuel
def zV:bG U:=⟨262,iy,kw⟩
def fn3:=lp (tab GG) GB Tryz.f262 0 iy
def vy (n m:Nat) (a0:List b8) (x4:at1) (x14:Int):Option ((at1 × Bool × Unit) × Unit):=
 fn3 n [.r,.r,.r,.l,.r,.l,.at m] [(4,.one (.bs 5 x4 .app)),(12,.one (.sl 96 a0 .ro)),(13,.one (.int .i64 (a0.length:Int))),(14,.one (.int .i64 x14))]
def sZ:Int × Unit->Option ((Int × Unit) × Unit):=bK (U:=U) Tryz.prog bU sv 0 Tryz.f300 fP
def DY:bG U:=⟨300,fP,sZ⟩
def L1:bJ:=⟨16,[[0,1],[1,5],[4]],[],[]⟩
def Sy:List (bG U):=[DY,vg]
def qu:at1 × Int × Unit->Option ((at1 × Unit) × Unit):=bK (U:=U) Tryz.prog Sy L1 0 Tryz.f290 gd
def Fc:bG U:=⟨290,gd,qu⟩
def RN:bJ:=⟨65,[[1],[1,10],[2,3],[1,4],[1,4,6],[1,4,6,7],[1,4,6,7,26],[1,4,6,7],[1,4,6,7],[1,4,6,7],[4,6,7],[2,3]],[27,40,44],[]⟩
def NO:List (bG U):=[GP,zV,Fc,tn,sA]
def ui:bE × Unit->Option ((at1 × Bool × Unit) × Unit):=bK (U:=U) Tryz.prog NO RN 0 Tryz.f257 dU
def ME:bG U:=⟨257,dU,ui⟩
def yC:bT τ:=⟨[(true,et9),(false,Z9)],[]⟩
def Jp:bJ:=⟨27,[[0,6,7,8],[0,6,7,8,9],[0,5,6,7,8],[0,6,7,8],[0,6,7,8]],[16],[]⟩
def Dv (n:Nat):ly × (List Int) × Unit->Option ((Unit) × (ly × Unit)):=bK (U:=U) Tryz.prog bU Jp n Tryz.f291 yC
def qc:=Dv fuel
def QY:bG U:=⟨291,yC,qc⟩
def dr4:=lp (tab bU) Jp Tryz.f291 1 yC
def BP (n m:Nat) (a1:List Int) (x8:Int) (x1000000:at1):Option ((Unit) × (ly × Unit)):=
 dr4 n [.r,.l,.at m] [(0,.one (.ref 1000000 0)),(6,.one (.sl 3 a1 .ro)),(7,.one (.int .i64 (a1.length:Int))),(8,.one (.int .i64 x8)),(1000000,.box [.bs 5 x1000000 .app])]
def W3:List (bG U):=[sy]
def tZ:at1 × Unit->Option ((at1 × Bool × Unit) × Unit):=bK (U:=U) Tryz.prog W3 ko 0 Tryz.f261 ei
def G4:bG U:=⟨261,ei,tZ⟩
def L5:bJ:=⟨107,[[1],[1,11],[2,3],[1,4],[1,4,15],[1,4,15,16],[1,4],[1,4,15,25],[1,4],[1,4,15,32],[1,4],[1,4,44],[1,4],[1,4,5,6],[1,4,5,67],[1,4],[1,4],[1,4,7],[2,3]],[72,81],[]⟩
def Xs:List (bG U):=[Jk,QY,zV,sA,G4]
def uC:bE × Unit->Option ((at1 × Bool × Unit) × Unit):=bK (U:=U) Tryz.prog Xs L5 0 Tryz.f259 dU
def Kn:bG U:=⟨259,dU,uC⟩
def PE:bJ:=⟨30,[[1],[1],[1,5],[3],[1,5,11],[1,5,11],[3],[1,19],[3],[2]],[],[]⟩
def M1:List (bG U):=[ME,sA,Kn]
def xA:bE × Unit->Option ((at1 × Unit) × Unit):=bK (U:=U) Tryz.prog M1 PE 0 Tryz.f212 gK
def Of:bG U:=⟨212,gK,xA⟩
def rh:bT τ:=⟨[(true,vU),(false,cd),(false,cz)],[]⟩
def R8:bJ:=⟨23,[[0,6],[]],[18],[]⟩
def QL:List (bG U):=[sA]
def mr:dE × Int × at1 × Unit->Option ((Unit) × (dE × Unit)):=bK (U:=U) Tryz.prog QL R8 0 Tryz.f260 rh
def yl:bG U:=⟨260,rh,mr⟩
def GM:bT τ:=⟨[(true,vU),(false,cz)],[]⟩
def UR:bJ:=⟨13,[[0,1],[]],[],[]⟩
def PF:List (bG U):=[yl]
def uR:dE × at1 × Unit->Option ((Unit) × (dE × Unit)):=bK (U:=U) Tryz.prog PF UR 0 Tryz.f213 GM
def M8:bG U:=⟨213,GM,uR⟩
def OX:bJ:=⟨37,[[0,1,2,6,7],[0,1,2],[0,1,2,6,17],[0,1,2],[0,1,2,23],[0,1,2],[]],[],[]⟩
def TF:List (bG U):=[G4,yl]
def ny:dE × Int × at1 × Unit->Option ((Unit) × (dE × Unit)):=bK (U:=U) Tryz.prog TF OX 0 Tryz.f214 rh
def Qo:bG U:=⟨214,rh,ny⟩
def tY:Int × Unit->Option ((Int × Unit) × Unit):=bK (U:=U) Tryz.prog bU zu 0 Tryz.f265 fP
def Ha:bG U:=⟨265,fP,tY⟩
def Th:List (bG U):=[Fc,Ha]
def pk:bE × Unit->Option ((at1 × Unit) × Unit):=bK (U:=U) Tryz.prog Th wA 0 Tryz.f263 gK
def HU:bG U:=⟨263,gK,pk⟩
def qW:bT τ:=⟨[(false,SM)],[cd]⟩
def xP:Int × Unit->Option ((Int × Unit) × Unit):=bK (U:=U) Tryz.prog bU nr 0 Tryz.f303 qW
def Wh:bG U:=⟨303,qW,xP⟩
def Pr:List (bG U):=[Wh]
def Aj:Int × Unit->Option ((Int × Unit) × Unit):=bK (U:=U) Tryz.prog Pr nr 0 Tryz.f302 qW
def Lh:bG U:=⟨302,qW,Aj⟩
def HP:bJ:=⟨36,[[0,1],[0,1,11,12],[0,1,11,12,13],[0,1,5,11,12],[0,1,5,6,11,12],[0,1,5,6,11,12,23],[4],[0,1,11,12],[4]],[],[]⟩
def Ee:List (bG U):=[Lh]
def Jh (n:Nat):at1 × at1 × Unit->Option ((Int × Unit) × Unit):=bK (U:=U) Tryz.prog Ee HP n Tryz.f292 kN
def BX:=Jh fuel
def Ly:bG U:=⟨292,kN,BX⟩
def eP6:=lp (tab Ee) HP Tryz.f292 0 kN
def wi (n m:Nat) (a0 a1:at1) (x11 x12:Int):Option ((Int × Unit) × Unit):=
 eP6 n [.r,.l,.r,.l,.at m] [(0,.one (.str a0)),(1,.one (.str a1)),(11,.one (.int .i64 x11)),(12,.one (.int .i64 x12))]
def Ma:bJ:=⟨9,[[0,1],[4]],[],[]⟩
def N7:List (bG U):=[Ly]
def vW:at1 × at1 × Unit->Option ((Int × Unit) × Unit):=bK (U:=U) Tryz.prog N7 Ma 0 Tryz.f264 kN
def Wr:bG U:=⟨264,kN,vW⟩
def BZ:bT τ:=⟨[(true,vU),(false,fo)],[cd]⟩
def Lb:bJ:=⟨24,[[0,3],[3,5],[3,5,15],[4],[4]],[],[]⟩
def Wz:List (bG U):=[Ha,HU,Wr]
def iF:dE × bE × Unit->Option ((Int × Unit) × (dE × Unit)):=bK (U:=U) Tryz.prog Wz Lb 0 Tryz.f216 BZ
def Ud:bG U:=⟨216,BZ,iF⟩
def zL:bT τ:=⟨[(true,vU),(false,fo),(false,cd)],[]⟩
def DD:bJ:=⟨72,[[0,2,4],[0,2,4,6],[0,2,4,6,22],[0,2,4,6],[0,2,4,6],[0,2,4,6,40,41,42],[0,2,4,6,40,41,42,43],[0,2,4,6,8,40,41,42],[0,2,4,6,40,41,42],[0,2,4,6,40,41,42],[0,2,4,6,9],[]],[46],[19]⟩
def IY:List (bG U):=[zV,HU,yl]
def D8 (n:Nat):dE × bE × Int × Unit->Option ((Unit) × (dE × Unit)):=bK (U:=U) Tryz.prog IY DD n Tryz.f215 zL
def i3:=D8 fuel
def Vn:bG U:=⟨215,zL,i3⟩
def Nt:=lp (tab IY) DD Tryz.f215 1 zL
def AE (n m:Nat) (a2:Int) (a1:bE) (a0:dE) (x19:at1) (x40:List Int) (x41 x42:Int) (x1000000_1 x1000000_2 x1000000_3 x1000000_4:at1):Option ((Unit) × (dE × Unit)):=
 Nt n [.r,.r,.r,.l,.r,.l,.at m] [(0,.one (.ref 1000000 0)),(2,.one (.int .i64 a2)),(4,.box [.int .i64 a1.kind,.int .i64 a1.cmd,.int .i64 a1.ver,.str a1.aC,.int .i64 a1.family,.int .i64 a1.ae,.str a1.ah,.int .i64 a1.af,.int .i64 a1.tag,.str a1.next,.int .i64 a1.aj,.str a1.id,.int .i64 a1.seq,.int .i64 a1.seq2,.int .i64 a1.aw,.int .i64 a1.flags,.int .i64 a1.hops,.int .i64 a1.aB,.int .i64 a1.cost,.str a1.addr,.str a1.aD,.sl 94 a1.list .ro,.int .i64 a1.aA,.str a1.data,.sl 96 a1.subs .ro]),(6,.one (.sref 19)),(19,.bblk 5 x19 true),(40,.one (.sl 3 x40 .app)),(41,.one (.int .i64 x41)),(42,.one (.int .i64 x42)),(1000000,.box [.bs 5 a0.b .app,.str x1000000_1,.str x1000000_2,.str x1000000_3,.str x1000000_4,.str a0.aR,.str a0.aQ,.str a0.bg])]
def oO (n m:Nat) (a2:Int) (a1:bE) (x40:List Int) (x41:Int) (a0:dE) (x1000000_1 x1000000_2 x1000000_3 x1000000_4 x6:at1) (x42:Int):Option ((Unit) × (dE × Unit)):=
 Nt n [.r,.r,.r,.l,.r,.l,.at m] [(0,.one (.ref 1000000 0)),(2,.one (.int .i64 a2)),(4,.box [.int .i64 a1.kind,.int .i64 a1.cmd,.int .i64 a1.ver,.str a1.aC,.int .i64 a1.family,.int .i64 a1.ae,.str a1.ah,.int .i64 a1.af,.int .i64 a1.tag,.str a1.next,.int .i64 a1.aj,.str a1.id,.int .i64 a1.seq,.int .i64 a1.seq2,.int .i64 a1.aw,.int .i64 a1.flags,.int .i64 a1.hops,.int .i64 a1.aB,.int .i64 a1.cost,.str a1.addr,.str a1.aD,.sl 94 a1.list .ro,.int .i64 a1.aA,.str a1.data,.sl 96 a1.subs .ro]),(6,.one (.bs 5 x6 .app)),(40,.one (.sl 3 x40 .app)),(41,.one (.int .i64 x41)),(42,.one (.int .i64 x42)),(1000000,.box [.bs 5 a0.b .app,.str x1000000_1,.str x1000000_2,.str x1000000_3,.str x1000000_4,.str a0.aR,.str a0.aQ,.str a0.bg])]
def Sp:bJ:=⟨77,[[2,3,5],[2,3,5,9],[4,5,6],[2,3,5,14],[4,5,6],[2,3,5,7],[2,3,5,7,26],[2,3,5,7,8],[2,3,5,7,8,39],[4,5,6],[2,3,5,7,8,45],[2,3,5,7,8],[3,5,7,8,56],[3,5,7],[5,7],[4,5,6]],[],[]⟩
def XK:List (bG U):=[Ah,Of,vu,M8,Qo,Ud,Vn]
def wn:bQ × bE × Unit->Option ((at1 × bQ × Int × Unit) × Unit):=bK (U:=U) Tryz.prog XK Sp 0 Tryz.f153 sO
def WG:bG U:=⟨153,sO,wn⟩
def Pw:bJ:=⟨23,[[0],[0,4,5],[0,4,18],[2,3],[2,3]],[],[]⟩
def yP:at1 × Unit->Option ((at1 × Bool × Unit) × Unit):=bK (U:=U) Tryz.prog wg Pw 0 Tryz.f154 ei
def Mt:bG U:=⟨154,ei,yP⟩
def Fu:bJ:=⟨62,[[0],[0,16,17,18],[0,16,17,18,19],[0,5,6,16,17,18],[0,5,16,17,18,25],[2,3,4],[0,16,17,18],[0,7],[0,7,8],[7,8,28,29,30],[7,8,28,29,30,31],[7,8,9,10,28,29,30],[7,8,9,11,12,13,28,29,30],[7,8,9,11,12,13,28,29,30,43],[2,3,4],[7,8,9,28,29,30],[7,8,9,28,29,30,52],[2,3,4],[7,8,28,29,30],[14],[2,3,4]],[46],[]⟩
def Hu:List (bG U):=[Ah,WG,Mt]
def Er (n:Nat):(List bE) × Unit->Option ((at1 × Int × Int × Unit) × Unit):=bK (U:=U) Tryz.prog Hu Fu n Tryz.f86 dX
def It:=Er fuel
def P9:bG U:=⟨86,dX,It⟩
def UY:=lp (tab Hu) Fu Tryz.f86 0 dX
def BN (n m:Nat) (a0:List bE) (x18:Int):Option ((at1 × Int × Int × Unit) × Unit):=
 UY n [.r,.l,.r,.l,.at m] [(0,.one (.sl 77 a0 .ro)),(16,.one (.sl 77 a0 .ro)),(17,.one (.int .i64 (a0.length:Int))),(18,.one (.int .i64 x18))]
def yQ (n m:Nat) (a0:List bE) (x7 x8_0 x8_1 x8_2 x8_3 x8_4 x8_5 x8_6:at1) (x30:Int):Option ((at1 × Int × Int × Unit) × Unit):=
 UY n [.r,.r,.r,.r,.l,.r,.l,.at m] [(7,.one (.bs 5 x7 .app)),(8,.box [.str x8_0,.str x8_1,.str x8_2,.str x8_3,.str x8_4,.str x8_5,.str x8_6]),(28,.one (.sl 77 a0 .ro)),(29,.one (.int .i64 (a0.length:Int))),(30,.one (.int .i64 x30))]
def rE:bJ:=⟨23,[[0,1],[1,7,8],[1,7,15],[4,5,6],[4,5,6]],[],[]⟩
def G8:List (bG U):=[Rz,Ql,Nl,P9]
def wM:gU U:=inl Tryz.prog 44 (tab G8) Fx 0 Tryz.f44 (tab G8)
def An:Int × (List bE) × Unit->Option ((at1 × Int × Int × Unit) × Unit):=pM (U:=U) Tryz.prog wM rE 0 Tryz.f26 od
def Ol:bG U:=⟨26,od,An⟩
def EF:bT τ:=⟨[(false,cd),(false,ii),(false,cd)],[cz,cX]⟩
def Sv:bJ:=⟨27,[[0,1,2],[2,8,10],[6,7]],[],[]⟩
def MG:List (bG U):=[Ol]
def tN:Int × (List bE) × Int × Unit->Option ((at1 × Bool × Unit) × Unit):=bK (U:=U) Tryz.prog MG Sv 0 Tryz.f47 EF
def IA:bG U:=⟨47,EF,tN⟩
def PD:bJ:=⟨17,[[0,1,2],[8],[6]],[],[]⟩
def NY:List (bG U):=[IA]
def vT:Int × (List bE) × Int × Unit->Option ((Bool × Unit) × Unit):=bK (U:=U) Tryz.prog NY PD 0 Tryz.f88 pS
def Wi:bG U:=⟨88,pS,vT⟩
def v8:bT τ:=⟨[(false,cd),(false,ii),(false,cd)],[cd,eo]⟩
def CI:bJ:=⟨46,[[0,1,2],[0,1,2,16],[6,7],[0,1,2,17,18,19],[0,1,2,17,18,19,20],[0,1,2,8,9,17,18,19],[0,1,2,8,17,18,19,27],[6,7],[0,1,2,17,18,19],[0,1,2,31,32],[0,1,2,31,32,33],[0,1,2,10,31,32],[0,1,2,10,31,32,43],[6,7],[0,1,2,31,32],[6,7]],[],[]⟩
def Cr:List (bG U):=[P8,Wi]
def B3 (n:Nat):Int × (List bE) × Int × Unit->Option ((Int × Int × Unit) × Unit):=bK (U:=U) Tryz.prog Cr CI n Tryz.f46 v8
def IL:=B3 fuel
def Uo:bG U:=⟨46,v8,IL⟩
def OK:=lp (tab Cr) CI Tryz.f46 0 v8
def zA (n m:Nat) (a0:Int) (a1:List bE) (a2 x19:Int):Option ((Int × Int × Unit) × Unit):=
 OK n [.r,.r,.l,.r,.l,.at m] [(0,.one (.int .i64 a0)),(1,.one (.sl 77 a1 .ro)),(2,.one (.int .i64 a2)),(17,.one (.sl 77 a1 .ro)),(18,.one (.int .i64 (a1.length:Int))),(19,.one (.int .i64 x19))]
def A9 (n m:Nat) (a0:Int) (a1:List bE) (a2 x32:Int):Option ((Int × Int × Unit) × Unit):=
 OK n [.r,.r,.r,.l,.r,.l,.at m] [(0,.one (.int .i64 a0)),(1,.one (.sl 77 a1 .ro)),(2,.one (.int .i64 a2)),(31,.one (.int .i64 (a1.length:Int))),(32,.one (.int .i64 x32))]
def GY:bJ:=⟨57,[[0,1,2],[0,1,2,9,10],[0,1,2,9,10,24],[6,7,8],[0,1,2,11],[0,1,2,11,29],[0,1,2,11,12,13],[0,1,2,11,12,13,33],[0,1,2,11,12,13,14,15],[0,1,2,11,12,13,14,45],[0,1,2,11,12,13],[0,1,2,11],[6,7,8]],[49],[]⟩
def Jy:List (bG U):=[Uo,IA]
def E6 (n:Nat):Int × (List bE) × Int × Unit->Option (((List at1) × Int × Int × Unit) × Unit):=bK (U:=U) Tryz.prog Jy GY n Tryz.f29 nh
def Fp:=E6 fuel
def SY:bG U:=⟨29,nh,Fp⟩
def T8:=lp (tab Jy) GY Tryz.f29 0 nh
def nV (n m:Nat) (a0 a2:Int) (x1:List bE) (x11:List at1):Option (((List at1) × Int × Int × Unit) × Unit):=
 T8 n [.r,.r,.r,.l,.l,.at m] [(0,.one (.int .i64 a0)),(1,.one (.sl 77 x1 .ro)),(2,.one (.int .i64 a2)),(11,.one (.sl 9 x11 .app))]
def zp (n m0 m:Nat) (a0:Int) (x1:List bE) (a2:Int) (x11:List at1) (x12:at1) (x13:Int):Option (((List at1) × Int × Int × Unit) × Unit):=
 T8 n [.r,.r,.r,.l,.l,.inn m0,.r,.l,.r,.l,.l,.at m] [(0,.one (.int .i64 a0)),(1,.one (.sl 77 x1 .ro)),(2,.one (.int .i64 a2)),(11,.one (.sl 9 x11 .app)),(12,.one (.str x12)),(13,.one (.int .i64 x13))]
def Sc:bT τ:=⟨[(true,Tu),(false,D6)],[D6]⟩
def ud:gT × Int × Unit->Option ((Int × Unit) × (gT × Unit)):=Rn
def HF:bG U:=⟨48,Sc,ud⟩
def C2:bT τ:=⟨[(true,rP),(false,cd),(false,eo)],[]⟩
def WH:bJ:=⟨21,[[0,1,2],[0,1,11],[],[]],[],[999999]⟩
def Lc:List (bG U):=[HF]
def uG:dM × Int × Int × Unit->Option ((Unit) × (dM × Unit)):=bK (U:=U) Tryz.prog Lc WH 0 Tryz.f30 C2
def B6:bG U:=⟨30,C2,uG⟩
def zg:bT τ:=⟨[(true,rP),(false,cd),(false,ii),(false,cd)],[yA,cd,eo]⟩
def Jo:bJ:=⟨47,[[0,1,2,3],[0,1,2,3,20],[8,9,10],[0,11,12,13],[0,11,12,13,14],[0,11,12,13,14,29,30,31],[0,11,12,13,14,29,30,31,32],[0,11,12,13,14,16,29,30,31],[0,11,12,13,14,29,30,31],[0,11,12,13,14,29,30,31],[11,12,13],[8,9,10]],[],[999999]⟩
def Cv:List (bG U):=[Bm,SY,B6]
def DE (n:Nat):dM × Int × (List bE) × Int × Unit->Option (((List at1) × Int × Int × Unit) × (dM × Unit)):=bK (U:=U) Tryz.prog Cv Jo n Tryz.f16 zg
def D0:=DE fuel
def Xh:bG U:=⟨16,zg,D0⟩
def dN4:=lp (tab Cv) Jo Tryz.f16 1 zg
def yM (n m:Nat) (r2:((List at1) × Int × Int × Unit) × Unit) (a0:dM) (r1:(Bool × Unit) × (gR × Unit)) (x14 x31:Int):Option (((List at1) × Int × Int × Unit) × (dM × Unit)):=
 dN4 n [.r,.r,.r,.r,.l,.r,.l,.at m] [(0,.one (.ref 1000000 0)),(11,.one (.sl 9 r2.1.1 .ro)),(12,.one (.int .i64 r2.1.2.1)),(13,.one (.int .i64 r2.1.2.2.1)),(14,.one (.int .i64 x14)),(29,.one (.sl 9 r2.1.1 .ro)),(30,.one (.int .i64 (r2.1.1.length:Int))),(31,.one (.int .i64 x31)),(1000000,.box [.int .u32 a0.aS,.int .i32 a0.aF,.int .u32 a0.aG,.any,.int .u32 r1.2.1.v,.int .i64 a0.aW,.int .i64 a0.aT,.int .i64 a0.aU])]
def Mh:bJ:=⟨49,[[0],[0,4],[0,4,7],[2,3],[0,4,11],[2,3],[0,4,20],[2,3],[4,29],[2,3],[4,34],[2,3],[4,40],[2,3],[44],[2,3],[2,3]],[],[]⟩
def vG:List (bG U):=[v9]
def yh:at1 × Unit->Option ((Int × Int × Unit) × Unit):=bK (U:=U) Tryz.prog vG Mh 0 Tryz.f126 lZ
def NV:bG U:=⟨126,lZ,yh⟩
def qj:bT τ:=⟨[(false,cz),(false,cz)],[cz,cX]⟩
def Ph:bJ:=⟨15,[[0,1],[0,1,9],[4,5],[4,5]],[],[]⟩
def GL:at1 × at1 × Unit->Option ((at1 × Bool × Unit) × Unit):=bK (U:=U) Tryz.prog vD Ph 0 Tryz.f243 qj
def QR:bG U:=⟨243,qj,GL⟩
def J2:bJ:=⟨11,[[0,1],[4,5]],[],[]⟩
def PR:List (bG U):=[QR]
def Di:at1 × at1 × Unit->Option ((at1 × Bool × Unit) × Unit):=bK (U:=U) Tryz.prog PR J2 0 Tryz.f185 qj
def Vk:bG U:=⟨185,qj,Di⟩
def Mk:bJ:=⟨19,[[0],[4,5],[4,17],[2,3],[2,3]],[],[]⟩
def Oq:List (bG U):=[Vk]
def xQ:at1 × Unit->Option ((at1 × Bool × Unit) × Unit):=bK (U:=U) Tryz.prog Oq Mk 0 Tryz.f127 ei
def Kb:bG U:=⟨127,ei,xQ⟩
def Fg:bT τ:=⟨[(false,cz)],[lI]⟩
def LK:bJ:=⟨7,[[0,2],[2]],[],[]⟩
def jC:at1 × Unit->Option ((du × Unit) × Unit):=bK (U:=U) Tryz.prog bU LK 0 Tryz.f186 Fg
def lU:bG U:=⟨186,Fg,jC⟩
def DU:bT τ:=⟨[(false,lI),(false,cd)],[lI,cX]⟩
def UG:bJ:=⟨29,[[1,2,4],[1,2,4,20],[2,4],[4,5],[2,4],[4,5]],[],[]⟩
def qT:du × Int × Unit->Option ((du × Bool × Unit) × Unit):=bK (U:=U) Tryz.prog bU UG 0 Tryz.f277 DU
def JX:bG U:=⟨277,DU,qT⟩
def w7:bT τ:=⟨[(false,lI),(false,cd)],[cd,lI]⟩
def Dr:bJ:=⟨49,[[1,2,5],[1,2,5,16],[2,5],[4,5],[2,5,6,7],[2,5,6,26],[4,5],[2,5,6,8],[5,6,8,35,36,37],[5,6,8,35,36,37,38],[5,6,8,10,35,36,37],[5,6,8,35,36,37],[5,6,8,35,36,37],[4,5]],[],[]⟩
def ti:List (bG U):=[JX]
def zN (n:Nat):du × Int × Unit->Option ((Int × du × Unit) × Unit):=bK (U:=U) Tryz.prog ti Dr n Tryz.f244 w7
def gz:=zN fuel
def oQ:bG U:=⟨244,w7,gz⟩
def eP7:=lp (tab ti) Dr Tryz.f244 0 w7
def vI (n m:Nat) (r1:(du × Bool × Unit) × Unit) (x8:Int) (x35:at1) (x36 x37:Int):Option ((Int × du × Unit) × Unit):=
 eP7 n [.r,.r,.r,.r,.r,.l,.r,.l,.at m] [(5,.box [.str ([]:at1),.int .i64 0,.int .i64 0,.bool false]),(6,.box [.str r1.1.1.s,.int .i64 r1.1.1.at_,.int .i64 r1.1.1.a9,.bool r1.1.1.bad]),(8,.one (.int .i64 x8)),(35,.one (.bs 5 x35 .app)),(36,.one (.int .i64 x36)),(37,.one (.int .i64 x37))]
def Cf:bT τ:=⟨[(true,RO),(false,cd)],[cd]⟩
def qA:bJ:=⟨21,[[0,1],[0,5,6],[5],[4]],[],[]⟩
def pW:List (bG U):=[oQ]
def rW:lG × Int × Unit->Option ((Int × Unit) × (lG × Unit)):=bK (U:=U) Tryz.prog pW qA 0 Tryz.f187 Cf
def UU:bG U:=⟨187,Cf,rW⟩
def Fe:bT τ:=⟨[(false,lI),(false,cd)],[cz,lI]⟩
def Ui:bJ:=⟨25,[[1,2,5],[2,5,6,7],[2,5,6,15],[4,5],[4,5]],[],[]⟩
def fF:du × Int × Unit->Option ((at1 × du × Unit) × Unit):=bK (U:=U) Tryz.prog ti Ui 0 Tryz.f245 Fe
def nQ:bG U:=⟨245,Fe,fF⟩
def Gs:bT τ:=⟨[(true,RO)],[cz]⟩
def Bq:bJ:=⟨18,[[0],[0,3,4],[3],[2]],[],[]⟩
def AK:List (bG U):=[nQ]
def qV:lG × Unit->Option ((at1 × Unit) × (lG × Unit)):=bK (U:=U) Tryz.prog AK Bq 0 Tryz.f188 Gs
def V3:bG U:=⟨188,Gs,qV⟩
def Tj:bJ:=⟨33,[[0,2],[0,2,8],[2,3],[2,4],[2,4,5],[2,4,5],[2,4,5],[2,4,5],[2,4,5],[2,4,5],[2,5],[2,3]],[],[]⟩
def Q4:List (bG U):=[lU,UU,V3]
def vY:at1 × Unit->Option ((de × Bool × Unit) × Unit):=bK (U:=U) Tryz.prog Q4 Tj 0 Tryz.f128 jT
def Kk:bG U:=⟨128,jT,vY⟩
def rY:bT τ:=⟨[(false,eY2)],[cd]⟩
def WK:bJ:=⟨19,[[0,2],[0,2,4],[0],[0,2],[0,2,8],[0,2],[0,2],[2]],[],[]⟩
def tC:Int × Unit->Option ((Int × Unit) × Unit):=bK (U:=U) Tryz.prog bU WK 0 Tryz.f278 rY
def Vd:bG U:=⟨278,rY,tC⟩
def U2:List (bG U):=[Vd]
def E7:Int × Unit->Option ((Int × Unit) × Unit):=bK (U:=U) Tryz.prog U2 nr 0 Tryz.f246 rY
def PY:bG U:=⟨246,rY,E7⟩
def Nv:bJ:=⟨41,[[0],[0,10],[2,3],[0,4],[0,5],[0,5,6],[5,39],[2,3],[2,3]],[],[]⟩
def LF:List (bG U):=[PY,F8]
def BK:at1 × Unit->Option ((Int × Bool × Unit) × Unit):=bK (U:=U) Tryz.prog LF Nv 0 Tryz.f189 pA
def Qf:bG U:=⟨189,pA,BK⟩
def Ir:bT τ:=⟨[(true,eY3),(false,qd)],[fo,eo]⟩
def V7:bJ:=⟨107,[[0,3,4],[0,3,4,6],[3,4,6,7,8],[3,4,6,7,46],[4,5],[3,4,6],[0,3,4,6,50],[4,6,69],[4,5],[4,5],[0,3,4,6,72],[4,5],[3,4,6,77],[3,4,6],[3,4,6,95],[4,5],[4,6,104],[4,5],[4,5]],[],[]⟩
def V6:List (bG U):=[v9,xy,Qf,ur]
def xJ:rN × de × Unit->Option ((bE × Int × Unit) × (rN × Unit)):=bK (U:=U) Tryz.prog V6 V7 0 Tryz.f129 Ir
def JV:bG U:=⟨129,Ir,xJ⟩
def DO:bJ:=⟨94,[[0],[0,5,6],[0,5,6,22],[2,3,4],[0,7],[0,7,8],[0,7,8,9,10],[0,7,8,9,46],[0,7,8],[0,7,8,54],[2,3,4],[0,7,8],[0,7,8,11],[0,7,8,11,67],[0,7,8,11],[0,7,8,11,12],[0,7,8,11,14,15],[0,7,8,11,14,15,86],[2,3,4],[0,7,8,11],[2,3,4]],[89],[]⟩
def IU:List (bG U):=[NV,Kb,Kk,JV]
def D9 (n:Nat):at1 × Unit->Option (((List bE) × Int × Int × Unit) × Unit):=bK (U:=U) Tryz.prog IU DO n Tryz.f76 eE
def IE:=D9 fuel
def TK:bG U:=⟨76,eE,IE⟩
def eZ4:=lp (tab IU) DO Tryz.f76 0 eE
def oE (n m:Nat) (a0:at1) (x8:Int) (x11:List bE) (x32_0 x32_1:Int) (x32_2:at1) (x32_3:Bool):Option (((List bE) × Int × Int × Unit) × Unit):=
 eZ4 n [.r,.r,.r,.r,.r,.r,.r,.r,.l,.l,.at m] [(0,.one (.str a0)),(7,.one (.ref 32 0)),(8,.one (.int .i64 x8)),(11,.one (.sl 77 x11 .app)),(32,.box [.int .i64 x32_0,.int .i64 x32_1,.str x32_2,.bool x32_3])]
def V4:bJ:=⟨37,[[0],[0,4],[0,4,7],[2,3],[0,4,10],[2,3],[0,4,14],[2,3],[0,4,23],[2,3],[4,27],[2,3],[4,32],[2,3],[2,3]],[],[]⟩
def Aq:at1 × Unit->Option ((Int × Int × Unit) × Unit):=bK (U:=U) Tryz.prog vG V4 0 Tryz.f135 lZ
def OZ:bG U:=⟨135,lZ,Aq⟩
def ST:bJ:=⟨28,[[0,2],[0,2,7],[2,3],[0,2,4],[2,3]],[],[]⟩
def yZ:at1 × Unit->Option ((de × Bool × Unit) × Unit):=bK (U:=U) Tryz.prog bU ST 0 Tryz.f136 jT
def Ow:bG U:=⟨136,jT,yZ⟩
def qN:bT τ:=⟨[(true,Yw),(false,qd)],[eo]⟩
def La:bJ:=⟨23,[[0,3],[0,3,10],[4],[0,3],[0,3,17],[],[4]],[],[]⟩
def RD:List (bG U):=[oT,sy]
def BJ:jP × de × Unit->Option ((Int × Unit) × (jP × Unit)):=bK (U:=U) Tryz.prog RD La 0 Tryz.f193 qN
def Vx:bG U:=⟨193,qN,BJ⟩
def TC:bJ:=⟨54,[[0,3],[0,3,5],[4],[0,3,12],[4],[0,3,19],[4],[],[4]],[32],[]⟩
def XH:List (bG U):=[Vx,ur]
def zi:jP × de × Unit->Option ((Int × Unit) × (jP × Unit)):=bK (U:=U) Tryz.prog XH TC 0 Tryz.f137 qN
def TT:bG U:=⟨137,qN,zi⟩
def Hy:bJ:=⟨61,[[0],[0,5,6],[0,5,6,18],[2,3,4],[0,7],[0,7,8],[0,7,8,30],[0,7,8],[0,7,8,9],[0,7,8,11],[0,7,8,11,46],[2,3,4],[0,7,54],[2,3,4],[2,3,4]],[],[]⟩
def Ca:List (bG U):=[OZ,oT,Ow,TT]
def FQ (n:Nat):at1 × Unit->Option (((List bE) × Int × Int × Unit) × Unit):=bK (U:=U) Tryz.prog Ca Hy n Tryz.f79 eE
def EP:=FQ fuel
def Mo:bG U:=⟨79,eE,EP⟩
def eu9:=lp (tab Ca) Hy Tryz.f79 0 eE
def Af (n m:Nat) (a0:at1) (x8 x26_0:Int) (x26_1:at1) (x26_2:List bE):Option (((List bE) × Int × Int × Unit) × Unit):=
 eu9 n [.r,.r,.r,.l,.r,.l,.at m] [(0,.one (.str a0)),(7,.one (.ref 26 0)),(8,.one (.int .i64 x8)),(26,.box [.int .i64 x26_0,.str x26_1,.sl 77 x26_2 .app])]
def C8:bT τ:=⟨[(false,lI)],[cd]⟩
def XD:bJ:=⟨10,[[1],[1,4],[2],[2]],[],[]⟩
def oA:du × Unit->Option ((Int × Unit) × Unit):=bK (U:=U) Tryz.prog bU XD 0 Tryz.f209 C8
def BU:bG U:=⟨209,C8,oA⟩
def Db:bJ:=⟨44,[[0],[0,5],[5,6],[5,6,14],[5,6,7],[5,6,7,8],[5,6,7,8],[5,6,7,8],[5,6,7,8,9],[5,6,7,8],[5,6,7,8,36],[2,3,4],[5,6],[5,42],[5,6],[2,3,4]],[38],[]⟩
def Gi:List (bG U):=[lU,BU,oQ,nQ]
def Hp (n:Nat):at1 × Unit->Option (((List b8) × Int × Int × Unit) × Unit):=bK (U:=U) Tryz.prog Gi Db n Tryz.f250 n9
def pg:=Hp fuel
def uQ:bG U:=⟨250,n9,pg⟩
def fn4:=lp (tab Gi) Db Tryz.f250 0 n9
def Av (n m:Nat) (x5:List b8) (x6_0:at1) (x6_1 x6_2:Int) (x6_3:Bool):Option (((List b8) × Int × Int × Unit) × Unit):=
 fn4 n [.r,.r,.l,.r,.l,.at m] [(5,.one (.sl 96 x5 .app)),(6,.box [.str x6_0,.int .i64 x6_1,.int .i64 x6_2,.bool x6_3])]
def NF:bJ:=⟨84,[[0,2],[0,2,13],[2,3,4],[0,2,23],[2,3,4],[0,2,5,6,7],[0,2,5,6,7,33],[2,3,4],[0,2,8],[2,8,10],[2,8,10],[2,8,10],[2,8,10],[2,8,10],[2,8],[2,3,4]],[],[]⟩
def Lm:List (bG U):=[uQ,lU,nQ,oQ]
def vz:at1 × Unit->Option ((bE × Int × Int × Unit) × Unit):=bK (U:=U) Tryz.prog Lm NF 0 Tryz.f196 ep
def TZ:bG U:=⟨196,ep,vz⟩
def FC:bJ:=⟨93,[[0,2],[0,2,12],[2,3,4],[0,2,19],[2,3,4],[0,2,28],[2,3,4],[0,2,5],[0,2,5,7],[0,2,5,7,46,47],[0,2,5,7,46,47,48],[0,2,5,7,8,46,47],[0,2,5,7,8,46,47],[0,2,5,7,8,46,47],[0,2,5,7,46,47],[0,2,5,7,46,47],[0,2,5,7,69],[2,3,4],[2,5,7,9,10,11],[2,5,7,9,10,11,83],[2,3,4],[2,5],[2,3,4]],[62],[]⟩
def El:List (bG U):=[lU,nQ,oQ,uQ]
def Ec (n:Nat):at1 × Unit->Option ((bE × Int × Int × Unit) × Unit):=bK (U:=U) Tryz.prog El FC n Tryz.f197 ep
def F3:=Ec fuel
def TO:bG U:=⟨197,ep,F3⟩
def fe5:=lp (tab El) FC Tryz.f197 0 ep
def rx (n m:Nat) (a0:at1) (x5_15:Int) (x5_21:List eB) (x7_0:at1) (x7_1 x7_2:Int) (x7_3:Bool) (x46 x47:Int):Option ((bE × Int × Int × Unit) × Unit):=
 fe5 n [.r,.r,.r,.r,.l,.r,.l,.at m] [(0,.one (.str a0)),(2,.box [.int .i64 0,.int .i64 0,.int .i64 0,.str ([]:at1),.int .i64 0,.int .i64 0,.str ([]:at1),.int .i64 0,.int .i64 0,.str ([]:at1),.int .i64 0,.str ([]:at1),.int .i64 0,.int .i64 0,.int .i64 0,.int .i64 0,.int .i64 0,.int .i64 0,.int .i64 0,.str ([]:at1),.str ([]:at1),.sl 94 [] .app,.int .i64 0,.str ([]:at1),.sl 96 [] .app]),(5,.box [.int .i64 5,.int .i64 0,.int .i64 0,.str ([]:at1),.int .i64 0,.int .i64 0,.str ([]:at1),.int .i64 0,.int .i64 0,.str ([]:at1),.int .i64 0,.str ([]:at1),.int .i64 0,.int .i64 0,.int .i64 0,.int .i64 x5_15,.int .i64 0,.int .i64 0,.int .i64 0,.str ([]:at1),.str ([]:at1),.sl 94 x5_21 .app,.int .i64 0,.str ([]:at1),.sl 96 [] .app]),(7,.box [.str x7_0,.int .i64 x7_1,.int .i64 x7_2,.bool x7_3]),(46,.one (.int .i64 x46)),(47,.one (.int .i64 x47))]
def Sj:bJ:=⟨33,[[0,2],[0,2,10],[2,3,4],[0,2,16],[2,3,4],[2,5,6,7],[2,5,6,7,26],[2,3,4],[2,3,4]],[],[]⟩
def WV:List (bG U):=[uQ]
def zd:at1 × Unit->Option ((bE × Int × Int × Unit) × Unit):=bK (U:=U) Tryz.prog WV Sj 0 Tryz.f251 ep
def SI:bG U:=⟨251,ep,zd⟩
def Pj:bJ:=⟨94,[[0,2],[0,2,17],[2,3,4],[0,2,25],[2,3,4],[0,2,36],[2,3,4],[0,2,5,6,7],[0,2,5,6,7,46],[2,3,4],[0,2,8],[2,8,10],[2,8,10],[2,8,10],[2,8,10],[2,8],[2,3,4]],[],[]⟩
def PV:List (bG U):=[SI,uQ,lU,nQ,oQ]
def Bo:at1 × Unit->Option ((bE × Int × Int × Unit) × Unit):=bK (U:=U) Tryz.prog PV Pj 0 Tryz.f198 ep
def Uc:bG U:=⟨198,ep,Bo⟩
def QA:List (bG U):=[TZ,TO,Uc]
def wC:at1 × Unit->Option ((bE × Int × Int × Unit) × Unit):=bK (U:=U) Tryz.prog QA AJ 0 Tryz.f142 ep
def Ue:bG U:=⟨142,ep,wC⟩
def O2:List (bG U):=[Ue]
def xO:at1 × Unit->Option (((List bE) × Int × Int × Unit) × Unit):=bK (U:=U) Tryz.prog O2 wZ 0 Tryz.f82 eE
def Xt:bG U:=⟨82,eE,xO⟩
def P3:bJ:=⟨11,[[0],[2]],[],[]⟩
def qO:at1 × Unit->Option ((Int × Unit) × Unit):=bK (U:=U) Tryz.prog bU P3 0 Tryz.f208 jt
def LP:bG U:=⟨208,jt,qO⟩
def Vf:bJ:=⟨35,[[0],[0,5],[0,5,8],[2,3,4],[0,5,11],[2,3,4],[0,5,15],[2,3,4],[0,5,19],[2,3,4],[0,5,23],[2,3,4],[2,3,4]],[],[]⟩
def Ak:List (bG U):=[LP]
def yF:at1 × Unit->Option ((at1 × Int × Int × Unit) × Unit):=bK (U:=U) Tryz.prog Ak Vf 0 Tryz.f149 qJ
def Sq:bG U:=⟨149,qJ,yF⟩
def IR:bT τ:=⟨[(false,lI)],[nF,lI]⟩
def Lq:bJ:=⟨34,[[1,2,3],[1,2,3,4],[1,2,3,4],[1,2,3,4,17],[2,3],[1,2,3,4,5],[1,2,3,4],[2,3]],[],[]⟩
def UW:List (bG U):=[oQ,nQ]
def pE:du × Unit->Option ((cy × du × Unit) × Unit):=bK (U:=U) Tryz.prog UW Lq 0 Tryz.f210 IR
def U8:bG U:=⟨210,IR,pE⟩
def Ff:bJ:=⟨37,[[0,1],[0,1,7],[1,7,8],[1,7,8,15],[1,7,8,9,10],[1,7,8,9,10],[1,7,8,9,10,27],[4,5,6],[1,7,8],[1,7,35],[1,7,8],[4,5,6]],[30],[]⟩
def I3:List (bG U):=[lU,BU,U8]
def EH (n:Nat):at1 × Int × Unit->Option (((List cy) × Int × Int × Unit) × Unit):=bK (U:=U) Tryz.prog I3 Ff n Tryz.f150 mQ
def ol:=EH fuel
def FI:bG U:=⟨150,mQ,ol⟩
def ev0:=lp (tab I3) Ff Tryz.f150 0 mQ
def Ba (n m:Nat) (a1:Int) (x7:List cy) (x8_0:at1) (x8_1 x8_2:Int) (x8_3:Bool):Option (((List cy) × Int × Int × Unit) × Unit):=
 ev0 n [.r,.r,.l,.r,.l,.at m] [(1,.one (.int .i64 a1)),(7,.one (.sl 149 x7 .app)),(8,.box [.str x8_0,.int .i64 x8_1,.int .i64 x8_2,.bool x8_3])]
def Qq:bJ:=⟨8,[[0],[2]],[],[]⟩
def z3:at1 × Unit->Option ((at1 × Unit) × Unit):=bK (U:=U) Tryz.prog Ak Qq 0 Tryz.f151 jV
def Uw:bG U:=⟨151,jV,z3⟩
def EZ:bJ:=⟨49,[[0],[5,7],[5,7,19],[2,3,4],[5,8],[5,8,9],[8,9,21,22,23],[8,9,21,22,23,24],[8,9,11,21,22,23],[8,9,11,21,22,23,27],[8,9,21,22,23],[8,9,11,21,22,23,31],[8,9,21,22,23],[8,9,21,22,23],[8,9,46],[2,3,4],[2,3,4]],[35],[]⟩
def B7:List (bG U):=[FI,wz]
def Hg (n:Nat):at1 × Unit->Option (((List b8) × Bool × Int × Unit) × Unit):=bK (U:=U) Tryz.prog B7 EZ n Tryz.f284 mW
def lg:=Hg fuel
def BR:bG U:=⟨284,mW,lg⟩
def ZS:=lp (tab B7) EZ Tryz.f284 0 mW
def pK (n m:Nat) (r1:((List cy) × Int × Int × Unit) × Unit) (x8:List b8) (x9:Bool) (x23:Int):Option (((List b8) × Bool × Int × Unit) × Unit):=
 ZS n [.r,.r,.r,.r,.r,.l,.r,.l,.at m] [(8,.one (.sl 96 x8 .app)),(9,.one (.bool x9)),(21,.one (.sl 149 r1.1.1 .ro)),(22,.one (.int .i64 (r1.1.1.length:Int))),(23,.one (.int .i64 x23))]
def V9:List (bG U):=[BR]
def tK:at1 × Int × Unit->Option ((Bool × Int × Unit) × Unit):=bK (U:=U) Tryz.prog V9 BD 0 Tryz.f294 qS
def CO:bG U:=⟨294,qS,tK⟩
def rg:bT τ:=⟨[(true,uM),(false,cz)],[eo]⟩
def Pd:bJ:=⟨20,[[0,1],[0,1,5,6],[0,1,6,12],[6],[4]],[],[]⟩
def Qg:List (bG U):=[CO]
def Ad:eA × at1 × Unit->Option ((Int × Unit) × (eA × Unit)):=bK (U:=U) Tryz.prog Qg Pd 0 Tryz.f279 rg
def Tv:bG U:=⟨279,rg,Ad⟩
def nS:at1 × Unit->Option ((at1 × Bool × Unit) × Unit):=bK (U:=U) Tryz.prog bU ko 0 Tryz.f295 ei
def vv:bG U:=⟨295,ei,nS⟩
def Kf:bJ:=⟨53,[[0,1],[0,1,12],[4],[0,1,5],[0,1,5,21],[4],[0,1,5,6],[0,1,5,6,7,8],[0,1,5,6,8,33],[4],[0,5,9],[0,5,9,39],[0,5,9],[],[4]],[],[]⟩
def Mz:List (bG U):=[CO,vv,vu]
def Bu:eA × at1 × Unit->Option ((Int × Unit) × (eA × Unit)):=bK (U:=U) Tryz.prog Mz Kf 0 Tryz.f280 rg
def Md:bG U:=⟨280,rg,Bu⟩
def CL:bT τ:=⟨[(true,xL),(false,cd)],[cd]⟩
def gS:eX × Int × Unit->Option ((Int × Unit) × (eX × Unit)):=bK (U:=U) Tryz.prog pW qA 0 Tryz.f285 CL
def Fv:bG U:=⟨285,CL,gS⟩
def GW:bT τ:=⟨[(true,xL),(false,cd)],[cz]⟩
def ms:eX × Int × Unit->Option ((at1 × Unit) × (eX × Unit)):=bK (U:=U) Tryz.prog AK qA 0 Tryz.f286 GW
def Bn:bG U:=⟨286,GW,ms⟩
def EI:bT τ:=⟨[(true,xL),(false,cd),(false,cd),(false,cd)],[cz,eo]⟩
def O4:bJ:=⟨46,[[0,1,2,3],[0,2,3,10],[0,2,10,11],[0,11,36],[8,9],[0,12],[12,44],[8,9],[8,9]],[],[]⟩
def Td:List (bG U):=[tn,DY,Bn]
def pf:eX × Int × Int × Int × Unit->Option ((at1 × Int × Unit) × (eX × Unit)):=bK (U:=U) Tryz.prog Td O4 0 Tryz.f287 EI
def Cp:bG U:=⟨287,EI,pf⟩
def Hh:bT τ:=⟨[(true,xL)],[mw,cX,eo]⟩
def TI:bJ:=⟨16,[[0],[2,3,4]],[],[]⟩
def U6:List (bG U):=[BU,Bn,BR]
def pa:eX × Unit->Option (((List b8) × Bool × Int × Unit) × (eX × Unit)):=bK (U:=U) Tryz.prog U6 TI 0 Tryz.f288 Hh
def JA:bG U:=⟨288,Hh,pa⟩
def Je:bJ:=⟨93,[[1,2],[2,5],[2,5,6],[2,5,6,24,25,26],[2,5,6,24,25,26,27],[2,5,6,8,24,25,26],[2,5,6,24,25,26],[2,5,6,24,25,26],[2,5,6,38,39,40],[2,5,6,38,39,40,41],[2,5,6,10,38,39,40],[2,5,6,38,39,40],[2,5,6,38,39,40],[2,5,6,49],[2,3,4],[2,5,6,56],[2,3,4],[2,5,6,11,12],[2,5,6,11,12,73],[2,3,4],[2,6,11,12,13,14],[2,6,11,12,13,14,83],[2,3,4],[2,6,14],[2,6,90],[2,6],[2,3,4]],[],[]⟩
def Jr:List (bG U):=[lU,Fv,Cp,JA]
def JG (n:Nat):cy × Unit->Option ((eg × Bool × Int × Unit) × Unit):=bK (U:=U) Tryz.prog Jr Je n Tryz.f296 o0
def AY:=JG fuel
def PB:bG U:=⟨296,o0,AY⟩
def Nw:=lp (tab Jr) Je Tryz.f296 0 o0
def na (n m:Nat) (x6_0 x6_1 x6_2 x6_3:Int) (x19_0:at1) (x19_1 x19_2:Int) (x19_3:Bool) (x26:Int):Option ((eg × Bool × Int × Unit) × Unit):=
 Nw n [.r,.r,.r,.l,.r,.l,.at m] [(2,.box [.int .i64 0,.int .i64 0,.int .i64 0,.int .i64 0,.int .i64 0,.int .i64 0,.int .i64 0,.int .i64 0,.str ([]:at1),.sl 96 [] .app]),(5,.one (.ref 19 0)),(6,.box [.int .i64 x6_0,.int .i64 x6_1,.int .i64 x6_2,.int .i64 x6_3,.int .i64 0,.int .i64 0,.int .i64 0,.int .i64 0,.str ([]:at1),.sl 96 [] .app]),(19,.box [.str x19_0,.int .i64 x19_1,.int .i64 x19_2,.bool x19_3]),(24,.one (.prow 6 [0,1,2,3])),(25,.one (.int .i64 4)),(26,.one (.int .i64 x26))]
def pF (n m:Nat) (x6_0 x6_1 x6_2 x6_3 x6_4 x6_5 x6_6:Int) (x19_0:at1) (x19_1 x19_2:Int) (x19_3:Bool) (x40:Int):Option ((eg × Bool × Int × Unit) × Unit):=
 Nw n [.r,.r,.r,.r,.l,.r,.l,.at m] [(2,.box [.int .i64 0,.int .i64 0,.int .i64 0,.int .i64 0,.int .i64 0,.int .i64 0,.int .i64 0,.int .i64 0,.str ([]:at1),.sl 96 [] .app]),(5,.one (.ref 19 0)),(6,.box [.int .i64 x6_0,.int .i64 x6_1,.int .i64 x6_2,.int .i64 x6_3,.int .i64 x6_4,.int .i64 x6_5,.int .i64 x6_6,.int .i64 0,.str ([]:at1),.sl 96 [] .app]),(19,.box [.str x19_0,.int .i64 x19_1,.int .i64 x19_2,.bool x19_3]),(38,.one (.prow 6 [4,5,6])),(39,.one (.int .i64 3)),(40,.one (.int .i64 x40))]
def NX:bJ:=⟨18,[[0,1],[0,1,9],[4],[0,5],[5],[4]],[],[]⟩
def my:at1 × Int × Unit->Option ((at1 × Unit) × Unit):=bK (U:=U) Tryz.prog bU NX 0 Tryz.f301 gd
def B2:bG U:=⟨301,gd,my⟩
def GE:bT τ:=⟨[(true,uM),(false,tx)],[cz,cX]⟩
def RQ:bJ:=⟨56,[[0,3],[0,3,6,7],[0,3,6,7,16],[0,3,6,7],[3,6,7,8],[3,6,7,8,27],[3,6,7,8],[3,6,7,8,29],[4,5],[3,6,7,8],[3,7,9],[3,9,46],[3,9],[4,5]],[],[]⟩
def LD:List (bG U):=[B2,vv,vg]
def Ao:eA × eg × Unit->Option ((at1 × Bool × Unit) × (eA × Unit)):=bK (U:=U) Tryz.prog LD RQ 0 Tryz.f297 GE
def Ke:bG U:=⟨297,GE,Ao⟩
def GQ:bT τ:=⟨[(true,uM),(false,tx),(false,cz)],[]⟩
def OI:bJ:=⟨38,[[0,2,4],[0,2,4,9],[0,2,4,13],[0,2,4],[0,2,25],[0,6],[]],[],[]⟩
def KO:List (bG U):=[oT]
def vJ:eA × eg × at1 × Unit->Option ((Unit) × (eA × Unit)):=bK (U:=U) Tryz.prog KO OI 0 Tryz.f298 GQ
def Rq:bG U:=⟨298,GQ,vJ⟩
def Jz:bT τ:=⟨[(true,uM),(false,tx)],[cX]⟩
def MF:bJ:=⟨26,[[0,3],[4]],[],[]⟩
def zB:eA × eg × Unit->Option ((Bool × Unit) × (eA × Unit)):=bK (U:=U) Tryz.prog bU MF 0 Tryz.f299 Jz
def RK:bG U:=⟨299,Jz,zB⟩
def Ef:bT τ:=⟨[(true,uM),(false,nF)],[ii,eo]⟩
def Ls:bJ:=⟨71,[[0,3],[0,6,7,8],[0,6,8,18],[4,5],[0,6,7,9],[0,6,9,27],[4,5],[0,6,9],[0,6,9,35],[4,5],[0,10],[0,10,52],[10],[4,5]],[],[]⟩
def KX:List (bG U):=[PB,Ke,Rq,RK,vu]
def vR:eA × cy × Unit->Option (((List bE) × Int × Unit) × (eA × Unit)):=bK (U:=U) Tryz.prog KX Ls 0 Tryz.f281 Ef
def NR:bG U:=⟨281,Ef,vR⟩
def N2:bJ:=⟨41,[[2,3,4],[3,4,7],[3,4,7,8],[3,4,7,8,9],[3,4,7,8,9,14],[3,4,7,8,9,14,15],[4,7,8,9],[3,4,7,8,9,14,21],[4,7,8,9],[3,4,7,8,9,27],[4,7,8,9],[4,5,6]],[],[]⟩
def NL:List (bG U):=[Tv,Md,NR]
def rn:bQ × cy × Unit->Option ((bQ × (List bE) × Int × Unit) × Unit):=bK (U:=U) Tryz.prog NL N2 0 Tryz.f254 iQ
def MY:bG U:=⟨254,iQ,rn⟩
def DM:bT τ:=⟨[(true,VD)],[cd]⟩
def fy:ix × Unit->Option ((Int × Unit) × (ix × Unit)):=bK (U:=U) Tryz.prog pW Bq 0 Tryz.f282 DM
def Km:bG U:=⟨282,DM,fy⟩
def Fw:bT τ:=⟨[(true,VD),(false,cd)],[cz]⟩
def Tx:bJ:=⟨36,[[0,1],[0,1,5,6],[1,5],[1,5,7,8],[5,7,33],[4],[4]],[],[]⟩
def L9:List (bG U):=[nQ,vv]
def tu:ix × Int × Unit->Option ((at1 × Unit) × (ix × Unit)):=bK (U:=U) Tryz.prog L9 Tx 0 Tryz.f283 Fw
def VU:bG U:=⟨283,Fw,tu⟩
def PG:bJ:=⟨103,[[1,2],[1,2,5],[1,2,5,6],[1,2,5,6,21],[1,2,5,6,21,22],[1,2,5,6],[1,2,5,6],[1,2,5,6,21,32],[1,2,5,6],[1,2,5,6,21,37],[1,2,5,6],[1,2,5,6,49],[1,2,5,6],[1,2,5,6,63],[1,2,5,6],[1,2,5,6,73],[2,3,4],[1,2,5,6,77],[2,3,4],[2,6,7,8,9],[2,6,7,9,97],[2,3,4],[2,6],[2,3,4]],[],[]⟩
def Rt:List (bG U):=[lU,Km,BR,VU]
def pb:cy × Unit->Option ((bE × Bool × Int × Unit) × Unit):=bK (U:=U) Tryz.prog Rt PG 0 Tryz.f255 jY
def T3:bG U:=⟨255,jY,pb⟩
def J4:bJ:=⟨29,[[0,1,2],[0,1,2,7],[0,2,8],[2,8,20],[2,8],[6]],[],[]⟩
def OT:List (bG U):=[tn,B2,vv,vg]
def qg:Int × at1 × Int × Unit->Option ((at1 × Unit) × Unit):=bK (U:=U) Tryz.prog OT J4 0 Tryz.f289 sd
def Xx:bG U:=⟨289,sd,qg⟩
def JW:bJ:=⟨102,[[1,2],[1,2,5],[1,2,5,6],[1,2,5,6],[1,2,5,6,25],[1,2,5,6],[1,2,5,6],[1,2,5,6],[1,2,5,6],[1,2,5,6,38],[2,3,4],[1,2,5,6,45],[2,3,4],[1,2,5,6,7,8],[1,2,5,6,7,8,60],[2,3,4],[1,2,6,7,8,9,10],[2,6,7,8,9,89],[2,3,4],[2,6],[2,3,4]],[],[]⟩
def Ps:List (bG U):=[lU,Fv,Bn,Cp,JA,Xx]
def tI:cy × Unit->Option ((bE × Bool × Int × Unit) × Unit):=bK (U:=U) Tryz.prog Ps JW 0 Tryz.f256 jY
def O7:bG U:=⟨256,jY,tI⟩
def SB:List (bG U):=[MY,T3,O7]
def zr:bQ × cy × Unit->Option ((bQ × (List bE) × Int × Unit) × Unit):=bK (U:=U) Tryz.prog SB vP 0 Tryz.f211 iQ
def Se:bG U:=⟨211,iQ,zr⟩
def He:bJ:=⟨43,[[0,3],[0,3,6],[0,3,6,7],[0,3,6,7,13,14],[0,3,6,7,13,14,15],[0,3,6,7,8,13,14],[0,3,6,7,8,9,10,11,13,14],[0,3,6,7,8,9,10,11,13,14,28],[2,3,4,5],[0,3,6,7,10,13,14],[0,3,6,7,13,14],[0,3,6,7,13,14],[2,3,4,5]],[37],[]⟩
def HS:List (bG U):=[Se]
def E4 (n:Nat):(List cy) × Unit->Option (((List bE) × bQ × Int × Int × Unit) × Unit):=bK (U:=U) Tryz.prog HS He n Tryz.f152 nP
def AN:=E4 fuel
def Xv:bG U:=⟨152,nP,AN⟩
def ev1:=lp (tab HS) He Tryz.f152 0 nP
def vL (n m:Nat) (a0:List cy) (x6:List bE) (x7_0 x7_1 x7_2 x7_3 x7_4 x7_5 x7_6:at1) (x14:Int):Option (((List bE) × bQ × Int × Int × Unit) × Unit):=
 ev1 n [.r,.r,.r,.l,.r,.l,.at m] [(0,.one (.sl 149 a0 .ro)),(3,.box [.str ([]:at1),.str ([]:at1),.str ([]:at1),.str ([]:at1),.str ([]:at1),.str ([]:at1),.str ([]:at1)]),(6,.one (.sl 77 x6 .app)),(7,.box [.str x7_0,.str x7_1,.str x7_2,.str x7_3,.str x7_4,.str x7_5,.str x7_6]),(13,.one (.int .i64 (a0.length:Int))),(14,.one (.int .i64 x14))]
def NS:List (bG U):=[Sq,FI,Uw,Xv]
def yD:at1 × Unit->Option (((List bE) × Int × Int × Unit) × Unit):=bK (U:=U) Tryz.prog NS yI 0 Tryz.f85 eE
def U9:bG U:=⟨85,eE,yD⟩
def Jw:List (bG U):=[TK,Mo,Xt,U9]
def Bp:gU U:=inl Tryz.prog 44 (tab Jw) Fx 0 Tryz.f44 (tab Jw)
def xf:Int × at1 × Unit->Option (((List bE) × Int × Int × Unit) × Unit):=pM (U:=U) Tryz.prog Bp rE 0 Tryz.f27 mU
def LI:bG U:=⟨27,mU,xf⟩
def Ez:bT τ:=⟨[(true,rP),(false,cd),(false,cz)],[ii,cd,eo]⟩
def MX:bJ:=⟨31,[[0,1,2],[0,1,2,15],[6,7,8],[0,2,9,10,11],[9,10,11],[6,7,8]],[],[999999]⟩
def Wf:List (bG U):=[Bm,LI,B6]
def xc:dM × Int × at1 × Unit->Option (((List bE) × Int × Int × Unit) × (dM × Unit)):=bK (U:=U) Tryz.prog Wf MX 0 Tryz.f17 Ez
def Wy:bG U:=⟨17,Ez,xc⟩
def CF:bT τ:=⟨[(true,rP),(false,pJ)],[qG]⟩
def Ms:bJ:=⟨37,[[0,3,4],[0,3,4,5],[0,3,4,5,7],[4,5],[4,5],[4]],[],[999999]⟩
def SR:List (bG U):=[Xh,Wy]
def sJ:dM × da × Unit->Option ((dF × Unit) × (dM × Unit)):=bK (U:=U) Tryz.prog SR Ms 0 Tryz.f12 CF
def VO:bG U:=⟨12,CF,sJ⟩
def xt:bT τ:=⟨[(false,ii),(false,ii)],[cX]⟩
def Id:bJ:=⟨27,[[0,1],[0,1,10],[4],[0,1,5],[0,1,5,14],[0,1,5],[0,1,5,26],[4],[4]],[],[]⟩
def B5 (n:Nat):(List bE) × (List bE) × Unit->Option ((Bool × Unit) × Unit):=bK (U:=U) Tryz.prog t8 Id n Tryz.f18 xt
def Ax:=B5 fuel
def P7:bG U:=⟨18,xt,Ax⟩
def YI:=lp (tab t8) Id Tryz.f18 0 xt
def AX (n m:Nat) (a0 a1:List bE) (x5:Int):Option ((Bool × Unit) × Unit):=
 YI n [.r,.r,.l,.r,.l,.at m] [(0,.one (.sl 77 a0 .ro)),(1,.one (.sl 77 a1 .ro)),(5,.one (.int .i64 x5))]
def zb:bT τ:=⟨[(false,yA),(false,yA)],[cX]⟩
def EK (n:Nat):(List at1) × (List at1) × Unit->Option ((Bool × Unit) × Unit):=bK (U:=U) Tryz.prog bU mu n Tryz.f23 zb
def FX:=EK fuel
def WA:bG U:=⟨23,zb,FX⟩
def eP8:=lp (tab bU) mu Tryz.f23 0 zb
def A7 (n m:Nat) (a0 a1:List at1) (x5:Int):Option ((Bool × Unit) × Unit):=
 eP8 n [.r,.r,.l,.r,.l,.at m] [(0,.one (.sl 9 a0 .ro)),(1,.one (.sl 9 a1 .ro)),(5,.one (.int .i64 x5))]
def Hc:bT τ:=⟨[(false,qG),(false,qG)],[cX]⟩
def S5:bJ:=⟨31,[[2,3],[4]],[],[999999]⟩
def Uz:List (bG U):=[P7,WA]
def pC:dF × dF × Unit->Option ((Bool × Unit) × Unit):=bK (U:=U) Tryz.prog Uz S5 0 Tryz.f11 Hc
def Mq:bG U:=⟨11,Hc,pC⟩
def O0:bT τ:=⟨[(true,Tu)],[D6]⟩
def uD:gT × Unit->Option ((Int × Unit) × (gT × Unit)):=Ur
def Jc:bG U:=⟨24,O0,uD⟩
def Gy:bT τ:=⟨[(true,rP)],[cd,cd,cd]⟩
def Vc:bJ:=⟨17,[[0],[2,3,4]],[],[999999]⟩
def M7:List (bG U):=[Jc]
def we:dM × Unit->Option ((Int × Int × Int × Unit) × (dM × Unit)):=bK (U:=U) Tryz.prog M7 Vc 0 Tryz.f13 Gy
def MC:bG U:=⟨13,Gy,we⟩
def xv:bT τ:=⟨[(false,Df),(false,SM)],[cX]⟩
def FG:bJ:=⟨80,[[0,1],[0,1,5],[0,1,5,20],[4],[0,5,6],[0,5,6,7,8],[0,5,6,7,8,9],[0,5,6,7,8,9,35],[0,5,6,7,8,9],[0,5,6,7,8,9,40],[0,5,6,7,8,9],[0,5,6,7,8,9,54],[4],[8,10,11,12],[4]],[],[999999]⟩
def FU:List (bG U):=[MH,EG,Rg,Qy,VO,Mq,MC]
def EA (n:Nat):(List da) × Int × Unit->Option ((Bool × Unit) × Unit):=bK (U:=U) Tryz.prog FU FG n Tryz.f3 xv
def JO:=EA fuel
def dN5:bG U:=⟨3,xv,JO⟩
def Y4:=lp (tab FU) FG Tryz.f3 0 xv
def ri (n m:Nat) (a0:List da) (r3:((List dF) × mL × Unit) × Unit) (x6 x9 x13_0 x13_1 x13_2 x13_4 x13_5 x13_6 x13_7:Int):Option ((Bool × Unit) × Unit):=
 Y4 n [.r,.r,.r,.r,.r,.l,.r,.l,.at m] [(0,.one (.sl 39 a0 .ro)),(5,.one (.ref 13 0)),(6,.one (.int .i64 x6)),(7,.one (.sl 36 r3.1.1 .ro)),(8,.box [.int .i64 r3.1.2.1.c0,.int .i64 r3.1.2.1.c1,.int .i64 r3.1.2.1.c2]),(9,.one (.int .i64 x9)),(13,.box [.int .u32 x13_0,.int .i32 x13_1,.int .u32 x13_2,.any,.int .u32 x13_4,.int .i64 x13_5,.int .i64 x13_6,.int .i64 x13_7])]
def Hf:bT τ:=⟨[],[fe1]⟩
def Uy:bJ:=⟨2,[[0],[0]],[],[]⟩
def Ic:Unit->Option ((Do × Unit) × Unit):=bK (U:=U) Tryz.prog bU Uy 0 Tryz.f93 Hf
def KW:bG U:=⟨93,Hf,Ic⟩
def RG:bJ:=⟨12,[[0],[0,8],[2],[2]],[],[]⟩
def UK:List (bG U):=[KW]
def B9:Int × Unit->Option ((at1 × Unit) × Unit):=bK (U:=U) Tryz.prog UK RG 0 Tryz.f52 jS
def fe6:bG U:=⟨52,jS,B9⟩
end Go.VI
