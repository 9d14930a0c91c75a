import Derived.Test.YtjdlhgdklmkkhaaGreatSpFQ11
import Derived.Test.YtjdlhgdklmkkhaaGreatSpFQ14
import Derived.Test.YtjdlhgdklmkkhaaGreatSpM0
import Derived.Test.YtjdlhgdklmkkhaaGreatSpM1
import Derived.Test.YtjdlhgdklmkkhaaGreatSpM2
import Derived.Test.YtjdlhgdklmkkhaaGreatSpM3
import Derived.Test.YtjdlhgdklmkkhaaGreatSpM4
import Derived.Test.YtjdlhgdklmkkhaaGreatSpFGood
import Derived.Test.YtjdlhgdklmkkhaaGreatSpFQ0
import Derived.Test.YtjdlhgdklmkkhaaGreatSpFQ8
set_option linter.unusedVariables false
set_option linter.unusedSimpArgs false
set_option maxRecDepth 100000
noncomputable section
namespace Go.VP
open Go Go.VI
abbrev Act:=da
abbrev pj:=dF
abbrev jh:=dM
def tell (y:Act):pj:=if y.bk then ⟨[],(eU y.p y.most y.l).1,(eU y.p y.most y.l).2.1,(eU y.p y.most y.l).2.2⟩ else ⟨(ff y.p y.b).1,[],(ff y.p y.b).2.1,(ff y.p y.b).2.2⟩
def ov:pj:=⟨[],[],0,12⟩
def gP:List Bs->Nat
 | []=>0
 | b::r=>b.length+gP r
theorem fG0 (a:List Bs) (b:Bs):gP (a++[b])=gP a+b.length:=by
 induction a with
 | nil=>simp [gP]
 | cons x r ih=>simp [gP,ih]; omega
theorem qK {k:Nat}:∀ {a:List Bs},(∀ b∈a,b.length<=k)->gP a<=a.length * k
 | [],_=>by simp [gP]
 | b::r,h=>by
  have:=qK (a:=r) (fun x hx=>h x (List.mem_cons_of_mem _ hx));have:=h b (List.mem_cons_self ..);rw [gP,List.length_cons,Nat.succ_mul]; omega
theorem RZ {D:List Bs} {i:Nat} (h:i < D.length):gP (D.take (i+1))=gP (D.take i)+(D[i]).length:=by
 rw [List.take_succ_eq_append_getElem h,fG0]
def p5 (y:Act):Nat:=if y.bk then gP (eU y.p y.most y.l).1 else y.b.length
structure kL (y:Act):Prop where
 b:y.b.length<=1000
 l:y.l.length<=10
 g:∀ m∈y.l,zT m
theorem sX {p most:Int} {l:List bD}:(eU p most l).1.length<=l.length/\∀ b∈(eU p most l).1,b.length<=65535:=by
 unfold eU;by_cases hz:(gO p most l).2≠0
 ·rw [ab hz]; exact ⟨Nat.zero_le _,fun b hb=>by cases hb⟩
 ·rw [ac hz];have hc:=(WS (Classical.byContradiction hz)).2.2;obtain ⟨k1,k2,k3⟩:=Qu (p:=p) (most:=most) l.length l (Nat.le_refl _) (fun m hm=>(hc m hm).2);refine ⟨by unfold T2; rw [List.length_map]; exact k3,fun b hb=>?_⟩;obtain ⟨c,hc,rfl⟩:=List.mem_map.1 hb;exact (g39 (fP6 (k2 c hc).2).1).2
theorem Yb {p:Int} {b:Bs} (hb:b.length<=100000):(∀ m∈(ff p b).1,mG m)/\(ff p b).1.length<=65535:=by
 by_cases h:(ff p b).2.2=0
 ·obtain ⟨_,k1,k2,_⟩:=fP2 hb h;exact ⟨fun m hm=>(k1 m hm).2.2,k2⟩
 ·rw [(fu4 h).1]; exact ⟨fun m hm=>(by cases hm),by simp⟩
theorem Np {y:Act} (h:kL y):p5 y<=1000000:=by
 unfold p5;split
 ·have:=qK (sX (p:=y.p) (most:=y.most) (l:=y.l)).2;have h1:=(sX (p:=y.p) (most:=y.most) (l:=y.l)).1;have h2:=h.l;have h3:(eU y.p y.most y.l).1.length * 65535<=10 * 65535:=Nat.mul_le_mul_right _ (by omega);omega
 ·have:=h.b; omega
def oF (d:jh) (n:Nat) (e:Int):jh:=if e≠0 then ⟨d.aS,d.aF,d.aG,(),d.aH,d.aW+1,d.aT+1,d.aU⟩ else ⟨d.aS,d.aF,d.aG,(),d.aH,d.aW+1,d.aT,d.aU+n⟩
structure Wk (d:jh):Prop where
 calls:0<=d.aW/\d.aW<=1000000000
 failed:0<=d.aT/\d.aT<=1000000000
 bytes:0<=d.aU/\d.aU<=1000000000000000
theorem Dp (v:Int):uD (⟨v⟩,())=some ((v,()),(⟨v⟩,())):=rfl
theorem Kx (v:Int):zh (⟨v⟩,())=some ((v != 0,()),(⟨v⟩,())):=rfl
theorem ER (v d:Int) (h : -9223372036854775808<=v+d/\v+d<=9223372036854775807):ud (⟨v⟩,d,())=some ((v+d,()),(⟨v+d⟩,())):=by
 show some ((IntKind.wrap .i64 (v+d),()),((⟨IntKind.wrap .i64 (v+d)⟩:gT),()))=_;rw [bL h.1 h.2]
theorem KZ {d:jh} {n:Nat} {e:Int} (h:Wk d) (hn:n<=1000000000000000):uG (d,(n:Int),e,())=some ((),(oF d n e,())):=by
 obtain ⟨⟨c1,c2⟩,⟨f1,f2⟩,b1,b2⟩:=h;rw [dc6,ER _ _ (by omega),aa];unfold oF;refine bZ (fun q=>?_) (fun q=>?_)
 ·rw [ab q,ER _ _ (by omega)]; rfl
 ·rw [ac (fun c=>c q),ER _ _ (by omega)]; rfl
theorem fu8 {n:Nat} {d:jh} {r2:(List Bs × Int × Int × Unit) × Unit} {r1:(Bool × Unit) × (gR × Unit)} (h:Wk d) (hr:r1.2.1.v=d.aH) (hl:r2.1.1.length<=100000) (hb:∀ b∈r2.1.1,b.length<=65535) :
  ∀ (k m i:Nat),i+k=r2.1.1.length->k < m->yM n m r2 d r1 (gP (r2.1.1.take i)) i=some ((r2.1.1,r2.1.2.1,r2.1.2.2.1,()),(oF d (gP r2.1.1) r2.1.2.2.1,())):=by
 have hs:=qK hb;have hs':r2.1.1.length * 65535<=100000 * 65535:=Nat.mul_le_mul_right _ hl;intro k
 induction k with
 | zero=>
  intro m i hk hm;obtain ⟨m,rfl⟩:∃ j,m=j+1:=⟨m - 1,by omega⟩;rw [LZ,bN (by omega),List.take_of_length_le (by omega),hr];rw [show (dM.mk d.aS d.aF d.aG d.kinds d.aH d.aW d.aT d.aU)=d from rfl,KZ h (by omega)]
  rfl
 | succ k ih=>
  intro m i hk hm;obtain ⟨m,rfl⟩:∃ j,m=j+1:=⟨m - 1,by omega⟩;have hi:i < r2.1.1.length:=by omega
  have:=ih m (i+1) (by omega) (by omega);have ht:=RZ hi;have hle:gP (r2.1.1.take (i+1))<=100000 * 65535:=by
   have h1:=qK (k:=65535) (a:=r2.1.1.take (i+1)) (fun b hb'=>hb b (List.mem_of_mem_take hb'));have h2:(r2.1.1.take (i+1)).length * 65535<=100000 * 65535:=Nat.mul_le_mul_right _ (by rw [List.length_take]; omega);exact Nat.le_trans h1 h2
  rw [LZ,bP (by omega),ab (by omega),Int.toNat_natCast,ck hi,bL (by omega) (by omega),bL (by omega) (by omega)];rw [show ((i+1:Nat):Int)=(i:Int)+1 by omega,ht,Int.natCast_add] at this;exact this
theorem Yi {d:jh} {p most:Int} {l:List bD} (h:Wk d) (hl:l.length<=1000) (g:∀ m∈l,fH p m):D0 (d,p,l,most,())=if d.aH≠0 then some (([],0,12,()),(d,())) else some (bY (eU p most l),(oF d (gP (eU p most l).1) (eU p most l).2.2,())):=by
 show DE fuel _=_;rw [XQ,Kx,aa];dsimp only;refine bZ (fun q=>by rw [ab q]) (fun q=>?_);rw [ac (fun c=>c q),fY3 hl g,aa];obtain ⟨k1,k2⟩:=sX (p:=p) (most:=most) (l:=l);exact fu8 (n:=fuel) (d:=d) (r2:=(bY (eU p most l),())) h rfl (by dsimp only [bY]; omega) k2 (eU p most l).1.length fuel 0 (by simp [bY]) (cn (by omega))
theorem fG2 {d:jh} {p:Int} {b:Bs} (h:Wk d) (hb:b.length<=100000):xc (d,p,b,())=if d.aH≠0 then some (([],0,12,()),(d,())) else some (bY (ff p b),(oF d b.length (ff p b).2.2,())):=by
 rw [dc9,Kx,aa];dsimp only;refine bZ (fun q=>by rw [ab q]) (fun q=>?_);rw [ac (fun c=>c q),fF4 hb,aa];dsimp only [bY];rw [show (dM.mk d.aS d.aF d.aG d.kinds d.aH d.aW d.aT d.aU)=d from rfl,KZ h (by omega)]
 rfl
theorem fP8 (d:jh):we (d,())=some ((d.aW,d.aT,d.aU,()),(d,())):=by
 rw [dd0,Dp,aa,Dp,aa,Dp,aa]
end Go.VP
namespace Go.VP
open Go Go.VI
theorem fY4:th ()=some ((true,()),()):=rfl
theorem R3 {α:Type} (f:(Bool × Unit) × Unit->Option α):(th ()).bind f=f ((true,()),()):=by rw [fY4]; rfl
theorem fP9 (d:jh):∃ b,zw (d,())=some ((b,()),(⟨d.aS,d.aF,d.aG,(),if d.aH=0 then 1 else d.aH,d.aW,d.aT,d.aU⟩,())):=by
 by_cases h:d.aH=0
 ·refine ⟨true,?_⟩;have:vK (⟨d.aH⟩,false,true,())=some ((true,()),(⟨1⟩,())):=by
   rw [h]; rfl
  rw [NA,this,aa,ab h]
 ·refine ⟨false,?_⟩;have:vK (⟨d.aH⟩,false,true,())=some ((false,()),(⟨d.aH⟩,())):=by
   show (if false=false/\true=true then (if d.aH=0 then some ((true,()),((⟨1⟩:gR),())) else some ((false,()),(⟨d.aH⟩,()))) else none)=_;rw [ab ⟨rfl,rfl⟩,ac h]
  rw [NA,this,aa,ac h]
def after (d:jh) (y:Act):jh:=if d.aH≠0 then d else oF d (p5 y) (tell y).e
theorem fY5 {d:jh} {y:Act} (h:Wk d) (f:kL y):sJ (d,y,())=some ((if d.aH≠0 then ov else tell y,()),(after d y,())):=by
 rw [em8];unfold after tell p5;by_cases hp:y.bk=true
 ·rw [ab hp,Yi h (by have:=f.l; omega) (fun m hm=>(f.g m hm).p _)];by_cases hc:d.aH≠0
  ·rw [ab hc,ab hc,ab hc]; rfl
  ·rw [ac hc,ac hc,ac hc,ab hp,ab hp]; rfl
 ·rw [ac hp,fG2 h (by have:=f.b; omega)];by_cases hc:d.aH≠0
  ·rw [ab hc,ab hc,ab hc]; rfl
  ·rw [ac hc,ac hc,ac hc,ac hp,ac hp]; rfl
theorem PO {t:pj} (h1:t.l.length<=1000000) (h2:∀ m∈t.l,mG m) (h3:t.d.length<=100000):pC (t,t,())=some ((true,()),()):=by
 rw [en0,fJ2 h1 h2,aa];dsimp only;rw [ab rfl,X9 h3,aa];simp
theorem fQ0 {y:Act} (f:kL y):(tell y).l.length<=1000000/\(∀ m∈(tell y).l,mG m)/\(tell y).d.length<=100000:=by
 unfold tell;split
 ·have:=(sX (p:=y.p) (most:=y.most) (l:=y.l)).1;have:=f.l;exact ⟨Nat.zero_le _,(fun m hm=>by cases hm),(by dsimp only; omega)⟩
 ·obtain ⟨h1,h2⟩:=Yb (p:=y.p) (b:=y.b) (by have:=f.b; omega);exact ⟨by dsimp only; omega,h1,Nat.zero_le _⟩
theorem SZ {c:Prop} [Decidable c] {y:Act} (f:kL y):pC (if c then ov else tell y,if c then ov else tell y,())=some ((true,()),()):=by
 obtain ⟨h1,h2,h3⟩:=fQ0 f;split
 ·exact PO (Nat.zero_le _) (fun m hm=>by cases hm) (Nat.zero_le _)
 ·exact PO h1 h2 h3
theorem fQ1 {a:List Act} (g:UM a):∃ b,Fb (a,())=some ((b,()),())/\(b=true->a.length<=12/\∀ y∈a,kL y):=by
 have g:∀ y∈a,DF y:=g.1.2;show ∃ b,H8 fuel (a,())=_/\_;rw [XM];by_cases h:(12:Int) < (a.length:Int)
 ·rw [bP h]; exact ⟨false,rfl,fun h=>by cases h⟩
 rw [bN h];have go:∀ (d m i:Nat),i+d=a.length->d < m->∃ b,wU fuel m a i=some ((b,()),())/\(b=true->∀ y∈a.drop i,kL y):=by
  intro d
  induction d with
  | zero=>
   intro m i hd hm;obtain ⟨m,rfl⟩:∃ j,m=j+1:=⟨m - 1,by omega⟩;rw [MU,bN (by omega),List.drop_of_length_le (by omega)];exact ⟨true,rfl,fun _ y hy=>by cases hy⟩
  | succ d ih=>
   intro m i hd hm;obtain ⟨m,rfl⟩:∃ j,m=j+1:=⟨m - 1,by omega⟩;have hi:i < a.length:=by omega
   have gi:=g _ (List.getElem_mem hi);obtain ⟨_,_,_,gl,_⟩:=gi;have gl:∀ m∈(a[i]).l,pt m:=gl.2;obtain ⟨b,h1,h2⟩:=fT3 (a:=(a[i]).l) (k:=10) (by omega) (fun m hm=>fJ3 (gl m hm));rw [MU,bP (by omega),ab (by omega),Int.toNat_natCast,ck hi];by_cases hb:(1000:Int) < ((a[i]).b.length:Int)
   ·rw [bP hb]; exact ⟨false,rfl,fun h=>by cases h⟩
   rw [bN hb,ab (by omega),ck hi,h1,aa];dsimp only;cases b with
   | false=>rw [cK]; exact ⟨false,rfl,fun h=>by cases h⟩
   | true=>
    rw [b7,bL (by omega) (by omega)];obtain ⟨hl,hf⟩:=h2 rfl;obtain ⟨b,k1,k2⟩:=ih m (i+1) (by omega) (by omega);rw [show ((i+1:Nat):Int)=(i:Int)+1 by omega] at k1;refine ⟨b,k1,fun q y hy=>?_⟩;rw [List.drop_eq_getElem_cons hi] at hy;rcases List.mem_cons.1 hy with rfl | hy
    ·exact ⟨by omega,by omega,fun m hm=>g50 (gl m hm) (hf m hm)⟩
    ·exact k2 q y hy
 obtain ⟨b,h1,h2⟩:=go a.length fuel 0 (by omega) (cn (by omega));exact ⟨b,h1,fun q=>⟨by omega,fun y hy=>h2 q y (by simpa using hy)⟩⟩
def kD (y:Act) (n:Int × Int × Int):Int × Int × Int:=if (tell y).e≠0 then (n.1+1,n.2.1+1,n.2.2) else (n.1+1,n.2.1,n.2.2+p5 y)
def cZ (k:Int) (l:List Act):Nat->Int × Int × Int
 | 0=>(0,0,0)
 | i+1=>match l[i]? with
  | some y=>if 0<=k/\k<=(i:Int) then cZ k l i else kD y (cZ k l i)
  | none=>cZ k l i
def fQ (k:Int) (l:List Act):Nat->List pj
 | 0=>[]
 | i+1=>match l[i]? with
  | some y=>fQ k l i++[if 0<=k/\k<=(i:Int) then ov else tell y]
  | none=>fQ k l i
theorem IH {k:Int} {l:List Act} {i:Nat} (h:i < l.length):cZ k l (i+1)=if 0<=k/\k<=(i:Int) then cZ k l i else kD (l[i]) (cZ k l i):=by
 rw [cZ,List.getElem?_eq_getElem h]
theorem Gp {k:Int} {l:List Act} {i:Nat} (h:i < l.length):fQ k l (i+1)=fQ k l i++[if 0<=k/\k<=(i:Int) then ov else tell (l[i])]:=by
 rw [fQ,List.getElem?_eq_getElem h]
theorem tX {k:Int} {l:List Act}:∀ {i:Nat},i<=l.length->(fQ k l i).length=i
 | 0,_=>rfl
 | i+1,h=>by rw [Gp (by omega),List.length_append,tX (by omega)]; rfl
theorem M4 {k:Int} {l:List Act} {i:Nat} (hi:i < l.length):∀ {j:Nat},i < j->j<=l.length->(fQ k l j)[i]?=some (if 0<=k/\k<=(i:Int) then ov else tell (l[i]))
 | 0,h,_=>by omega
 | j+1,h,hj=>by
  rw [Gp (by omega)];by_cases e:i=j
  ·subst e;rw [List.getElem?_append_right (by rw [tX (by omega)]; omega),tX (by omega)];simp
  ·rw [List.getElem?_append_left (by rw [tX (by omega)]; omega)];exact M4 hi (by omega) (by omega)
theorem fu9 {y:Act} {n:Int × Int × Int} {i:Nat} (f:kL y) (h:0<=n.1/\n.1<=i/\0<=n.2.1/\n.2.1<=i/\0<=n.2.2/\n.2.2<=1000000 * i):0<=(kD y n).1/\(kD y n).1<=(i:Int)+1/\0<=(kD y n).2.1/\(kD y n).2.1<=(i:Int)+1/\0<=(kD y n).2.2/\(kD y n).2.2<=1000000 * ((i:Int)+1):=by
 have:=Np f;unfold kD;split <;> dsimp only <;> omega
theorem CZ {k:Int} {l:List Act} (f:∀ y∈l,kL y):∀ (i:Nat),i<=l.length->0<=(cZ k l i).1/\(cZ k l i).1<=i/\0<=(cZ k l i).2.1/\(cZ k l i).2.1<=i/\0<=(cZ k l i).2.2/\(cZ k l i).2.2<=1000000 * i
 | 0,_=>by simp [cZ]
 | i+1,h=>by
  have ih:=CZ (k:=k) f i (by omega);have:=fu9 (f _ (List.getElem_mem (show i < l.length by omega))) ih;rw [IH (by omega)];split
  ·omega
  ·omega
end Go.VP
