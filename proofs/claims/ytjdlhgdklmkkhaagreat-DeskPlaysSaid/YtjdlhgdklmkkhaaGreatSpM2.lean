import Derived.Test.YtjdlhgdklmkkhaaGreatSpFQ14
import Derived.Test.YtjdlhgdklmkkhaaGreatSpFQ7
import Derived.Test.YtjdlhgdklmkkhaaGreatSpM0
import Derived.Test.YtjdlhgdklmkkhaaGreatSpM1
import Derived.Test.YtjdlhgdklmkkhaaGreatSpFQ13
import Derived.Test.YtjdlhgdklmkkhaaGreatSpFQ5
import Derived.Test.YtjdlhgdklmkkhaaGreatSpFQ10
import Derived.Test.YtjdlhgdklmkkhaaGreatSpFQ11
import Derived.Test.YtjdlhgdklmkkhaaGreatSpFQ4
import Derived.Test.YtjdlhgdklmkkhaaGreatSpFQ0
import Derived.Test.YtjdlhgdklmkkhaaGreatSpFQ1
import Derived.Test.YtjdlhgdklmkkhaaGreatSpFQ9
import Derived.Test.YtjdlhgdklmkkhaaGreatSpFQ2
import Derived.Test.YtjdlhgdklmkkhaaGreatSpFQ3
import Derived.Test.YtjdlhgdklmkkhaaGreatSpFQ12
import Derived.Test.YtjdlhgdklmkkhaaGreatSpFQ8
set_option linter.unusedVariables false
set_option linter.unusedSimpArgs false
set_option maxRecDepth 100000
noncomputable section
namespace Go.VP
open Go Go.VI
theorem Pk (c:bS) (x:bD × Bool × Int):(iO c x).1=c/\(iO c x).2.1.length<=1:=by
 unfold iO; split
 ·exact ⟨rfl,by simp⟩
 split <;> exact ⟨rfl,by simp⟩
theorem fK9 (c:bS) (d:Bs):(eT c d).2.1.length<=1:=by
 unfold eT; split
 ·split
  ·split <;> simp
  ·simp
 ·simp
theorem yy {c:bS} {ty:Int} {d:Bs} (h:bA c):bA (dN c ty d).1/\(dN c ty d).2.1.length<=1:=by
 unfold dN;split
 ·exact ⟨h,by simp⟩
 split
 ·refine ⟨Zs h,?_⟩;unfold iz;split
  ·simp
  split
  ·simp
  split
  ·exact fK9 c d
  ·simp
 split
 ·have:=Pk c (je ty d); exact ⟨by rw [this.1]; exact h,this.2⟩
 split
 ·have:=Pk c (iE ty d); exact ⟨by rw [this.1]; exact h,this.2⟩
 ·exact ⟨h,by simp⟩
def c0:bS:=⟨[],[],[],[],[],[],[]⟩
def cR:bS->List dc->List bD->List bD × bS × Int × Int
 | c,[],acc=>(acc,c,0,0)
 | c,t::r,acc=>if (dN c t.aA t.data).2.2≠0 then ([],c0,t.at_,(dN c t.aA t.data).2.2) else cR (dN c t.aA t.data).1 r (acc++(dN c t.aA t.data).2.1)
theorem M9:lB<=100000:=Nat.le_of_ble_eq_true (by kernel_rfl)
theorem fz5 {n:Nat} {l:List dc} (hl:l.length<=100000) (hd:∀ t∈l,t.data.length<=1000):∀ (k m i:Nat) (c:bS) (acc:List bD),i+k=l.length->k < m->bA c->acc.length<=i->
  vL n m l acc c.au c.ak c.am c.aq c.ax c.ay c.id i=some (((cR c (l.drop i) acc).1,(cR c (l.drop i) acc).2.1,(cR c (l.drop i) acc).2.2.1,(cR c (l.drop i) acc).2.2.2,()),()):=by
 intro k
 induction k with
 | zero=>
  intro m i c acc h hm hc ha;obtain ⟨m,rfl⟩:∃ k,m=k+1:=⟨m - 1,by omega⟩;rw [Rv,bN (by omega),List.drop_eq_nil_of_le (by omega)]; rfl
 | succ k ih=>
  intro m i c acc h hm hc ha;obtain ⟨m,rfl⟩:∃ k,m=k+1:=⟨m - 1,by omega⟩;have hi:i < l.length:=by omega
  have h1:=Z8 (at_:=l[i].at_) (ty:=l[i].aA) hc (hd _ (List.getElem_mem hi));obtain ⟨o1,o2⟩:=yy (ty:=l[i].aA) (d:=l[i].data) hc;have:=ih m (i+1) _ (acc++(dN c l[i].aA l[i].data).2.1) (by omega) (by omega) o1 (by rw [List.length_append]; omega);rw [show ((i+1:Nat):Int)=(i:Int)+1 by omega] at this;have hp:0<=(i:Int):=by omega
  have hbo:=M9;rw [Rv,bP (by omega),ab hp,Int.toNat_natCast,ck hi,List.drop_eq_getElem_cons hi,cR];rw [show (bQ.mk c.au c.ak c.am c.aq c.ax c.ay c.id)=c from rfl,h1,aa];dsimp only;refine bZ (fun he=>?_) (fun he=>?_)
  ·rw [ab hp,ck hi,ab he]; rfl
  ·rw [ab (d7 (Nat.le_trans (Nat.mul_le_mul (show acc.length+(dN c l[i].aA l[i].data).2.1.length<=100001 by omega) hbo) (by decide))),bL (by omega) (by omega),this,ac (fun q=>q he)]
theorem ZR {n:Nat} {l:List dc} (hl:l.length<=100000) (hd:∀ t∈l,t.data.length<=1000):∀ (k m i:Nat) (c:bS) (acc:List bD),i+k=l.length->k < m->bA c->acc.length<=i->
  vX n m l acc c.au c.ak c.am c.aq c.ax c.ay c.id i=some (((cR c (l.drop i) acc).1,(cR c (l.drop i) acc).2.1,(cR c (l.drop i) acc).2.2.1,(cR c (l.drop i) acc).2.2.2,()),()):=by
 intro k
 induction k with
 | zero=>
  intro m i c acc h hm hc ha;obtain ⟨m,rfl⟩:∃ k,m=k+1:=⟨m - 1,by omega⟩;rw [Qp,bN (by omega),List.drop_eq_nil_of_le (by omega)]; rfl
 | succ k ih=>
  intro m i c acc h hm hc ha;obtain ⟨m,rfl⟩:∃ k,m=k+1:=⟨m - 1,by omega⟩;have hi:i < l.length:=by omega
  have h1:=fU8 (at_:=l[i].at_) (ty:=l[i].aA) hc (hd _ (List.getElem_mem hi));obtain ⟨o1,o2⟩:=yy (ty:=l[i].aA) (d:=l[i].data) hc;have:=ih m (i+1) _ (acc++(dN c l[i].aA l[i].data).2.1) (by omega) (by omega) o1 (by rw [List.length_append]; omega);rw [show ((i+1:Nat):Int)=(i:Int)+1 by omega] at this;have hp:0<=(i:Int):=by omega
  have hbo:=M9;rw [Qp,bP (by omega),ab hp,Int.toNat_natCast,ck hi,List.drop_eq_getElem_cons hi,cR];rw [show (bQ.mk c.au c.ak c.am c.aq c.ax c.ay c.id)=c from rfl,h1,aa];dsimp only;refine bZ (fun he=>?_) (fun he=>?_)
  ·rw [ab hp,ck hi,ab he]; rfl
  ·rw [ab (d7 (Nat.le_trans (Nat.mul_le_mul (show acc.length+(dN c l[i].aA l[i].data).2.1.length<=100001 by omega) hbo) (by decide))),bL (by omega) (by omega),this,ac (fun q=>q he)]
theorem nU:bA c0:=fK7
theorem fU9 {l:List dc} (hl:l.length<=100000) (hd:∀ t∈l,t.data.length<=1000):AN (l,())=some (((cR c0 l []).1,(cR c0 l []).2.1,(cR c0 l []).2.2.1,(cR c0 l []).2.2.2,()),()):=by
 show E4 fuel (l,())=_;rw [e67];exact fz5 (n:=fuel) hl hd l.length fuel 0 c0 [] (by omega) (cn (by omega)) nU (by simp)
theorem fL0 {l:List dc} (hl:l.length<=100000) (hd:∀ t∈l,t.data.length<=1000):AR (l,())=some (((cR c0 l []).1,(cR c0 l []).2.1,(cR c0 l []).2.2.1,(cR c0 l []).2.2.2,()),()):=by
 show Cj fuel (l,())=_;rw [en4];exact ZR (n:=fuel) hl hd l.length fuel 0 c0 [] (by omega) (cn (by omega)) nU (by simp)
end Go.VP
namespace Go.VP
open Go Go.VI
theorem MK:∀ (a b:List dc) (c:bS) (acc:List bD),(cR c a acc).2.2.2=0->cR c (a++b) acc=cR (cR c a acc).2.1 b (cR c a acc).1
 | [],b,c,acc,_=>rfl
 | t::r,b,c,acc,h=>by
  rw [List.cons_append,cR,cR];rw [cR] at h;by_cases he:(dN c t.aA t.data).2.2≠0
  ·rw [ab he] at h; exact absurd h he
  ·rw [ac he] at h |-;rw [ac he];exact MK r b _ _ h
theorem Up:∀ (a:List dc) (c:bS) (acc:List bD),(cR c a acc).2.2.2≠0->(cR c a acc).1=[]/\(cR c a acc).2.1=c0
 | [],c,acc,h=>absurd rfl h
 | t::r,c,acc,h=>by
  rw [cR] at h |-;by_cases he:(dN c t.aA t.data).2.2≠0
  ·rw [ab he]; exact ⟨rfl,rfl⟩
  ·rw [ac he] at h |-;exact Up r _ _ h
theorem RL:∀ (a:List dc) (c:bS) (acc:List bD),(cR c a acc).2.2.2=0->(cR c a acc).2.2.1=0
 | [],c,acc,h=>rfl
 | t::r,c,acc,h=>by
  rw [cR] at h |-;by_cases he:(dN c t.aA t.data).2.2≠0
  ·rw [ab he] at h; exact absurd h he
  ·rw [ac he] at h |-;exact RL r _ _ h
theorem Q8:∀ (a:List dc) (c:bS) (acc:List bD),bA c->(cR c a acc).1.length<=acc.length+a.length/\bA (cR c a acc).2.1
 | [],c,acc,hc=>⟨by show acc.length<=_; omega,hc⟩
 | t::r,c,acc,hc=>by
  rw [cR];obtain ⟨h1,h2⟩:=yy (ty:=t.aA) (d:=t.data) hc;by_cases he:(dN c t.aA t.data).2.2≠0
  ·rw [ab he]; exact ⟨by simp,nU⟩
  ·rw [ac he];obtain ⟨h3,h4⟩:=Q8 r _ (acc++(dN c t.aA t.data).2.1) h1;exact ⟨by simp only [List.length_append,List.length_cons] at h3 |-; omega,h4⟩
theorem Lv {P:bD->Prop} {Q:dc->Prop} (hP:∀ c t,bA c->Q t->∀ m∈(dN c t.aA t.data).2.1,P m):∀ (a:List dc) (c:bS) (acc:List bD),bA c->(∀ t∈a,Q t)->(∀ m∈acc,P m)->∀ m∈(cR c a acc).1,P m
 | [],c,acc,hc,hq,h=>h
 | t::r,c,acc,hc,hq,h=>by
  rw [cR];obtain ⟨h1,h2⟩:=yy (ty:=t.aA) (d:=t.data) hc;by_cases he:(dN c t.aA t.data).2.2≠0
  ·rw [ab he]; intro m hm; cases hm
  ·rw [ac he];refine Lv hP r _ _ h1 (fun x hx=>hq x (List.mem_cons_of_mem _ hx)) (fun m hm=>?_);rcases List.mem_append.1 hm with hm | hm
   ·exact h m hm
   ·exact hP _ _ hc (hq t (List.mem_cons_self ..)) m hm
def Except.app (x:Except Int (List dc)) (a:List dc):Except Int (List dc):=x.map (a++·)
theorem fq1:∀ (a:Bs) (p:Int) (la:List dc),cP p a=.ok la->∀ b,cP p (a++b)=(cP (p+a.length) b).map (la++·):=by
 intro a
 induction h:a.length using Nat.strongRecOn generalizing a with
 | ind n ih=>
  intro p la hs b;subst h
  match a,hs with
  | [],hs=>
   rw [iY] at hs;cases hs;rw [List.nil_append,show p+((([]:Bs).length:Nat):Int)=p by simp];cases cP p b <;> rfl
  | t::r,hs=>
   by_cases ht:t=0
   ·subst ht;rw [nu] at hs;cases hr:cP (p+1) r with
    | error q=>rw [hr] at hs; cases hs
    | ok lr=>
     rw [hr] at hs;cases hs;have:=ih r.length (by simp) r rfl (p+1) lr hr b;rw [List.cons_append,nu,this,show p+1+(r.length:Int)=p+((((0:UInt8)::r).length:Nat):Int) by simp; omega];cases cP (p+((((0:UInt8)::r).length:Nat):Int)) b <;> rfl
   ·match r,hs with
    | [],hs=>rw [ot ht] at hs; cases hs
    | n::d,hs=>
     by_cases hn:d.length < n.toNat
     ·rw [pd ht hn] at hs; cases hs
     ·rw [lT ht (by omega)] at hs;cases hr:cP (p+2+n.toNat) (d.drop n.toNat) with
      | error q=>rw [hr] at hs; cases hs
      | ok lr=>
       rw [hr] at hs;cases hs;have:=ih (d.drop n.toNat).length (by simp; omega) (d.drop n.toNat) rfl _ lr hr b;rw [List.cons_append,List.cons_append,lT ht (by rw [List.length_append]; omega),List.drop_append_of_le_length (by omega),this,List.take_append_of_le_length (by omega),show p+2+(n.toNat:Int)+((d.drop n.toNat).length:Int)=p+(((t::n::d).length:Nat):Int) by simp; omega];cases cP (p+(((t::n::d).length:Nat):Int)) b <;> rfl
end Go.VP
namespace Go.VP
open Go Go.VI
structure eH (m:bD):Prop where
 kind:m.kind=11
 bare:cM m=true
 subs:fa m.subs=true
 inn:ky m.ae m.ah m.af=true
 iv:0<=m.aw/\m.aw < 65536
 sq:0<=m.seq/\m.seq < 65536
 me:0<=m.aj/\m.aj < 65536
 far:m.aj=65535->m.id=[]/\m.next=[]
 near:m.aj≠65535->0 < m.ae/\m.id.length=8/\(m.next=[]\/gV m.next=b9 m.ae)
def wP (m:bD):Bool:=if m.aj=65535 then (m.id==[] && m.next==[]) else decide (0 < m.ae) && (decide (m.id.length=8) && (m.next==[] || decide (gV m.next=b9 m.ae)))
def m8 (m:bD):Bool:=decide (m.kind=11) && (cM m && (fa m.subs && (ky m.ae m.ah m.af && (b6 m.aw 2 && (b6 m.seq 2 && (b6 m.aj 2 && wP m))))))
theorem Gq {m:bD}:m8 m=true↔eH m:=by
 unfold m8 wP;simp only [Bool.and_eq_true,decide_eq_true_eq,lh];constructor
 ·rintro ⟨a,b,c,d,e,f,g,h⟩
  refine ⟨a,b,c,d,e,f,g,fun hm=>?_,fun hm=>?_⟩
  ·rw [ab hm] at h; simpa using h
  ·rw [ac hm] at h; simpa using h
 ·intro h;refine ⟨h.1,h.2,h.3,h.4,h.5,h.6,h.7,?_⟩;by_cases hm:m.aj=65535
  ·rw [ab hm]; simpa using h.far hm
  ·rw [ac hm]; simpa using h.near hm
def vt (ae:Int) (a:Bs) (af:Int):bD:=⟨12,0,0,[],0,ae,a,af,0,[],0,[],0,0,0,0,0,0,0,[],[],[],0,[],[]⟩
theorem eH.asR {m:bD} (h:eH m):gN (vt m.ae m.ah m.af):=by
 obtain ⟨a,b,c,d,e⟩:=tL.1 h.inn;have hb:dv (vt m.ae m.ah m.af)=some (vt m.ae m.ah m.af):=rfl;exact ⟨by rw [cM,hb]; exact iA _,rfl,a,b,c,d,e,rfl⟩
def fA:Bs->Bs->Nat
 | a::x,b::y=>if a=b then fA x y+1 else 0
 | _,_=>0
theorem Q1:∀ x y:Bs,fA x y<=x.length/\fA x y<=y.length
 | [],y=>by simp [fA]
 | a::x,[]=>by simp [fA]
 | a::x,b::y=>by
  have:=Q1 x y;rw [fA]; split <;> simp <;> omega
theorem WU:∀ x y:Bs,x.take (fA x y)=y.take (fA x y)
 | [],y=>by simp [fA]
 | a::x,[]=>by simp [fA]
 | a::x,b::y=>by
  rw [fA]; split
  ·rename_i h; rw [List.take_succ_cons,List.take_succ_cons,WU x y,h]
  ·rfl
def lR (ae:Int):Int:=if ae=0 then 0 else 128
def kg (m:bD) (n:Nat):Bs:=[bF m.ae,bF (lR m.ae),bF m.af,bF n]++(be 2 m.aw++(be 2 m.seq++(be 2 m.aj++((cD m).drop n++bX m.subs))))
theorem eH.pre {m:bD} (h:eH m):(0<=m.ae/\m.ae < 4)/\(0<=m.af/\m.af<=128)/\((cD m).length:Int)=cJ m.af - cq m.ae/\(cD m).length<=16/\(0<=cq m.ae/\cq m.ae<=8)/\m.ah.length<=16:=by
 have r:=h.asR;have hc:((cD m).length:Int)=cJ m.af - cq m.ae:=r.cut.2;obtain ⟨l1,l2,l3,l4,l5,l6⟩:=kp r.ae r.af;have hl:(m.ah.length:Int)=cA m.ae:=r.len;have hb:=lD m.ae;dsimp only [vt] at l1 l2 l3 l4 l5 l6;exact ⟨r.ae,⟨l4,l5⟩,hc,by omega,hb,by omega⟩
theorem PA {m:bD} (h:eH m) (n:Nat):(kg m n).length=10+((cD m).length - n)+(bX m.subs).length:=by
 unfold kg;simp [cm]; omega
theorem fz6 {m:bD} (h:eH m) {n:Nat} (hn:n<=(cD m).length):cC (kg m n)=(⟨m.ae,lR m.ae,m.af,n,m.aw,m.seq,m.aj,1,(cD m).drop n,m.subs⟩,true,0):=by
 obtain ⟨hae,hpl,hbl,h16,hbs,_⟩:=h.pre;obtain ⟨hr,hs⟩:=nZ h.subs;have hg:=Ht hr hs;have q1:e9 m.ae m.af=false:=(WD h.asR).1;have hlen:=PA h n;have uA:((bF m.ae).toNat:Int)=m.ae:=by rw [fD,ab hae.1]; omega
 have uF:((bF (lR m.ae)).toNat:Int)=lR m.ae:=by unfold lR; split <;> rfl
 have uP:((bF m.af).toNat:Int)=m.af:=by rw [fD,ab hpl.1]; omega
 have uN:((bF (n:Int)).toNat:Int)=n:=by rw [fD,ab (by omega)]; omega
 generalize hD:kg m n=D at *;have e:D=[bF m.ae,bF (lR m.ae),bF m.af,bF n]++(be 2 m.aw++(be 2 m.seq++(be 2 m.aj++((cD m).drop n++bX m.subs)))):=by rw [<- hD]; rfl
 have t0:bt D 0=m.ae:=by rw [e]; exact uA
 have t1:bt D 1=lR m.ae:=by rw [e]; exact uF
 have t2:bt D 2=m.af:=by rw [e]; exact uP
 have t3:bt D 3=n:=by rw [e]; exact uN
 have c4:bH D 4 2=be 2 m.aw:=by
  rw [e,dS (k:=4) rfl (by omega) (by omega)]; exact fT rfl
 have c6:bH D 6 2=be 2 m.seq:=by
  rw [e,dS (k:=4) rfl (by omega) (by omega),dS (k:=2) rfl (by omega) (by omega)]; exact fT rfl
 have c8:bH D 8 2=be 2 m.aj:=by
  rw [e,dS (k:=4) rfl (by omega) (by omega),dS (k:=2) rfl (by omega) (by omega),dS (k:=2) rfl (by omega) (by omega)]; exact fT rfl
 have hrn:cp m.ae m.af n=(((cD m).drop n).length:Nat):=by unfold cp; rw [List.length_drop]; omega
 have c10:bH D 10 (((cD m).drop n).length:Nat)=(cD m).drop n:=by
  rw [e,dS (k:=4) rfl (by omega) (by omega),dS (k:=2) rfl (by omega) (by omega),dS (k:=2) rfl (by omega) (by omega),dS (k:=2) rfl (by omega) (by omega)]; exact fT rfl
 have hp:dw D 10 m.ae m.af n=((cD m).drop n,0):=by
  rw [sM q1 (by omega) (by rw [hrn,List.length_drop]; omega),hrn,c10]
 have hdr:D.drop (10+cp m.ae m.af n).toNat=bX m.subs:=by
  rw [hrn,e,<- List.append_assoc,<- List.append_assoc,<- List.append_assoc,<- List.append_assoc];exact List.drop_left' (by simp [cm]; omega)
 unfold cC;rw [ac (by omega),t0,ac (by omega)];dsimp only;rw [t2,t3,t1,hp,hdr,hg];dsimp only;rw [ac (show ¬(0:Int)≠0 by decide),ac (show ¬(0:Int)≠0 by decide),c4,c6,c8,jx h.iv,jx h.sq,jx h.me,ab rfl]
def dg (c:bS) (f:Int):Bs:=if f=0 then c.ax else c.ay
def fb (c:bS) (ae:Int) (a:Bs):bS:=if ae=0 then c else ⟨c.au,(if ae=1 then a else c.ak),(if ae=2 then a else c.am),(if ae=3 then a else c.aq),c.ax,c.ay,c.id⟩
theorem M2 (c:bS) (ae:Int) (a:Bs):(fb c ae a).id=c.id:=by unfold fb; split <;> rfl
theorem Yn (c:bS) (ae:Int) (a:Bs) (f:Int):dg (fb c ae a) f=dg c f:=by unfold fb; split <;> rfl
theorem ZL {m:bD} (hk:m.kind=11) (hb:cM m=true):(⟨11,0,0,[],0,m.ae,m.ah,m.af,0,m.next,m.aj,m.id,m.seq,0,m.aw,0,0,0,0,[],[],[],0,[],m.subs⟩:bD)=m:=by
 have hx:dv m=some ⟨m.kind,0,0,[],0,m.ae,m.ah,m.af,0,m.next,m.aj,m.id,m.seq,0,m.aw,0,0,0,0,[],[],[],0,[],m.subs⟩:=by
  unfold dv; rw [ac (by omega),ac (by omega),ac (by omega),ac (by omega),ac (by omega),ac (by omega),ac (by omega),ac (by omega),ac (by omega),ac (by omega),ab hk]
 rw [cM,hx] at hb;have:=ma.1 hb;rw [hk] at this;exact this
theorem fL1 {c:bS} {m:bD} {n:Nat} (hc:bA c) (h:eH m) (hn:n<=(cD m).length)
  (hk:n≠0->dl c m.ae≠[]/\((dl c m.ae).drop (cq m.ae).toNat).take n=(cD m).take n)
  (hf:m.aj≠65535->c.id=m.id/\dg c (b9 m.ae)=m.next):eT c (kg m n)=(fb c m.ae m.ah,[m],0):=by
 obtain ⟨hae,hpl,hbl,h16,hbs,_⟩:=h.pre;have hw:dY m.ae (cD m) m.af=m.ah:=Cn (m:=vt m.ae m.ah m.af) h.asR;have ht:=fz6 h hn;have ha:dO c (cC (kg m n)).1=(m.ah,true):=by
  rw [ht]; unfold dO;dsimp only;by_cases h0:n=0
  ·rw [ab (by omega),h0,List.drop_zero,hw]
  ·obtain ⟨k1,k2⟩:=hk h0;have hcut:bH (dl c m.ae) (cq m.ae) (n:Int)=(cD m).take n:=by
    rw [<- k2]; unfold bH;rw [List.drop_take,show (cq m.ae+(n:Int)).toNat - (cq m.ae).toNat=n by omega]
   rw [ac (by omega),ac k1,hcut,List.take_append_drop,hw]
 have hfl:cS c (cC (kg m n)).1 m.ah=fb c m.ae m.ah:=by
  rw [ht]; unfold cS fb lR;dsimp only;by_cases a0:m.ae=0
  ·rw [ab a0,ab a0]
  ·simp only [ac a0];rw [ab (show (128:Int)<=128 by decide),ac (show ¬((128:Int) / 64 % 2=1) by decide)]
 have hto:jX (fb c m.ae m.ah) (cC (kg m n)).1=true:=by
  rw [ht]; unfold jX;dsimp only;rw [M2];by_cases hm:m.aj=65535
  ·simp [hm]
  ·have hn:=h.near hm;have hi:c.id≠[]:=by
    rw [(hf hm).1]; intro e; rw [e] at hn; exact absurd hn.2.1 (by decide)
   simp [hi]; omega
 have hu:kR (fb c m.ae m.ah) (cC (kg m n)).1 m.ah=m:=by
  rw [ht]; unfold kR;dsimp only;have hx:=ZL h.kind h.bare;by_cases hm:m.aj=65535
  ·obtain ⟨f1,f2⟩:=h.far hm;rw [ab hm,ab hm];rw [f1,f2] at hx;exact hx
  ·obtain ⟨f1,f2⟩:=hf hm;rw [ac hm,ac hm,M2,f1];have:(if b9 m.ae=0 then (fb c m.ae m.ah).ax else (fb c m.ae m.ah).ay)=m.next:=by
    rw [<- f2]; exact Yn c m.ae m.ah (b9 m.ae)
   rw [this];exact hx
 rw [Rp (by rw [ht]) (by rw [ha]),ha,hfl,ab hto,hu]
def wJ (s:Bs):Bs:=0::0::s
def ki (a:Bs):Bs:=if df a=true then 3::0::a.drop 8 else if a.length=4 then 1::0::a else 2::0::a
theorem Ai {d:Bs} {n:Int} (h:(d.length:Int)=n):fM d n=(true,0):=by
 unfold fM;rw [ac (by omega),List.drop_eq_nil_of_le (by omega),fK4]
theorem fL2 {c:bS} {s:Bs} (h:s.length=8):lz c (wJ s)=(eQ c s,0):=by
 unfold lz wJ;rw [Ai (by simp [h]),ab rfl];have:bH (0::0::s) 2 8=s:=by
  show bH ([0,0]++s) 2 8=s;rw [dS (k:=2) rfl (by omega) (by omega)];have:=fT (x:=s) (y:=[]) (n:=8) (by omega)
  rwa [List.append_nil] at this
 rw [this]
theorem fq2 {a:Bs} {f:Int} (hf:gV a=f) (h:f=0\/f=1):(f=0/\a.length=4)\/(f=1/\a.length=16):=by
 unfold gV at hf;split at hf
 ·exact .inl ⟨hf.symm,by assumption⟩
 split at hf
 ·exact .inr ⟨hf.symm,by assumption⟩
 ·omega
theorem fz8 {c:bS} {a:Bs} {f:Int} (h:(f=0/\a.length=4)\/(f=1/\a.length=16)):iW c (ki a)=(ge c f a,0):=by
 have ca:∀ (x y:UInt8) (s:Bs) (n:Int),(s.length:Int)=n->bH (x::y::s) 2 n=s:=fun x y s n hs=>by
  show bH ([x,y]++s) 2 n=s;rw [dS (k:=2) rfl (by omega) (by omega)];have:=fT (x:=s) (y:=[]) (n:=n) hs
  rwa [List.append_nil] at this
 unfold ki;by_cases hl:df a=true
 ·have h16:=jD hl;have h8:(a.drop 8).length=8:=by rw [List.length_drop]; omega
  have b0:bt (3::0::a.drop 8) 0=3:=rfl;have n3:en 3=8:=rfl;have f3:b9 3=1:=rfl;rw [ab hl];unfold iW jv;rw [b0,n3,ac (by simp; omega),ac (by omega),Ai (by simp [h8]),ab rfl,ab rfl,ca _ _ _ 8 (by omega),f3];have:(fc (a.drop 8)).1=a:=by unfold fc; rw [ab h8]; exact Ku hl
  rw [this];rcases h with ⟨rfl,h⟩ | ⟨rfl,h⟩
  ·omega
  ·rfl
 ·rw [ac hl];rcases h with ⟨rfl,h⟩ | ⟨rfl,h⟩
  ·have b0:bt (1::0::a) 0=1:=rfl;have n3:en 1=4:=rfl;have f3:b9 1=0:=rfl;rw [ab h];unfold iW jv;rw [b0,n3,ac (by simp; omega),ac (by omega),Ai (by simp [h]),ab rfl,ac (by omega),ca _ _ _ 4 (by omega),f3]
  ·have b0:bt (2::0::a) 0=2:=rfl;have n3:en 2=16:=rfl;have f3:b9 2=1:=rfl;rw [ac (by omega)];unfold iW jv;rw [b0,n3,ac (by simp; omega),ac (by omega),Ai (by simp [h]),ab rfl,ac (by omega),ca _ _ _ 16 (by omega),f3]
end Go.VP
namespace Go.VP
open Go Go.VI
structure u4 (m:bD):Prop where
 kind:m.kind=14
 bare:cM m=true
 ty:10 < m.aA/\m.aA < 256
 len:m.data.length < 256
inductive jO (m:bD):Prop
 | field (h:ir m)
 | route (h:gN m)
 | upd (h:eH m)
 | opq (h:u4 m)
structure fr (m:bD):Prop where
 good:io m
 ty:IntKind.has .i64 m.aA
 aj:IntKind.has .i64 m.aj
theorem fq3 {d:Bs} (h:(cC d).1.bi=1) (hk:(cC d).2.1=true):i8 (cC d).1.subs/\dm (cC d).1.subs<=200/\(cC d).1.subs.length<=d.length/\10+dm (cC d).1.subs<=d.length/\(0<=(cC d).1.aw/\(cC d).1.aw < 65536)/\(0<=(cC d).1.seq/\(cC d).1.seq < 65536)/\(0<=(cC d).1.af/\(cC d).1.af<=eY (cC d).1.ae):=by
 have b0:=cw d 0;have b2:=cw d 2;unfold cC at h hk |-;split at hk
 ·cases hk
 rename_i h1;split at hk
 ·cases hk
 rename_i h2;rw [ac h1,ac h2] at h |-;dsimp only at h hk |-;split at hk
 ·cases hk
 rename_i h3;split at hk
 ·cases hk
 rename_i h4;rw [ac h3,ac h4] at h |-;dsimp only at h |-;have h3':(dw d 10 (bt d 0) (bt d 2) (bt d 3)).2=0:=by simpa using h3
 have hrest:0<=cp (bt d 0) (bt d 2) (bt d 3):=by
  unfold dw at h3';split at h3'
  ·cases h3'
  ·omega
 have hg:e9 (bt d 0) (bt d 2)=false:=by
  unfold dw at h3';split at h3'
  ·cases h3'
  ·rename_i q; cases e:e9 (bt d 0) (bt d 2) with
   | false=>rfl
   | true=>exact absurd (.inl e) q
 have hp:fg (bt d 0)<=bt d 2/\bt d 2<=eY (bt d 0):=by unfold e9 at hg; simpa using hg
 rcases Js (d.drop (10+cp (bt d 0) (bt d 2) (bt d 3)).toNat) with ⟨l,e,q1,q2,q3,q4⟩ | ⟨l,e⟩ | ⟨x,e,q⟩
 ·rw [e] at h |-;rw [List.length_drop] at q3 q4;exact ⟨q1,q2,by dsimp only; omega,by dsimp only; omega,lK (by omega) (by omega),lK (by omega) (by omega),by omega,hp.2⟩
 ·rw [e] at h; cases h
 ·rw [e] at h4; exact absurd q h4
theorem fq4 {c:bS} {d:Bs} (hc:bA c) (hd:d.length<=900):(eT c d).2.1=[]\/∃ m,(eT c d).2.1=[m]/\eH m/\fr m/\dm m.subs+10<=d.length/\(eT c d).2.2=0/\(m.aj≠65535->(eT c d).1.id=m.id/\dg (eT c d).1 (b9 m.ae)=m.next):=by
 unfold eT;split
 rotate_left
 ·exact .inl rfl
 rename_i ht;split
 rotate_left
 ·exact .inl rfl
 rename_i ha;split
 rotate_left
 ·exact .inl rfl
 rename_i hto;obtain ⟨hr,h0⟩:=Al ht;have hl:=BA hc hr ha;have hk:=SN hc hr ha;have h1:(cC d).1.bi=1:=by
  unfold jX at hto; simp at hto; exact hto.1
 obtain ⟨s1,s2,s3,s4,s5,s6,s7⟩:=fq3 h1 ht;have hclean:cT (dO c (cC d).1).1 (cC d).1.af=(dO c (cC d).1).1:=by
  unfold dO at ha |-;split
  ·unfold dY; exact yR _ _
  ·rename_i q; rw [ac q] at ha;split
   ·rename_i q2; rw [ab q2] at ha; cases ha
   ·unfold dY; exact yR _ _
 have hok:=WT hc hr hl hk;have hlow:=hr.low;have hsub2:=lY (l:=(cC d).1.subs);generalize (cC d).1=r at *;generalize (dO c r).1=a at *;have hae:=hr.ae;have hme:=hr.aj;have hsz:cA r.ae<=16:=by unfold cA; split <;> (try split) <;> (try split) <;> omega
 have hmu:(kR (cS c r a) r a).aj=r.aj:=rfl;have hhi:eY r.ae<=128:=by unfold eY; split <;> (try split) <;> (try split) <;> omega
 generalize hfc:cS c r a=F at *;have hFid:r.aj≠65535->F.id.length=8/\0 < r.ae:=fun hm=>by
  unfold jX at hto;simp [h1,hm] at hto;rcases hok.2.2.2.2.2.2 with q | q
  ·exact absurd q hto.2
  ·exact ⟨q,hto.1⟩
 have hFn:r.aj≠65535->dg F (b9 r.ae)=[]\/gV (dg F (b9 r.ae))=b9 r.ae:=fun hm=>by
  have hp:=(hFid hm).2;have hf:=rL (ae:=r.ae) (by omega);unfold dg;by_cases f0:b9 r.ae=0
  ·rw [ab f0,f0];rcases hok.2.2.2.2.1 with q | q
   ·exact .inl q
   ·right; unfold gV; rw [ab q]
  ·rw [ac f0,show b9 r.ae=1 by omega];rcases hok.2.2.2.2.2.1 with q | q
   ·exact .inl q
   ·right; unfold gV; rw [ac (by omega),ab q]
 have e0:([]:Bs).length<=400:=by decide
 have n0:([]:List gW).length<=1000:=by decide
 have has0:IntKind.has .i64 0:=cx.2 (by omega);have hnl:(if r.aj=65535 then ([]:Bs) else (if b9 r.ae=0 then F.ax else F.ay)).length<=400:=by
  split
  ·exact e0
  ·have:=hok.2.2.2.2.1; have:=hok.2.2.2.2.2.1;split
   ·rcases hok.2.2.2.2.1 with q | q
    ·rw [q]; exact e0
    ·omega
   ·rcases hok.2.2.2.2.2.1 with q | q
    ·rw [q]; exact e0
    ·omega
 have hil:(if r.aj=65535 then ([]:Bs) else F.id).length<=400:=by
  split
  ·exact e0
  ·rcases hok.2.2.2.2.2.2 with q | q
   ·rw [q]; exact e0
   ·omega
 refine .inr ⟨kR F r a,rfl,⟨rfl,?_,pm s1 s2,?_,s5,s6,by rw [hmu]; omega,fun hm=>?_,fun hm=>?_⟩,⟨⟨⟨n0,by show r.subs.length<=1000; omega,e0,by show a.length<=400; omega,hnl,hil,e0,e0,e0,(fun d h=>by cases h),s1.few⟩,has0,cx.2 (by show _<=r.aw/\r.aw<=_; omega),cx.2 (by show _<=r.seq/\r.seq<=_; omega),has0,cx.2 (by show _<=(11:Int)/\(11:Int)<=_; omega),has0,cx.2 (by show _<=r.ae/\r.ae<=_; omega),cx.2 (by show _<=r.af/\r.af<=_; omega),has0⟩,has0,cx.2 (by rw [hmu]; omega)⟩,by show dm r.subs+10<=_; omega,rfl,fun hm=>?_⟩
 ·have:dv (kR F r a)=some (kR F r a):=rfl;rw [cM,this]; exact iA _
 ·exact tL.2 ⟨hae,hl,⟨hlow,s7.2⟩,hclean,hk⟩
 ·have hm':r.aj=65535:=hm;show (if r.aj=65535 then [] else F.id)=[]/\(if r.aj=65535 then [] else _)=[];rw [ab hm',ab hm']; exact ⟨rfl,rfl⟩
 ·have hm':r.aj≠65535:=hm;show 0 < r.ae/\(if r.aj=65535 then [] else F.id).length=8/\((if r.aj=65535 then [] else dg F (b9 r.ae))=[]\/gV (if r.aj=65535 then [] else dg F (b9 r.ae))=b9 r.ae);rw [ac hm',ac hm'];exact ⟨(hFid hm').2,(hFid hm').1,hFn hm'⟩
 ·have hm':r.aj≠65535:=hm;show F.id=(if r.aj=65535 then [] else F.id)/\dg F (b9 r.ae)=(if r.aj=65535 then [] else dg F (b9 r.ae));rw [ac hm',ac hm'];exact ⟨rfl,rfl⟩
end Go.VP
namespace Go.VP
open Go Go.VI
def i7 (b:Bs):Int:=bt b 2 * 256+bt b 3
def dC (b:Bs):Bs × Int × Int:=
 if 65535 < (b.length:Int) then ([],65535,10) else if (b.length:Int) < 4 then ([],b.length,2)
 else if bt b 0≠42 then ([],0,4) else if bt b 1≠2 then ([],1,4)
 else if (b.length:Int) < 4+i7 b then ([],b.length,2) else (bH b 4 (i7 b),0,0)
theorem rT {R:Type} {p:Prop} [Decidable p] {t f r:R} (h:p->t=r) (h':¬p->f=r):(if decide p=true then t else f)=r:=by
 by_cases hp:p
 ·rw [bP hp]; exact h hp
 ·rw [bN hp]; exact h' hp
theorem Xl {b:Bs} (h:4<=b.length):qO (b,())=some ((i7 b,()),()):=by
 have h2:=cw b 2;have h3:=cw b 3;rw [el6,cN (i:=2) (by omega),aa,cN (i:=3) (by omega),aa,eO,eO];show some ((cB .or .i64 (cY .i64 (bt b 2) 8) (bt b 3),()),())=_;rw [Dd (by omega) (by omega)]; rfl
theorem nY (b:Bs):0<=i7 b/\i7 b<=65535:=by
 have h2:=cw b 2;have h3:=cw b 3;unfold i7; omega
theorem fV0 (b:Bs):yF (b,())=some (bY (dC b),()):=by
 have hr:=nY b;rw [el7]; unfold dC;refine rT (fun h=>by rw [ab h]) (fun h1=>?_);rw [ac h1];refine rT (fun h=>by rw [ab h]) (fun h2=>?_);rw [ac h2,cN (i:=0) (by omega),aa];refine bZ (fun h=>by rw [ab (show bt b 0≠42 from h)]) (fun h3=>?_);rw [ac (show ¬bt b 0≠42 from fun q=>q h3),cN (i:=1) (by omega),aa];refine bZ (fun h=>by rw [ab (show bt b 1≠2 from h)]) (fun h4=>?_);rw [ac (show ¬bt b 1≠2 from fun q=>q h4),Xl (by omega),aa];dsimp only;rw [bL (by omega) (by omega)];refine rT (fun h=>by rw [ab h]) (fun h5=>?_);rw [ac h5,aa];dsimp only;rw [bL (by omega) (by omega),ab (by omega)]; rfl
theorem Oh (b:Bs):t9 (b,())=some (bY (dC b),()):=by
 have hr:=nY b;have h2:=cw b 2;have h3:=cw b 3;rw [em0]; unfold dC;refine rT (fun h=>by rw [ab h]) (fun h1=>?_);rw [ac h1];refine rT (fun h=>by rw [ab h]) (fun h2=>?_);rw [ac h2,cN (i:=0) (by omega),aa];refine bZ (fun h=>by rw [ab (show bt b 0≠42 from h)]) (fun h3=>?_);rw [ac (show ¬bt b 0≠42 from fun q=>q h3),cN (i:=1) (by omega),aa];refine bZ (fun h=>by rw [ab (show bt b 1≠2 from h)]) (fun h4=>?_);rw [ac (show ¬bt b 1≠2 from fun q=>q h4),cN (i:=2) (by omega),aa,cN (i:=3) (by omega),aa,eO,eO];show (if decide ((b.length:Int) < (IntKind.wrap .i64 (4+(IntKind.wrap .i64 ((IntKind.wrap .i64 (256 * bt b 2))+bt b 3)))))=true then some ((([]:at1),(b.length:Int),2,()),()) else (if 0<=(4:Int)/\(4:Int)<=(IntKind.wrap .i64 (4+(IntKind.wrap .i64 ((IntKind.wrap .i64 (256 * bt b 2))+bt b 3))))/\(IntKind.wrap .i64 (4+(IntKind.wrap .i64 ((IntKind.wrap .i64 (256 * bt b 2))+bt b 3))))<=(b.length:Int) then some ((((b.take (IntKind.wrap .i64 (4+(IntKind.wrap .i64 ((IntKind.wrap .i64 (256 * bt b 2))+bt b 3)))).toNat).drop 4),0,0,()),()) else none))=_;have e:IntKind.wrap .i64 (4+(IntKind.wrap .i64 ((IntKind.wrap .i64 (256 * bt b 2))+bt b 3)))=4+i7 b:=by
  rw [bL (x:=256 * bt b 2) (by omega) (by omega),bL (x:=256 * bt b 2+bt b 3) (by omega) (by omega),bL (by omega) (by omega)];unfold i7; omega
 rw [e];refine rT (fun h=>by rw [ab h]) (fun h5=>?_);rw [ac h5,ab (by omega)]; rfl
theorem vr {b:Bs} (h:(dC b).2.2=0):4<=b.length/\b.length<=65535/\bt b 0=42/\bt b 1=2/\4+i7 b<=b.length/\dC b=(bH b 4 (i7 b),0,0)/\((dC b).1.length:Int)=i7 b:=by
 have hr:=nY b;unfold dC at h |-;split at h
 ·cases h
 split at h
 ·cases h
 split at h
 ·cases h
 split at h
 ·cases h
 split at h
 ·cases h
 rename_i h1 h2 h3 h4 h5;rw [ac h1,ac h2,ac h3,ac h4,ac h5];exact ⟨by omega,by omega,by simpa using h3,by simpa using h4,by omega,rfl,ew (by omega) (by omega) (by omega)⟩
theorem fz9 {b:Bs} (h:(dC b).2.2≠0):(dC b).1=[]/\0<=(dC b).2.1/\(dC b).2.1<=b.length:=by
 unfold dC at h |-;split
 ·exact ⟨rfl,by dsimp only; omega,by dsimp only; omega⟩
 split
 ·exact ⟨rfl,by dsimp only; omega,by dsimp only; omega⟩
 split
 ·exact ⟨rfl,by dsimp only; omega,by dsimp only; omega⟩
 split
 ·exact ⟨rfl,by dsimp only; omega,by dsimp only; omega⟩
 split
 ·exact ⟨rfl,by dsimp only; omega,by dsimp only; omega⟩
 ·rename_i h1 h2 h3 h4 h5;rw [ac h1,ac h2,ac h3,ac h4,ac h5] at h;exact absurd rfl h
def iH (b:Bs):Bs:=b.drop (4+i7 b).toNat
theorem fq5 {b:Bs} (h:(dC b).2.2=0):z3 (b,())=some ((iH b,()),()):=by
 have hr:=nY b;obtain ⟨h1,h2,_,_,h5,_⟩:=vr h;rw [dH1,Xl h1,aa];dsimp only;rw [bL (by omega) (by omega),ab (by omega)]; rfl
theorem ff9 {b:Bs} (h:(dC b).2.2=0):wd (b,())=some ((iH b,()),()):=by
 have hr:=nY b;obtain ⟨h1,h2,_,_,h5,h6,h7⟩:=vr h;rw [dH2,Oh,aa];dsimp only [bY];rw [h7,bL (by omega) (by omega),ab (by omega)]; rfl
def gL (s:Bs):Bs × Bool:=if 65531 < (s.length:Int) then ([],false) else (42::2::(be 2 s.length++s),true)
theorem PS {s t:Bs} (h:s.length<=65531) (ht:t.length+s.length<=65531):dC ((gL s).1++t)=(s,0,0)/\iH ((gL s).1++t)=t/\(gL s).1.length=4+s.length/\(gL s).2=true:=by
 have e:gL s=(42::2::(be 2 s.length++s),true):=by unfold gL; rw [ac (by omega)]
 rw [e];dsimp only;have hL:((42::2::(be 2 (s.length:Int)++s)):Bs).length=4+s.length:=by simp [cm]; omega
 have hb:(42::2::(be 2 (s.length:Int)++s))++t=([42,2]:Bs)++(be 2 (s.length:Int)++(s++t)):=by simp
 have n2:b5 (be 2 (s.length:Int))=s.length:=oM 2 _ (by omega) (by omega);generalize hB:(42::2::(be 2 (s.length:Int)++s))++t=B at *;have hBl:B.length=4+s.length+t.length:=by rw [hb]; simp [cm]; omega
 have b0:bt B 0=42:=by rw [hb]; rfl
 have b1:bt B 1=2:=by rw [hb]; rfl
 have sz:i7 B=s.length:=by
  unfold i7;rw [<- Cq (s:=B) (p:=2) (by omega)];have:bH B ((2:Nat):Int) 2=be 2 (s.length:Int):=by
   rw [hb];show bH (([42,2]:Bs)++(be 2 (s.length:Int)++(s++t))) 2 2=_;unfold bH;show List.drop 2 (List.take 4 (([42,2]:Bs)++(be 2 (s.length:Int)++(s++t))))=_;rw [show 4=([42,2]:Bs).length+2 from rfl,List.take_length_add_append,List.drop_left' (by rfl),List.take_left' (cm 2 _)]
  rw [this,n2]
 have ct:bH B 4 (s.length:Int)=s:=by
  unfold bH;rw [hb,show ((4:Int)+(s.length:Int)).toNat=4+s.length by omega,show (4:Int).toNat=4 from rfl,<- List.append_assoc,<- List.append_assoc,List.take_left' (by simp [cm]; omega),List.drop_left' (by simp [cm])]
 refine ⟨?_,?_,hL,rfl⟩
 ·unfold dC;rw [ac (by omega),ac (by omega),ac (by rw [b0]; simp),ac (by rw [b1]; simp),sz,ac (by omega),ct]
 ·unfold iH;rw [sz,hb,<- List.append_assoc,<- List.append_assoc,List.drop_left' (by simp [cm]; omega)]
end Go.VP
namespace Go.VP
open Go Go.VI
theorem g07 {x:Int} (h:0<=x):cb .i64 x 8=x / 256:=by
 unfold cb;rw [show (2:Int) ^ (min (8:Int).toNat IntKind.i64.bits)=256 by decide];exact Int.fdiv_eq_ediv_of_nonneg _ (by decide)
theorem N1 {c:Nat}:∀ (i m:Nat) (x:Int) (acc:Bs),i<=acc.length->acc.length<=100->i < m->0<=x->tG c m x ((i:Int) - 1) acc=some ((be i x++acc.drop i,true,()),())
 | 0,m,x,acc,h1,h2,hm,hx=>by
  obtain ⟨m,rfl⟩:∃ k,m=k+1:=⟨m - 1,by omega⟩;rw [yW,bN (by omega)]; simp [be]
 | i+1,m,x,acc,h1,h2,hm,hx=>by
  obtain ⟨m,rfl⟩:∃ k,m=k+1:=⟨m - 1,by omega⟩;have e:(((i+1:Nat):Int) - 1)=(i:Int):=by omega
  rw [yW,e,bP (by omega),ab (by omega),Int.toNat_natCast,ab (by omega),bL (by omega) (by omega),g07 hx,N1 i m (x / 256) _ (by simp; omega) (by simp; omega) (by omega) (by omega),f8,be];have:(acc.set i (bF (x % 256))).drop i=bF (x % 256)::acc.drop (i+1):=by
   rw [List.drop_eq_getElem_cons (by simp; omega),List.getElem_set_self,List.drop_set_of_lt (by omega)]
  rw [this]; simp
theorem fV1 {n:Int} {k:Nat} (hn:IntKind.has .i64 n) (h1:1<=k) (h7:k<=7):jw (n,(k:Int),())=some (((eJ n k).1,(eJ n k).2,()),()):=by
 show AC fuel (n,(k:Int),())=_;rw [OJ,ip hn h1 h7,aa];unfold eJ;cases hf:b6 n k with
 | false=>rfl
 | true=>
  have h0:0<=n:=by unfold b6 at hf; rw [decide_eq_true_eq] at hf; exact hf.1
  have hr:(k:Int)<=dI:=by unfold dI; omega
  dsimp only;rw [b7,ab ⟨by omega,hr⟩,bL (by omega) (by omega),Int.toNat_natCast,N1 k fuel n _ (by simp) (by simp; omega) (cn (by omega)) h0];simp
theorem g48 {n:Int} (hn:IntKind.has .i64 n):jw (n,2,())=some (((eJ n 2).1,(eJ n 2).2,()),()):=fV1 (k:=2) hn (by omega) (by omega)
theorem XS {n:Int} (hn:IntKind.has .i64 n):dK (n,2,())=some (((eJ n 2).1,()),()):=nX (k:=2) hn (by omega) (by omega)
theorem TW {s:Bs} (h:s.length<=65531):eJ (s.length:Int) 2=(be 2 s.length,true):=by
 unfold eJ; rw [ab (by unfold b6; rw [decide_eq_true_eq]; omega)]
theorem Mm {s:Bs} (h:65531 < (s.length:Int)):gL s=([],false):=by unfold gL; rw [ab h]
theorem Sb {s:Bs} (h:¬65531 < (s.length:Int)):gL s=(42::2::(be 2 s.length++s),true):=by unfold gL; rw [ac h]
theorem fV2 {s:Bs} (h:s.length<=100000000):yP (s,())=some (((gL s).1,(gL s).2,()),()):=by
 rw [ei1,g48 (cx.2 (by omega)),aa];by_cases hs:65531 < (s.length:Int)
 ·rw [Mm hs];cases hb:(eJ (s.length:Int) 2).2 with
  | false=>rfl
  | true=>dsimp only; rw [b7,bP hs]
 ·have h2:(be 2 (s.length:Int)).length=2:=cm 2 _;rw [Sb hs,TW (by omega)];generalize be 2 (s.length:Int)=B at *;dsimp only;rw [b7,bN hs,ab (bW (by omega)),ab (bW (by simp; omega))]; rfl
theorem fL3 {s:Bs} (h:s.length<=100000000):xl (s,())=some (((gL s).1,(gL s).2,()),()):=by
 rw [ej7];by_cases hs:65531 < (s.length:Int)
 ·rw [Mm hs,bP hs]
 ·have h2:(be 2 (s.length:Int)).length=2:=cm 2 _;rw [Sb hs,bN hs,XS (cx.2 (by omega)),aa,TW (by omega)];generalize be 2 (s.length:Int)=B at *;dsimp only;rw [ab (bW (by omega)),ab (bW (by simp; omega))]; rfl
end Go.VP
namespace Go.VP
open Go Go.VI
def Tg (t:dc):Prop:=(0<=t.aA/\t.aA<=255)/\t.data.length<=255
theorem fr.small {m:bD} (g:fr m):mG m:=by
 have:=g.good.few.list; have:=g.good.few.subs; exact ⟨by omega,by omega⟩
theorem fA0 {c:bS} {t:dc} (hc:bA c) (ht:Tg t):∀ m∈(dN c t.aA t.data).2.1,jO m/\fr m:=by
 obtain ⟨ty,at_,d⟩:=t;obtain ⟨ht,hd⟩:=ht;have hd:d.length<=255:=hd;have ht:0<=ty/\ty<=255:=ht;have has0:IntKind.has .i64 0:=cx.2 (by omega);have mt:∀ m:bD,ir m\/gN m->m.aA=0/\m.aj=0:=fun m h=>by
  have key:∀ x,cM m=true->dv m=some x->x.aA=0/\x.aj=0->m.aA=0/\m.aj=0:=fun x hb hx h0=>by
   rw [cM,hx] at hb;have:=ma.1 hb;rw [<- this]; exact h0
  rcases h with h | h
  ·rcases h.kinds with hk | hk | ⟨hk,_⟩ | ⟨hk,_⟩
   ·exact key _ h.bare (by unfold dv; rw [hk]; rfl) ⟨rfl,rfl⟩
   ·exact key _ h.bare (by unfold dv; rw [hk]; rfl) ⟨rfl,rfl⟩
   ·exact key _ h.bare (by unfold dv; rw [hk]; rfl) ⟨rfl,rfl⟩
   ·exact key _ h.bare (by unfold dv; rw [hk]; rfl) ⟨rfl,rfl⟩
  ·rcases h.kinds with hk | ⟨hk,_⟩
   ·exact key _ h.bare (by unfold dv; rw [hk]; rfl) ⟨rfl,rfl⟩
   ·exact key _ h.bare (by unfold dv; rw [hk]; rfl) ⟨rfl,rfl⟩
 intro m hm;dsimp only at hm;unfold dN at hm;split at hm
 ·cases hm
 split at hm
 ·unfold iz at hm;split at hm
  ·cases hm
  split at hm
  ·cases hm
  split at hm
  ·rcases fq4 (d:=d) hc (by omega) with h | ⟨x,h,hu,hg,_⟩
   ·rw [h] at hm; cases hm
   ·rw [h,List.mem_singleton] at hm; subst hm; exact ⟨.upd hu,hg⟩
  ·cases hm
 split at hm
 ·rename_i h25;rcases f32 (ty:=ty) (d:=d) h25 (by omega) with ⟨x,h,hr,hg,_⟩ | ⟨e,h⟩
  ·rw [h] at hm;have:m=x:=by unfold iO at hm; simpa using hm
   subst this;have:=mt m (.inl hr);exact ⟨.field hr,⟨hg,by rw [this.1]; exact has0,by rw [this.2]; exact has0⟩⟩
  ·rw [h] at hm;unfold iO at hm;split at hm
   ·cases hm
   ·cases hm
 split at hm
 ·rename_i h910;rcases f48 (ty:=ty) (d:=d) h910 (by omega) with ⟨x,h,hr,hg,_⟩ | ⟨e,h⟩
  ·rw [h] at hm;have:m=x:=by unfold iO at hm; simpa using hm
   subst this;have:=mt m (.inr hr);exact ⟨.route hr,⟨hg,by rw [this.1]; exact has0,by rw [this.2]; exact has0⟩⟩
  ·rw [h] at hm;unfold iO at hm;split at hm
   ·cases hm
   ·cases hm
 ·rw [List.mem_singleton] at hm;subst hm;have e0:([]:Bs).length<=400:=by decide
  have n0:([]:List gW).length<=1000:=by decide
  have hb:dv (zZ ty d)=some (zZ ty d):=rfl;refine ⟨.opq ⟨rfl,by rw [cM,hb]; exact iA _,by show 10 < ty/\ty < 256; omega,by show d.length < 256; omega⟩,⟨⟨⟨n0,by show 0<=1000; omega,e0,e0,e0,e0,e0,e0,by show d.length<=400; omega,(fun d h=>by cases h),(fun d h=>by cases h)⟩,has0,has0,has0,has0,cx.2 (by show _<=(14:Int)/\(14:Int)<=_; omega),has0,has0,has0,has0⟩,cx.2 (by show _<=ty/\ty<=_; omega),has0⟩⟩
theorem fq6 {l:List dc} {c:bS} (hc:bA c) (hl:∀ t∈l,Tg t):∀ m∈(cR c l []).1,jO m/\fr m:=
 Lv (P:=fun m=>jO m/\fr m) (Q:=Tg) (fun c t hc ht=>fA0 hc ht) l c [] hc hl (fun m hm=>by cases hm)
theorem ZZ (s:Bs):∀ (p:Int) (l:List dc),cP p s=.ok l->∀ t∈l,Tg t:=by
 induction h:s.length using Nat.strongRecOn generalizing s with
 | ind n ih=>
  intro p l hs;subst h
  match s,hs with
  | [],hs=>rw [iY] at hs; cases hs; intro t ht; cases ht
  | t::r,hs=>
   by_cases ht:t=0
   ·subst ht;rw [nu] at hs;cases hr:cP (p+1) r with
    | error q=>rw [hr] at hs; cases hs
    | ok lr=>
     rw [hr] at hs; cases hs;intro x hx;rcases List.mem_cons.1 hx with rfl | hx
     ·exact ⟨by show (0:Int)<=0/\(0:Int)<=255; omega,by show 0<=255; omega⟩
     ·exact ih r.length (by simp) r rfl _ lr hr x hx
   ·match r,hs with
    | [],hs=>rw [ot ht] at hs; cases hs
    | n::d,hs=>
     by_cases hn:d.length < n.toNat
     ·rw [pd ht hn] at hs; cases hs
     ·rw [lT ht (by omega)] at hs;cases hr:cP (p+2+n.toNat) (d.drop n.toNat) with
      | error q=>rw [hr] at hs; cases hs
      | ok lr=>
       rw [hr] at hs; cases hs;intro x hx;rcases List.mem_cons.1 hx with rfl | hx
       ·have h1:=t.toNat_lt;have h2:=n.toNat_lt;refine ⟨by show (0:Int)<=(t.toNat:Int)/\(t.toNat:Int)<=255; omega,?_⟩;show (d.take n.toNat).length<=255;rw [List.length_take]; omega
       ·exact ih (d.drop n.toNat).length (by simp; omega) (d.drop n.toNat) rfl _ lr hr x hx
def gH (b:Bs):List bD × Int × Int:=
 if (dC b).2.2≠0 then ([],(dC b).2.1,(dC b).2.2)
 else match cP 4 (dC b).1 with
  | .error q=>([],q,2)
  | .ok l=>match cP (4+((dC b).1.length:Int)) (iH b) with
   | .error q=>([],q,2)
   | .ok _=>((cR c0 l []).1,(cR c0 l []).2.2.1,(cR c0 l []).2.2.2)
theorem Xr {b:Bs} {B:Option ((Bs × Int × Int × Unit) × Unit)} {S1 S2:Bs->Int->Option ((List dc × Int × Int × Unit) × Unit)} {T:Option ((Bs × Unit) × Unit)} {F:List dc->Option ((List bD × bS × Int × Int × Unit) × Unit)}
  (hB:B=some (bY (dC b),())) (hS1:∀ s p,s.length<=1000000000->0<=p/\p<=1152921504606846976->S1 s p=some (bY (gw [] (cP p s)),())) (hS2:∀ s p,s.length<=1000000000->0<=p/\p<=1152921504606846976->S2 s p=some (bY (gw [] (cP p s)),()))
  (hT:(dC b).2.2=0->T=some ((iH b,()),()))
  (hF:∀ l:List dc,l.length<=100000->(∀ t∈l,t.data.length<=1000)->F l=some (((cR c0 l []).1,(cR c0 l []).2.1,(cR c0 l []).2.2.1,(cR c0 l []).2.2.2,()),())) :
  (B.bind fun r1=>(if r1.1.2.2.1 != 0 then (some (([],r1.1.2.1,r1.1.2.2.1,()),()):Option ((List bD × Int × Int × Unit) × Unit)) else ((S1 r1.1.1 4).bind fun r2=>(if r2.1.2.2.1 != 0 then some (([],r2.1.2.1,r2.1.2.2.1,()),()) else (T.bind fun r3=>((S2 r3.1.1 (IntKind.wrap .i64 (4+(r1.1.1.length:Int)))).bind fun r4=>(if r4.1.2.2.1 != 0 then some (([],r4.1.2.1,r4.1.2.2.1,()),()) else ((F r2.1.1).bind fun r5=>some ((r5.1.1,r5.1.2.2.1,r5.1.2.2.2.1,()),())))))))))=some (bY (gH b),()):=by
 rw [hB,aa];unfold gH;dsimp only [bY];refine bZ (fun h=>by rw [ab h]) (fun h=>?_);obtain ⟨l1,l2,_,_,l5,_,l7⟩:=vr h;have hr:=nY b;have hbl:(iH b).length<=100000:=by unfold iH; rw [List.length_drop]; omega
 have hsl:(dC b).1.length<=65535:=by omega
 rw [ac (show ¬(dC b).2.2≠0 from fun q=>q h),hS1 _ _ (by omega) (by omega),aa];cases h1:cP 4 (dC b).1 with
 | error q=>rfl
 | ok l=>
  have hk:=qo _ _ _ h1;dsimp only [bY,gw];refine bZ (fun q=>absurd rfl q) (fun _=>?_);rw [hT h,aa];dsimp only;rw [bL (by omega) (by omega),hS2 _ _ (by omega) (by omega),aa];cases h2:cP (4+((dC b).1.length:Int)) (iH b) with
  | error q=>rfl
  | ok l2=>
   dsimp only [bY,gw];refine bZ (fun q=>absurd rfl q) (fun _=>?_);rw [List.nil_append,hF l (by omega) (fun t ht=>by have:=hk.1 t ht; omega)]
   rfl
theorem fA1 (b:Bs):yD (b,())=some (bY (gH b),()):=by
 rw [XV];exact Xr (b:=b) (S1:=fun s p=>ol (s,p,())) (S2:=fun s p=>ol (s,p,())) (F:=fun l=>AN (l,())) (fV0 b) (fun s p h h2=>CQ h h2) (fun s p h h2=>CQ h h2) (fun h=>fq5 h) (fun l h h2=>fU9 h h2)
theorem fq7 (b:Bs):xS (b,())=some (bY (gH b),()):=by
 rw [e70];exact Xr (b:=b) (S1:=fun s p=>oh (s,p,())) (S2:=fun s p=>oh (s,p,())) (F:=fun l=>AR (l,())) (Oh b) (fun s p h h2=>FP h h2) (fun s p h h2=>FP h h2) (fun h=>ff9 h) (fun l h h2=>fL0 h h2)
theorem DG (b:Bs):((gH b).2.2≠0/\(gH b).1=[])\/∃ l,(dC b).2.2=0/\cP 4 (dC b).1=.ok l/\(∃ k,cP (4+((dC b).1.length:Int)) (iH b)=.ok k)/\(cR c0 l []).2.2.2=0/\gH b=((cR c0 l []).1,0,0):=by
 unfold gH;by_cases h:(dC b).2.2≠0
 ·rw [ab h]; exact .inl ⟨h,rfl⟩
 rw [ac h];cases h1:cP 4 (dC b).1 with
 | error q=>exact .inl ⟨by simp,rfl⟩
 | ok l=>
  cases h2:cP (4+((dC b).1.length:Int)) (iH b) with
  | error q=>exact .inl ⟨by simp,rfl⟩
  | ok k=>
   dsimp only;by_cases h3:(cR c0 l []).2.2.2=0
   ·exact .inr ⟨l,by simpa using h,rfl,⟨k,rfl⟩,h3,by rw [RL l c0 [] h3,h3]⟩
   ·exact .inl ⟨h3,(Up l c0 [] h3).1⟩
theorem fa0 (b:Bs):(∀ m∈(gH b).1,jO m/\fr m)/\(gH b).1.length<=65535:=by
 rcases DG b with ⟨_,h⟩ | ⟨l,h0,h1,_,_,h4⟩
 ·rw [h]; exact ⟨fun m hm=>(by cases hm),by simp⟩
 ·rw [h4];have hb:=(vr h0);have hr:=nY b;have:=(Q8 l c0 [] nU).1;have hk:=(qo _ _ _ h1).2;exact ⟨fq6 nU (ZZ _ _ _ h1),by dsimp only; simp at this; omega⟩
end Go.VP
namespace Go.VP
open Go Go.VI
theorem fL4 (a:Bs):wR (a,())=some ((gV a,()),()):=by
 rw [dN9]; unfold gV;refine bR (fun h=>by rw [ab (by omega)]) (fun h=>?_);rw [ac (show ¬a.length=4 by omega)];exact bR (fun h=>by rw [ab (by omega)]) (fun h=>by rw [ac (by omega)])
theorem fA2 (s:Bs) (g:Bool):zW (s,g,())=some ((decide (s=[]) || g,()),()):=by
 rw [ek9];refine p4 (fun h=>by simp [h]) (fun h=>by simp [h])
theorem jQ {R:Type} {b S:Bool} {t:Option R} {f:Bool->Option R} (h:b=true->t=f S):(if !b then f false else t)=f (b && S):=by
 cases b with
 | true=>rw [b7,Bool.true_and]; exact h rfl
 | false=>rw [cK,Bool.false_and]
theorem Ji {n:Int} (hn:IntKind.has .i64 n):dp (n,2,())=some ((b6 n 2,()),()):=ip (k:=2) hn (by omega) (by omega)
theorem HC {n:Int}:qz (n,())=some ((b6 n 2,()),()):=by
 rw [ew4,show gI (n,2,())=some ((b6 n 2,()),()) from rC (k:=2) (by omega) (by omega)]; rfl
theorem vx {m:bD} (g:io m):em m.subs:=g.few.fewS
theorem fA3 {m:bD} (g:fr m):A6 (m,())=some ((m8 m,()),()):=by
 have hl:=g.good.few;have:=hl.id; have:=hl.next; have:=hl.pre;rw [ez0];unfold m8;refine bZ (fun h=>by rw [decide_eq_false h,Bool.false_and]) (fun h=>?_);rw [decide_eq_true h,Bool.true_and,mD,aa];dsimp only;refine jQ (f:=fun b=>some ((b,()),())) (fun _=>?_);rw [wS (vx g.good),aa];refine jQ (f:=fun b=>some ((b,()),())) (fun _=>?_);rw [Nk (by omega) g.good.af,aa];refine jQ (f:=fun b=>some ((b,()),())) (fun _=>?_);rw [Ji g.good.aw,aa];refine jQ (f:=fun b=>some ((b,()),())) (fun _=>?_);rw [Ji g.good.seq,aa];refine jQ (f:=fun b=>some ((b,()),())) (fun _=>?_);rw [Ji g.aj,aa];refine jQ (f:=fun b=>some ((b,()),())) (fun _=>?_);unfold wP;refine bR (fun h=>?_) (fun h=>?_)
 ·rw [ab h,ab (bW (by omega))];have:(m.id++m.next==([]:Bs))=(m.id==[] && m.next==[]):=by
   rw [Bool.eq_iff_iff]; simp
  rw [this]
 ·rw [ac h];by_cases ha:0 < m.ae
  ·rw [bP ha,decide_eq_true ha,Bool.true_and,xX];cases h8:decide (m.id.length=8) with
   | false=>rw [cV,Bool.false_and]
   | true=>
    rw [cQ,TG,aa,sY,aa,fA2,aa,Bool.true_and];have e1:(m.next==([]:Bs))=decide (m.next=[]):=by rw [Bool.eq_iff_iff]; simp
    have e2:(gV m.next==b9 m.ae)=decide (gV m.next=b9 m.ae):=by rw [Bool.eq_iff_iff]; simp
    rw [e1];dsimp only;rw [e2]
  ·rw [bN ha,decide_eq_false ha,Bool.false_and]
theorem ZM {m:bD} (g:fr m) (ha:eH m\/0<=m.ae\/True):zq (m,())=some ((m8 m,()),()):=by
 have hl:=g.good.few;have:=hl.id; have:=hl.next; have:=hl.pre; have:=hl.list; have:=hl.subs;rw [YN];unfold m8;refine bZ (fun h=>by rw [decide_eq_false h,Bool.false_and]) (fun h=>?_);rw [decide_eq_true h,Bool.true_and,mC (by omega) (by omega),aa];dsimp only;refine jQ (f:=fun b=>some ((b,()),())) (fun _=>?_);rw [Bg (vx g.good),aa];refine jQ (f:=fun b=>some ((b,()),())) (fun _=>?_);rw [UN (by omega),aa];refine jQ (f:=fun b=>some ((b,()),())) (fun hin=>?_);have hae:=(tL.1 hin).1;rw [HC,aa];refine jQ (f:=fun b=>some ((b,()),())) (fun _=>?_);rw [HC,aa];refine jQ (f:=fun b=>some ((b,()),())) (fun _=>?_);rw [HC,aa];refine jQ (f:=fun b=>some ((b,()),())) (fun _=>?_);unfold wP;refine bR (fun h=>?_) (fun h=>?_)
 ·rw [ab h];cases (m.id==([]:Bs)) <;> rfl
 ·rw [ac h];refine bZ (fun h0=>?_) (fun h0=>?_)
  ·rw [decide_eq_true (show 0 < m.ae by omega),Bool.true_and,xX];cases h8:decide (m.id.length=8) with
   | false=>rw [cV,Bool.false_and]
   | true=>
    rw [cQ,Bool.true_and];have e2:(gV m.next==b9 m.ae)=decide (gV m.next=b9 m.ae):=by rw [Bool.eq_iff_iff]; simp
    rw [fL4,aa,t7,aa];dsimp only;rw [e2];cases (m.next==([]:Bs)) <;> rfl
  ·rw [decide_eq_false (show ¬0 < m.ae by omega),Bool.false_and]
theorem g49 {m:bD} (g:pt m) (h:sS m):fr m:=by
 obtain ⟨g1,g2,g3,g4,g5,g6,g7,g8,g9,g10,g11,g12,g13,g14,g15,g16,g17,g18,g19,g20,g21,g22,g23,_⟩:=g;exact ⟨⟨h,g18,g15,g13,g19,g1,g16,g6,g8,g17⟩,g23,g11⟩
end Go.VP
namespace Go.VP
open Go Go.VI
def oH:at1:=[0]++List.replicate 1 1++List.replicate 2 2++List.replicate 4 3++List.replicate 8 4++List.replicate 16 5++List.replicate 32 6++List.replicate 64 7++List.replicate 128 8
theorem fL5:∀ x:Fin 256,x.val≠0->∃ y,oH[x.val]?=some y/\1<=y.toNat/\y.toNat<=8:=by
 have h:∀ x:Fin 256,x.val≠0->1<=(oH[x.val]?.getD 0).toNat/\(oH[x.val]?.getD 0).toNat<=8:=by decide +kernel
 have hl:oH.length=256:=by decide +kernel
 intro x hx;refine ⟨oH[x.val]?.getD 0,cN (by omega),h x hx⟩
theorem fV3 (a0:Int):xP (a0,())=if 0<=a0 then oH[a0.toNat]?.bind fun (y1:UInt8)=>some (((IntKind.wrap .i64 (y1.toNat:Int)),()),()) else none:=dr5 a0
theorem g09 {n:Nat} (h0:n≠0) (h:n < 256):∃ z:Int,Aj ((n:Int),())=some ((z,()),())/\0<=z/\z<=7:=by
 obtain ⟨y,h1,h2,h3⟩:=fL5 ⟨n,h⟩ h0;have h1:oH[n]?=some y:=h1;rw [bO7,fV3,ab (by omega),Int.toNat_natCast,h1,aa,aa];dsimp only;rw [eO,bL (by omega) (by omega)];exact ⟨_,rfl,by omega,by omega⟩
theorem K9 {a b:UInt8}:(cB .xor .u8 (a.toNat:Int) (b.toNat:Int)≠0)↔a≠b:=by
 rw [W0 a.toNat_lt b.toNat_lt];constructor
 ·intro h e; subst e; simp at h
 ·intro h e;have h0:a.toNat ^^^ b.toNat=0:=by omega
  exact h (UInt8.toNat.inj (by
   have:=congrArg (· ^^^ b.toNat) h0;simpa [Nat.xor_assoc] using this))
theorem JK {x y:Bs} (h:x=[]\/y=[]):fA x y=0:=by
 rcases h with rfl | rfl
 ·cases y <;> rfl
 ·cases x <;> rfl
theorem fr0 {a b:Bs} {n:Nat} (ha:a.length<=100000) (hb:b.length<=100000):∀ (d m i:Nat),i+d=min a.length b.length->d < m->∃ A:Int,wi n m a b (if (b.length:Int) < (a.length:Int) then (b.length:Int) else (a.length:Int)) i=some ((A,()),())/\A / 8=i+fA (a.drop i) (b.drop i)/\0<=A/\A<=10000000:=by
 have hmin:(if (b.length:Int) < (a.length:Int) then (b.length:Int) else (a.length:Int))=((min a.length b.length:Nat):Int):=by split <;> omega
 rw [hmin];intro d
 induction d with
 | zero=>
  intro m i hd hm;obtain ⟨m,rfl⟩:∃ k,m=k+1:=⟨m - 1,by omega⟩;rw [Wl,bN (by omega),hmin,bL (by omega) (by omega)];refine ⟨_,rfl,?_,by omega,by omega⟩;rw [JK (by
   by_cases h:a.length<=b.length
   ·exact .inl (List.drop_eq_nil_of_le (by omega))
   ·exact .inr (List.drop_eq_nil_of_le (by omega)))]
  omega
 | succ d ih=>
  intro m i hd hm;obtain ⟨m,rfl⟩:∃ k,m=k+1:=⟨m - 1,by omega⟩;have hp:0<=(i:Int):=by omega
  have hi:i < a.length:=by omega
  have hib:i < b.length:=by omega
  rw [Wl,bP (by omega)];simp only [ab hp,Int.toNat_natCast,List.getElem?_eq_getElem hi,List.getElem?_eq_getElem hib,aa];rw [List.drop_eq_getElem_cons hi,List.drop_eq_getElem_cons hib,fA];by_cases he:a[i]=b[i]
  ·obtain ⟨A,h1,h2,h3,h4⟩:=ih m (i+1) (by omega) (by omega);rw [show ((i+1:Nat):Int)=(i:Int)+1 by omega] at h1 h2;have hz:cB .xor .u8 ((a[i]).toNat:Int) ((b[i]).toNat:Int)=0:=Classical.byContradiction fun h=>K9.1 h he
   rw [ab he,hz,ac (by decide),bL (by omega) (by omega)];exact ⟨A,h1,by omega,h3,h4⟩
  ·have hz:=K9.2 he;rw [ac he,ab (by simpa using hz)];rw [W0 (a[i]).toNat_lt (b[i]).toNat_lt] at hz |-;have hx:(a[i]).toNat ^^^ (b[i]).toNat < 256:=Nat.xor_lt_two_pow (n:=8) (a[i]).toNat_lt (b[i]).toNat_lt;obtain ⟨z,k1,k2,k3⟩:=g09 (n:=(a[i]).toNat ^^^ (b[i]).toNat) (by omega) hx;rw [k1,aa];dsimp only;rw [bL (x:=8 * (i:Int)) (by omega) (by omega),bL (by omega) (by omega)];exact ⟨_,rfl,by omega,by omega,by omega⟩
theorem fV4 {a b:Bs} (ha:a.length<=100000) (hb:b.length<=100000):vW (a,b,())=some ((((fA a b:Nat):Int),()),()):=by
 have hA:∃ A:Int,BX (a,b,())=some ((A,()),())/\A / 8=fA a b/\0<=A:=by
  show ∃ A:Int,Jh fuel (a,b,())=_/\_;rw [ei0];obtain ⟨A,h1,h2,h3,_⟩:=fr0 (n:=fuel) ha hb (min a.length b.length) fuel 0 (by omega) (cn (by omega));exact ⟨A,h1,by simpa using h2,h3⟩
 obtain ⟨A,h1,h2,h3⟩:=hA;rw [e25,h1,aa];dsimp only;rw [Fy h3,h2]
theorem fr1 {a b:Bs} {n:Nat} (ha:a.length<=100000) (hb:b.length<=100000):∀ (d m i:Nat),i+d=min a.length b.length->d < m->yb n m a b i=some ((((i+fA (a.drop i) (b.drop i):Nat):Int),()),()):=by
 intro d
 induction d with
 | zero=>
  intro m i hd hm;obtain ⟨m,rfl⟩:∃ k,m=k+1:=⟨m - 1,by omega⟩;rw [T0,JK (by
   by_cases h:a.length<=b.length
   ·exact .inl (List.drop_eq_nil_of_le (by omega))
   ·exact .inr (List.drop_eq_nil_of_le (by omega)))]
  by_cases h:(i:Int) < a.length
  ·rw [bP h,bN (by omega)]; rfl
  ·rw [bN h]; rfl
 | succ d ih=>
  intro m i hd hm;obtain ⟨m,rfl⟩:∃ k,m=k+1:=⟨m - 1,by omega⟩;have hp:0<=(i:Int):=by omega
  have hi:i < a.length:=by omega
  have hib:i < b.length:=by omega
  rw [T0,bP (by omega),bP (by omega)];simp only [ab hp,Int.toNat_natCast,List.getElem?_eq_getElem hi,List.getElem?_eq_getElem hib,aa];rw [List.drop_eq_getElem_cons hi,List.drop_eq_getElem_cons hib,fA];refine bR (fun he=>?_) (fun he=>?_)
  ·have h1:=ih m (i+1) (by omega) (by omega);rw [show ((i+1:Nat):Int)=(i:Int)+1 by omega] at h1;rw [ab (kq he),bL (by omega) (by omega),h1,show i+1+fA (a.drop (i+1)) (b.drop (i+1))=i+(fA (a.drop (i+1)) (b.drop (i+1))+1) by omega]
  ·rw [ac (fun e=>he (by rw [e]))]; rfl
theorem fL6 {a b:Bs} (ha:a.length<=100000) (hb:b.length<=100000):kc (a,b,())=some ((((fA a b:Nat):Int),()),()):=by
 show DK fuel (a,b,())=_;rw [er5];have:=fr1 (n:=fuel) ha hb (min a.length b.length) fuel 0 (by omega) (cn (by omega));simpa using this
end Go.VP
namespace Go.VP
open Go Go.VI
def oP (m:bD):Bool:=cM m && (decide (10 < m.aA) && (decide (m.aA < 256) && decide (m.data.length < 256)))
def gb (m:bD):Bool:=if m.kind=11 then m8 m else if m.kind=12\/m.kind=13 then iS m else if m.kind=14 then oP m else gY m
def mn (m:bD):Bs:=if m.kind=12\/m.kind=13 then (iL m).1 else if m.kind=14 then (eF m.aA m.data).1 else (iJ m).1
theorem nm {m:bD} (h:gY m=true):7<=m.kind/\m.kind<=10:=by
 rcases (ju.1 h).kinds with h | h | ⟨h,_⟩ | ⟨h,_⟩ <;> omega
theorem pN {m:bD} (h:iS m=true):m.kind=12\/m.kind=13:=by
 rcases (jy.1 h).kinds with h | ⟨h,_⟩
 ·exact .inl h
 ·exact .inr h
theorem Ri {m:bD} (hk:m.kind=14):oP m=true↔u4 m:=by
 unfold oP;simp only [Bool.and_eq_true,decide_eq_true_eq];exact ⟨fun ⟨a,b,c,d⟩=>⟨hk,a,⟨b,c⟩,d⟩,fun h=>⟨h.bare,h.ty.1,h.ty.2,h.len⟩⟩
theorem lq {m:bD}:gb m=true↔jO m:=by
 unfold gb;constructor
 ·intro h;split at h
  ·exact .upd (Gq.1 h)
  split at h
  ·exact .route (jy.1 h)
  split at h
  ·rename_i hk; exact .opq ((Ri hk).1 h)
  ·exact .field (ju.1 h)
 ·intro h;cases h with
  | field h=>
   have hb:=ju.2 h;have:=nm hb;rw [ac (by omega),ac (by omega),ac (by omega)]; exact hb
  | route h=>
   have hb:=jy.2 h;have:=pN hb;rw [ac (by omega),ab this]; exact hb
  | upd h=>rw [ab h.kind]; exact Gq.2 h
  | opq h=>rw [ac (by have:=h.kind; omega),ac (by have:=h.kind; omega),ab h.kind]; exact (Ri h.kind).2 h
theorem IQ {m:bD} (g:fr m):rG (m,())=some ((gb m,()),()):=by
 have op:(if cM m=true then (if decide (10 < m.aA) then (if decide (m.aA < 256) then some (((decide ((m.data.length:Int) < 256)),()),()) else some ((false,()),())) else some ((false,()),())) else some ((false,()),()))=(some ((oP m,()),()):Option ((Bool × Unit) × Unit)):=by
  unfold oP;have e:decide ((m.data.length:Int) < 256)=decide (m.data.length < 256):=by rw [Bool.eq_iff_iff]; simp; omega
  rw [e];cases cM m
  ·rfl
  cases decide (10 < m.aA)
  ·rfl
  cases decide (m.aA < 256)
  ·rfl
  ·rfl
 rw [el0,fA3 g,Pg g.good,mD,WP g.good];simp only [aa,op];unfold gb;refine bR (fun h=>by rw [ab h]) (fun h=>?_);rw [ac h];refine bR (fun h2=>?_) (fun h2=>?_)
 ·rw [ab (by simp [h2]),ab (.inl h2)]
 ·refine bR (fun h3=>by rw [ab (.inr h3)]) (fun h3=>?_);rw [ac (show ¬(m.kind=12\/m.kind=13) by omega)];exact bR (fun h4=>by rw [ab h4]) (fun h4=>by rw [ac h4])
theorem EE {m:bD} (g:fr m):rk (m,())=some ((gb m,()),()):=by
 have:=g.good.few.list; have:=g.good.few.subs;rw [YY,My g.good,aa];dsimp only;cases hf:gY m with
 | true=>rw [cQ,lq.2 (.field (ju.1 hf))]
 | false=>
 rw [cV,K8 g.good,aa];dsimp only;cases hr:iS m with
 | true=>rw [cQ,lq.2 (.route (jy.1 hr))]
 | false=>
 rw [cV,ZM g (.inr (.inr trivial)),aa];dsimp only;cases hu:m8 m with
 | true=>rw [cQ,lq.2 (.upd (Gq.1 hu))]
 | false=>
 rw [cV,dO1,mC (by omega) (by omega)];unfold gb;rw [hu,hr,hf];by_cases hk:m.kind=14
 ·rw [ab (by simp [hk]),ac (show ¬m.kind=11 by omega),ac (show ¬(m.kind=12\/m.kind=13) by omega),ab hk];unfold oP;have e:decide ((m.data.length:Int)<=255)=decide (m.data.length < 256):=by rw [Bool.eq_iff_iff]; simp; omega
  have e2:decide (11<=m.aA)=decide (10 < m.aA):=by rw [Bool.eq_iff_iff]; simp; omega
  have e3:decide (m.aA<=255)=decide (m.aA < 256):=by rw [Bool.eq_iff_iff]; simp; omega
  rw [e,e2,e3];simp only [aa];cases cM m
  ·rfl
  cases decide (10 < m.aA)
  ·rfl
  cases decide (m.aA < 256)
  ·rfl
  ·rfl
 ·rw [ac (by simp [hk])];have:(if m.kind=11 then false else if m.kind=12\/m.kind=13 then false else if m.kind=14 then oP m else false)=false:=by
   rw [ac hk];split
   ·rfl
   split
   ·rfl
   ·rfl
  rw [this]; rfl
theorem fL7 {m:bD} (g:fr m):xA (m,())=some ((mn m,()),()):=by
 rw [el5,fy8 g.good,lP,fZ7 g.good];simp only [aa];unfold mn;refine bR (fun h2=>?_) (fun h2=>?_)
 ·rw [ab (by simp [h2]),ab (.inl h2)]
 ·refine bR (fun h3=>by rw [ab (.inr h3)]) (fun h3=>?_);rw [ac (show ¬(m.kind=12\/m.kind=13) by omega)];exact bR (fun h4=>by rw [ab h4]) (fun h4=>by rw [ac h4])
theorem Vi {m:bD} (h:gY m=false):iJ m=([],false):=by unfold iJ; rw [h]; rfl
theorem fg0 {m:bD} (h:iS m=false):iL m=([],false):=by unfold iL; rw [h]; rfl
theorem fA5 {m:bD} (g:fr m) (h:jO m) (hk:m.kind≠11):zR (m,())=some ((mn m,()),()):=by
 rw [Y6,fy2 g.good,aa,fy9 g.good,aa,kK,aa];unfold mn;dsimp only;cases h with
 | field h=>
  have hb:=ju.2 h;have:=nm hb;rw [(L3 h).1,b7,b7,ac (by omega),ac (by omega)]
 | route h=>
  have hb:=jy.2 h;have hk:=pN hb;have hf:gY m=false:=by
   cases e:gY m with
   | false=>rfl
   | true=>have:=nm e; omega
  rw [Vi hf,cK,(Ka h).1,b7,ab hk]
 | upd h=>exact absurd h.kind hk
 | opq h=>
  have hkk:=h.kind;have hf:gY m=false:=by
   cases e:gY m with
   | false=>rfl
   | true=>have:=nm e; omega
  have hr:iS m=false:=by
   cases e:iS m with
   | false=>rfl
   | true=>have:=pN e; omega
  rw [Vi hf,cK,fg0 hr,cK,ac (by omega),ab hkk]
def lx (s:Bs):Bs:=(eF 6 (wJ s)).1
def lu (a:Bs):Bs:=(eF 7 (ki a)).1
def jg (m:bD) (n:Nat):Bs:=(eF 8 (kg m n)).1
theorem mS (t:Int) (d:Bs):(eF t d).1.length<=257:=by unfold eF; split <;> simp; omega
abbrev gJ (b:Bs) (c:bS):dE:=⟨b,c.au,c.ak,c.am,c.aq,c.ax,c.ay,c.id⟩
theorem tA {b d:Bs} {c:bS} {t:Int} (hb:b.length<=10000):mr (gJ b c,t,d,())=some ((),(gJ (b++(eF t d).1) c,())):=by
 have:=mS t d;rw [dc7,lP,aa];dsimp only;rw [ab (d7 (by omega))]
theorem VA {b s:Bs} {c:bS} (hb:b.length<=10000) (hs:s.length<=10000):uR (gJ b c,s,())=some ((),(gJ (b++lx s) (eQ c s),())):=by
 rw [dr7,ab (bW (by omega)),tA hb,aa]; rfl
theorem fV5 {b a:Bs} {c:bS} {f:Int} (hb:b.length<=10000) (h:(f=0/\a.length=4)\/(f=1/\a.length=16)):ny (gJ b c,f,a,())=some ((),(gJ (b++lu a) (ge c f a),())):=by
 have hf:0<=f/\f < 2:=by omega
 have hal:a.length<=16:=by omega
 rw [dc5,Pt,aa];unfold lu ki lw;by_cases hl:df a=true
 ·rw [ab hl,ab hl];dsimp only;rw [cQ,ab (bW (by simp; omega)),tA hb,aa,ab hf]; rfl
 ·rw [ac hl,ac hl];dsimp only;rw [cV];rcases h with ⟨rfl,h⟩ | ⟨rfl,h⟩
  ·rw [ab (by decide),ab (bW (by omega)),tA hb,aa,ab hf,ab h]; rfl
  ·rw [ac (by decide),ab (bW (by omega)),tA hb,aa,ab hf,ac (show ¬a.length=4 by omega)]; rfl
theorem Nn {ae:Int} (h:0<=ae/\ae < 4):tY (ae,())=some ((cq ae,()),()):=by
 rw [ev3];rcases jq h with rfl | rfl | rfl | rfl <;> rfl
theorem eH.cutl {m:bD} (h:eH m):((kz m.ah m.af).length:Int)=cJ m.af/\cq m.ae<=cJ m.af/\0<=cq m.ae:=by
 have r:=h.asR;obtain ⟨l1,l2,l3,l4,l5,l6⟩:=kp r.ae r.af;exact ⟨r.cut.1,l2,l1⟩
theorem Ml {m:bD} (h:eH m):pk (m,())=some ((cD m,()),()):=by
 obtain ⟨hae,hpl,hbl,h16,hbs,hp16⟩:=h.pre;obtain ⟨c1,c2,c3⟩:=h.cutl;rw [eh9,LU (by omega) (cx.2 (by omega)) (by omega),aa,Nn hae,aa];dsimp only;rw [ab (by omega)]; rfl
theorem PT {m:bD} (h:eH m):gC (m,())=some ((cD m,()),()):=by
 obtain ⟨hae,hpl,hbl,h16,hbs,hp16⟩:=h.pre;obtain ⟨c1,c2,c3⟩:=h.cutl;rw [Ks,Qz (by omega) (by omega),aa,oj hae,aa];dsimp only;rw [ab (by omega)]; rfl
def dB (c:bS) (m:bD):Nat:=if dl c m.ae=[] then 0 else fA ((dl c m.ae).drop (cq m.ae).toNat) (cD m)
theorem CK (c:bS) (m:bD):dB c m<=(cD m).length:=by
 unfold dB; split
 ·omega
 ·exact (Q1 _ _).2
theorem g24 {b:Bs} {c:bS} {m:bD} (hc:bA c) (h:eH m):iF (gJ b c,m,())=some ((((dB c m:Nat):Int),()),(gJ b c,())):=by
 obtain ⟨hae,hpl,hbl,h16,hbs,hp16⟩:=h.pre;have hpre:(if m.ae=0 then c.au else (if m.ae=1 then c.ak else (if m.ae=2 then c.am else c.aq)))=dl c m.ae:=rfl;rw [cz5,ab hae];dsimp only;rw [hpre];unfold dB;refine p4 (fun hq=>by rw [ab hq]; rfl) (fun hq=>?_);have hl:=pq hc hae hq;have hsz:cA m.ae<=16/\cq m.ae<=cA m.ae:=by unfold cA cq; refine ⟨?_,?_⟩ <;> (split <;> (try split) <;> (try split) <;> omega)
 rw [ac hq,Nn hae,aa];dsimp only;rw [ab (by omega),Ml h,aa];dsimp only;rw [fV4 (by simp; omega) (by omega),aa]
theorem g25 {m:bD} {n k N:Nat} {x0 x1 x2:Int} {w:dE} {p0 p1 p2 p3 x6:Bs} (hx:x6.length<=100) (hs:fa m.subs=true) (hfs:em m.subs) (hB:pk (m,())=some ((cD m,()),())) (hBl:(cD m).length<=16) (hN:N<=(cD m).length) (hw:w.b.length<=10000) :
  oO n (k+1) N m [x0,x1,x2] 3 w p0 p1 p2 p3 x6 3=some ((),(gJ (w.b++(eF 8 ((x6++(cD m).drop N)++bX m.subs)).1) ⟨p0,p1,p2,p3,w.aR,w.aQ,w.bg⟩,())):=by
 have hsl:=mm hs;rw [Hm,bN (by omega),Fr hfs (by have:=hfs.1; have:=(nZ hs).2; have:=lY (l:=m.subs); omega),aa,qB hs,hB,aa];dsimp only;rw [ab (by omega),Int.toNat_natCast,ab (bW (by simp; omega)),ab (bW (by simp; omega))];have:=tA (b:=w.b) (d:=(x6++(cD m).drop N)++bX m.subs) (c:=⟨p0,p1,p2,p3,w.aR,w.aQ,w.bg⟩) (t:=8) hw;rw [this]; rfl
theorem OV {m:bD} {n k N:Nat} {w:dE} {p0 p1 p2 p3 x6:Bs} (h:eH m) (hx:x6.length<=50) (hfs:em m.subs) (hN:N<=(cD m).length) (hw:w.b.length<=10000) :
  AE n (k+4) N m w x6 [m.aw,m.seq,m.aj] 3 0 p0 p1 p2 p3=some ((),(gJ (w.b++(eF 8 (x6++(be 2 m.aw++(be 2 m.seq++(be 2 m.aj++((cD m).drop N++bX m.subs)))))).1) ⟨p0,p1,p2,p3,w.aR,w.aQ,w.bg⟩,())):=by
 obtain ⟨hae,hpl,hbl,h16,hbs,hp16⟩:=h.pre;have b2:∀ x,(be 2 x).length=2:=fun x=>cm 2 x
 rw [cj5,bP (by omega),ab (by omega)];show (if cE _=true then oO n (k+3) N m [m.aw,m.seq,m.aj] 3 w p0 p1 p2 p3 (x6++([bF (IntKind.wrap .u8 (cb .i64 m.aw 8)),bF (IntKind.wrap .u8 m.aw)])) 1 else none)=_;rw [ab (d7 (by simp; omega)),qv h.iv,Hm,bP (by omega),ab (by omega)];show (if cE _=true then oO n (k+2) N m [m.aw,m.seq,m.aj] 3 w p0 p1 p2 p3 ((x6++be 2 m.aw)++([bF (IntKind.wrap .u8 (cb .i64 m.seq 8)),bF (IntKind.wrap .u8 m.seq)])) 2 else none)=_;rw [ab (d7 (by simp [b2]; omega)),qv h.sq,Hm,bP (by omega),ab (by omega)];show (if cE _=true then oO n (k+1) N m [m.aw,m.seq,m.aj] 3 w p0 p1 p2 p3 (((x6++be 2 m.aw)++be 2 m.seq)++([bF (IntKind.wrap .u8 (cb .i64 m.aj 8)),bF (IntKind.wrap .u8 m.aj)])) 3 else none)=_;rw [ab (d7 (by simp [b2]; omega)),qv h.me,g25 (by simp [b2]; omega) h.subs hfs (Ml h) h16 hN hw];simp only [List.append_assoc]
theorem fV6 {b:Bs} {c:bS} {m:bD} {N:Nat} (h:eH m) (hfs:em m.subs) (hN:N<=(cD m).length) (hb:b.length<=10000):i3 (gJ b c,m,(N:Int),())=some ((),(gJ (b++jg m N) (fb c m.ae m.ah),())):=by
 obtain ⟨hae,hpl,hbl,h16,hbs,hp16⟩:=h.pre;obtain ⟨k,hk⟩:∃ k,fuel=k+4:=by obtain ⟨q,e⟩:=xq; exact ⟨q+999999999996,e⟩
 have u1:bF (IntKind.wrap .u8 m.ae)=bF m.ae:=i5 hae.1;have u2:bF (IntKind.wrap .u8 m.af)=bF m.af:=i5 hpl.1;have u3:bF (IntKind.wrap .u8 (N:Int))=bF N:=i5 (by omega);show D8 fuel (gJ b c,m,(N:Int),())=_;rw [cF4,u1,u2,u3];generalize hf:(fuel:Nat)=F;rw [hf] at hk;unfold jg kg fb lR;have hx:([bF m.ae,128,bF m.af,bF N]:Bs).length<=50:=by simp
 refine bR (fun h0=>?_) (fun h0=>?_)
 ·rw [ab (by simp),ab (by simp),ab h0,ab h0];have:=OV (n:=F) (k:=k) (N:=N) (w:=gJ b c) (p0:=c.au) (p1:=c.ak) (p2:=c.am) (p3:=c.aq) (x6:=([bF m.ae,128,bF m.af,bF N]:Bs).set 1 (bF 0)) h (by simp) hfs hN hb;rw [<- hk] at this;exact this
 ·rw [ab hae,ac h0,ac h0];have:=OV (n:=F) (k:=k) (N:=N) (w:=gJ b c) (p0:=if m.ae=0 then m.ah else c.au) (p1:=if m.ae=1 then m.ah else c.ak) (p2:=if m.ae=2 then m.ah else c.am) (p3:=if m.ae=3 then m.ah else c.aq) (x6:=[bF m.ae,128,bF m.af,bF N]) h hx hfs hN hb;rw [<- hk,ac h0] at this;rw [ac h0];exact this
def p6 (c:bS) (m:bD):Bs:=if m.aj=65535 then [] else (if m.id=c.id then [] else lx m.id)++(if m.next=dg c (b9 m.ae) then [] else lu m.next)
def pG (c:bS) (m:bD):bS:=if m.aj=65535 then c else ge (eQ c m.id) (b9 m.ae) m.next
def ea (c:bS) (m:bD):Bs × bS × Int:=
 if gb m=false then ([],c,1) else if m.kind≠11 then (mn m,c,0)
 else if m.aj≠65535/\m.next=[]/\dg c (b9 m.ae)≠[] then ([],c,9)
 else (p6 c m++jg m (dB c m),fb (pG c m) m.ae m.ah,0)
theorem uZ {c:bS} {i:Bs} (h:i=c.id):eQ c i=c:=by subst h; rfl
theorem rR {c:bS} {f:Int} {a:Bs} (hf:f=0\/f=1) (h:a=dg c f):ge c f a=c:=by
 subst h;rcases hf with rfl | rfl <;> rfl
theorem eH.fam {m:bD} (h:eH m) (hm:m.aj≠65535):(b9 m.ae=0\/b9 m.ae=1)/\(m.next≠[]->(b9 m.ae=0/\m.next.length=4)\/(b9 m.ae=1/\m.next.length=16)):=by
 have hn:=h.near hm;have hf:=rL (ae:=m.ae) (by have:=h.pre.1; omega);refine ⟨by omega,fun hne=>?_⟩;exact fq2 (by rcases hn.2.2 with q | q; exact absurd q hne; exact q) (by omega)
theorem CU {b:Bs} {c:bS} {m:bD} (hc:bA c) (h:eH m) (hfs:em m.subs) (hb:b.length<=1000) :
  ((iF (gJ b c,m,())).bind fun r6=>((i3 (r6.2.1,m,r6.1.1,())).bind fun r7=>(some ((r7.2.1.b,(bQ.mk r7.2.1.aK r7.2.1.aI r7.2.1.aJ r7.2.1.aL r7.2.1.aR r7.2.1.aQ r7.2.1.bg),0,()),()):Option ((Bs × bS × Int × Unit) × Unit))))=some ((b++jg m (dB c m),fb c m.ae m.ah,0,()),()):=by
 rw [g24 hc h,aa];dsimp only;rw [fV6 h hfs (CK c m) (by omega),aa]
theorem tj {c:bS} {i:Bs} (hc:bA c) (h:i.length=8):bA (eQ c i):=⟨hc.1,hc.2.1,hc.2.2.1,hc.2.2.2.1,hc.2.2.2.2.1,hc.2.2.2.2.2.1,.inr h⟩
theorem EB {c:bS} {f:Int} {a:Bs} (hc:bA c) (h:(f=0/\a.length=4)\/(f=1/\a.length=16)):bA (ge c f a):=by
 obtain ⟨h0,h1,h2,h3,h4,h5,h6⟩:=hc;rcases h with ⟨rfl,h⟩ | ⟨rfl,h⟩
 ·exact ⟨h0,h1,h2,h3,.inr h,h5,h6⟩
 ·exact ⟨h0,h1,h2,h3,h4,.inr h,h6⟩
theorem FW (s:Bs):(lx s).length<=257:=mS _ _
theorem JC (s:Bs):(lu s).length<=257:=mS _ _
theorem fA7 {c:bS} {m:bD} (hc:bA c) (g:fr m):wn (c,m,())=some (((ea c m).1,(ea c m).2.1,(ea c m).2.2,()),()):=by
 rw [eP9,IQ g,aa];unfold ea;dsimp only;cases hl:gb m with
 | false=>rw [cK,ab rfl]
 | true=>
 have hR:=lq.1 hl;rw [b7,ac (show ¬(true=false) by simp)];refine bZ (fun hk=>?_) (fun hk=>?_)
 ·rw [fL7 g,aa,ab hk]
 rw [ac (show ¬(m.kind≠11) from fun q=>q hk)];have h:eH m:=by
  cases hR with
  | field h=>have:=nm (ju.2 h); omega
  | route h=>have:=pN (jy.2 h); omega
  | upd h=>exact h
  | opq h=>have:=h.kind; omega
 have hfs:=vx g.good;unfold p6 pG;refine bZ (fun hm=>?_) (fun hm=>?_)
 rotate_left
 ·rw [ac (show ¬(m.aj≠65535/\m.next=[]/\dg c (b9 m.ae)≠[]) from fun q=>q.1 hm),ab hm,ab hm];exact CU hc h hfs (by simp)
 have hn:=h.near hm;obtain ⟨hf,hop⟩:=h.fam hm;have hf2:0<=b9 m.ae/\b9 m.ae < 2:=by omega
 have hnx:(if b9 m.ae=0 then c.ax else c.ay)=dg c (b9 m.ae):=rfl;rw [sY,aa];dsimp only;rw [hnx,ac hm,ac hm];simp only [ab hf2];have hil:m.id.length<=10000:=by omega
 have nohop:∀ (b:Bs) (k:bS),bA k->b.length<=300->dg k (b9 m.ae)=dg c (b9 m.ae)->m.next=dg c (b9 m.ae)->dB k m=dB c m->
   ((iF (gJ b k,m,())).bind fun r6=>((i3 (r6.2.1,m,r6.1.1,())).bind fun r7=>(some ((r7.2.1.b,(bQ.mk r7.2.1.aK r7.2.1.aI r7.2.1.aJ r7.2.1.aL r7.2.1.aR r7.2.1.aQ r7.2.1.bg),0,()),()):Option ((Bs × bS × Int × Unit) × Unit))))=some ((((b++[])++jg m (dB c m)),fb (ge k (b9 m.ae) m.next) m.ae m.ah,0,()),()):=fun b k hk hb e1 e2 e3=>by
  rw [CU hk h hfs (by omega),rR hf (by rw [e1]; exact e2),e3,List.append_nil]
 have wihop:∀ (b:Bs) (k:bS),bA k->b.length<=300->m.next≠[]->dB k m=dB c m->
   ((ny (gJ b k,b9 m.ae,m.next,())).bind fun r5=>((iF (r5.2.1,m,())).bind fun r6=>((i3 (r6.2.1,m,r6.1.1,())).bind fun r7=>(some ((r7.2.1.b,(bQ.mk r7.2.1.aK r7.2.1.aI r7.2.1.aJ r7.2.1.aL r7.2.1.aR r7.2.1.aQ r7.2.1.bg),0,()),()):Option ((Bs × bS × Int × Unit) × Unit)))))=some ((((b++lu m.next)++jg m (dB c m)),fb (ge k (b9 m.ae) m.next) m.ae m.ah,0,()),()):=fun b k hk hb hne e3=>by
  have hl:=JC m.next;rw [fV5 (by omega) (hop hne),aa];dsimp only;rw [CU (EB hk (hop hne)) h hfs (by simp; omega)];have:dB (ge k (b9 m.ae) m.next) m=dB k m:=rfl;rw [this,e3]
 have hl0:dB (eQ c m.id) m=dB c m:=rfl;have hidl:=FW m.id;by_cases hne:m.next=[]
 ·rw [ab (by simp [hne])];by_cases hq:dg c (b9 m.ae)=[]
  ·rw [ac (by simp [hq]),ac (show ¬(m.aj≠65535/\m.next=[]/\dg c (b9 m.ae)≠[]) from fun q=>q.2.2 hq)];have e2:m.next=dg c (b9 m.ae):=by rw [hne,hq]
   by_cases hi:m.id=c.id
   ·rw [ac (by simp [hi]),ac (by simp [e2]),ab hi,ab e2,uZ hi];exact nohop [] c hc (by simp) rfl e2 rfl
   ·rw [ab (by simp [hi]),ac hi,ab e2,VA (by simp) hil,aa];dsimp only;rw [ac (by simp [e2])];exact nohop (lx m.id) (eQ c m.id) (tj hc hn.2.1) (by omega) rfl e2 hl0
  ·rw [ab (by simp [hq]),ab ⟨hm,hne,hq⟩]
 ·rw [ac (by simpa using hne),ac (show ¬(m.aj≠65535/\m.next=[]/\dg c (b9 m.ae)≠[]) from fun q=>hne q.2.1)];by_cases hi:m.id=c.id
  ·rw [ac (by simp [hi]),ab hi,uZ hi];by_cases e2:m.next=dg c (b9 m.ae)
   ·rw [ac (by simp [e2]),ab e2];exact nohop [] c hc (by simp) rfl e2 rfl
   ·rw [ab (by simpa using e2),ac e2];exact wihop [] c hc (by simp) hne rfl
  ·rw [ab (by simp [hi]),ac hi,VA (by simp) hil,aa];dsimp only;by_cases e2:m.next=dg c (b9 m.ae)
   ·rw [ac (by simp [e2]),ab e2];exact nohop (lx m.id) (eQ c m.id) (tj hc hn.2.1) (by omega) rfl e2 hl0
   ·rw [ab (by simpa using e2),ac e2];exact wihop (lx m.id) (eQ c m.id) (tj hc hn.2.1) (by omega) hne hl0
end Go.VP
namespace Go.VP
open Go Go.VI
theorem Xo {s:Bs} (hs:s.length<=10000):tO (s,())=some ((lx s,()),()):=by
 rw [eT9,ab (bW (by omega)),kK,aa]; rfl
theorem fA9 {a:Bs} (h:df a=true):ki a=3::0::a.drop 8:=by unfold ki; rw [ab h]
theorem g26 {a:Bs} (h:¬df a=true) (h4:a.length=4):ki a=1::0::a:=by unfold ki; rw [ac h,ab h4]
theorem fV7 {a:Bs} (h:¬df a=true) (h4:¬a.length=4):ki a=2::0::a:=by unfold ki; rw [ac h,ac h4]
theorem Lj {a:Bs} (h:a.length=4\/a.length=16):oS (a,())=some ((lu a,()),()):=by
 rw [ZU,ab (bW (by omega)),pY];unfold lu;simp only [aa];by_cases hl:df a=true
 ·have:=(jD hl).1;rw [fA9 hl,ac (by simp; omega),ab hl,ab (by omega),ab (bW (by simp; omega)),kK,aa]; rfl
 ·by_cases h4:a.length=4
  ·rw [g26 hl h4,ab (by simp; omega),ab (bW (by omega)),ac hl,kK,aa]; rfl
  ·rw [fV7 hl h4,ac (by simp; omega),ac hl,kK,aa]; rfl
theorem DS {n:Int} (h:0<=n/\n < 65536):dK (n,2,())=some ((be 2 n,()),()):=by
 have:=nX (n:=n) (k:=2) (cx.2 (by omega)) (by omega) (by omega);unfold eJ at this;rw [ab (lh.2 h)] at this;exact this
theorem fB0 {m:bD} {N:Nat} (h:eH m) (hfs:em m.subs) (hN:N<=(cD m).length):cv (m,(N:Int),())=some ((jg m N,()),()):=by
 obtain ⟨hae,hpl,hbl,h16,hbs,hp16⟩:=h.pre;have u1:bF (IntKind.wrap .u8 m.ae)=bF m.ae:=i5 hae.1;have u2:bF (IntKind.wrap .u8 m.af)=bF m.af:=i5 hpl.1;have u3:bF (IntKind.wrap .u8 (N:Int))=bF N:=i5 (by omega);have b2:∀ x,(be 2 x).length=2:=fun x=>cm 2 x
 have hsl:=mm h.subs;have hsp:=Hi hfs (by have:=hfs.1; have:=(nZ h.subs).2; have:=lY (l:=m.subs); omega);rw [qB h.subs] at hsp;rw [dQ8,u1,u2,u3,hsp,DS h.iv,DS h.sq,DS h.me,PT h];unfold jg kg lR;simp only [aa];refine bR (fun h0=>?_) (fun h0=>?_)
 ·rw [ab (bW (by simp [b2])),ab (bW (by simp [b2])),ab (bW (by simp [b2])),ab (by omega),Int.toNat_natCast,ab (bW (by simp [b2]; omega)),ab (bW (by simp [b2]; omega)),kK,aa,ab h0];simp only [List.append_assoc]; rfl
 ·rw [ab (bW (by simp [b2])),ab (bW (by simp [b2])),ab (bW (by simp [b2])),ab (by omega),Int.toNat_natCast,ab (bW (by simp [b2]; omega)),ab (bW (by simp [b2]; omega)),kK,aa,ac h0];simp only [List.append_assoc]; rfl
theorem fL8 (m:bD) (n:Nat):(jg m n).length<=257:=mS _ _
theorem pO {R:Type} {c:bS} {m:bD} (hc:bA c) (h:eH m) {U:Int->Option ((Bs × Unit) × Unit)} {K1 K2:((Bs × Unit) × Unit)->Option R} {r:Option R}
  (hr:(if m.ae=0 then (U ((dB c m:Nat):Int)).bind K2 else (U ((dB c m:Nat):Int)).bind K1)=r) :
  (if m.ae != 0 then (if 0<=m.ae/\m.ae < 4 then (if !((if m.ae=0 then c.au else (if m.ae=1 then c.ak else (if m.ae=2 then c.am else c.aq)))==([]:Bs)) then (if 0<=m.ae/\m.ae < 4 then ((gM (m.ae,())).bind fun r6=>(if 0<=r6.1.1/\r6.1.1<=((if m.ae=0 then c.au else (if m.ae=1 then c.ak else (if m.ae=2 then c.am else c.aq))).length:Int) then ((gC (m,())).bind fun r7=>((kc (((if m.ae=0 then c.au else (if m.ae=1 then c.ak else (if m.ae=2 then c.am else c.aq))).drop r6.1.1.toNat),r7.1.1,())).bind fun r8=>(if m.ae != 0 then (if 0<=m.ae/\m.ae < 4 then ((U r8.1.1).bind K1) else none) else ((U r8.1.1).bind K2)))) else none)) else none) else (if m.ae != 0 then (if 0<=m.ae/\m.ae < 4 then ((U 0).bind K1) else none) else ((U 0).bind K2))) else none) else (if m.ae != 0 then (if 0<=m.ae/\m.ae < 4 then ((U 0).bind K1) else none) else ((U 0).bind K2)))=r:=by
 subst hr;obtain ⟨hae,hpl,hbl,h16,hbs,hp16⟩:=h.pre;have hpre:(if m.ae=0 then c.au else (if m.ae=1 then c.ak else (if m.ae=2 then c.am else c.aq)))=dl c m.ae:=rfl;rw [hpre];by_cases a0:m.ae=0
 ·have e0:dl c m.ae=[]:=by unfold dl; rw [ab a0]; exact hc.1
  have l0:dB c m=0:=by unfold dB; rw [ab e0]
  rw [ac (by simp [a0]),ac (by simp [a0]),ab a0,l0]; rfl
 rw [ac a0];rw [ab (by simp [a0]),ab hae];by_cases hq:dl c m.ae=[]
 ·have l0:dB c m=0:=by unfold dB; rw [ab hq]
  rw [ac (by simp [hq]),ab (by simp [a0]),ab hae,l0]; rfl
 ·have hl:=pq hc hae hq;have hsz:cA m.ae<=16/\cq m.ae<=cA m.ae:=by unfold cA cq; refine ⟨?_,?_⟩ <;> (split <;> (try split) <;> (try split) <;> omega)
  have l1:dB c m=fA ((dl c m.ae).drop (cq m.ae).toNat) (cD m):=by unfold dB; rw [ac hq]
  rw [ab (by simpa using hq),ab hae,oj hae,aa];dsimp only;rw [ab (by omega),PT h,aa];dsimp only;rw [fL6 (by simp; omega) (by omega),aa];dsimp only;rw [ab (by simp [a0]),ab hae,l1]
theorem fV8 {c:bS} {ae:Int} {a:Bs} (h:ae=0):fb c ae a=c:=by unfold fb; rw [ab h]
theorem oN {c:bS} {ae:Int} {a:Bs} (h:ae≠0):fb c ae a=⟨(if ae=0 then a else c.au),(if ae=1 then a else c.ak),(if ae=2 then a else c.am),(if ae=3 then a else c.aq),c.ax,c.ay,c.id⟩:=by unfold fb; rw [ac h,ac h]
theorem fB1 {c:bS} {m:bD} (hc:bA c) (g:fr m):zP (c,m,())=some (((ea c m).1,(ea c m).2.1,(ea c m).2.2,()),()):=by
 rw [eF7,EE g,aa];unfold ea;dsimp only;cases hl:gb m with
 | false=>rw [cK,ab rfl]
 | true=>
 have hR:=lq.1 hl;rw [b7,ac (show ¬(true=false) by simp)];refine bZ (fun hk=>?_) (fun hk=>?_)
 ·rw [fA5 g hR hk,aa,ab hk]
 rw [ac (show ¬(m.kind≠11) from fun q=>q hk)];have h:eH m:=by
  cases hR with
  | field h=>have:=nm (ju.2 h); omega
  | route h=>have:=pN (jy.2 h); omega
  | upd h=>exact h
  | opq h=>have:=h.kind; omega
 have hfs:=vx g.good;have hle:=CK c m;have hul:=fL8 m (dB c m);have hidl:=FW m.id;have hhl:=JC m.next;have hU:=fB0 (N:=dB c m) h hfs hle;unfold p6 pG;refine bZ (fun hm=>?_) (fun hm=>?_)
 rotate_left
 ·rw [ac (show ¬(m.aj≠65535/\m.next=[]/\dg c (b9 m.ae)≠[]) from fun q=>q.1 hm),ab hm,ab hm];refine pO (U:=fun n=>cv (m,n,())) hc h ?_;show (if m.ae=0 then (cv (m,((dB c m:Nat):Int),())).bind _ else (cv (m,((dB c m:Nat):Int),())).bind _)=_;rw [hU];simp only [aa];by_cases a0:m.ae=0
  ·rw [ab a0,ab (bW (by omega)),fV8 a0]
  ·rw [ac a0,ab (bW (by omega)),oN a0]
 have hn:=h.near hm;have a0:m.ae≠0:=by omega
 obtain ⟨hf,hop⟩:=h.fam hm;have hf2:0<=b9 m.ae/\b9 m.ae < 2:=by omega
 have hnx:(if b9 m.ae=0 then c.ax else c.ay)=dg c (b9 m.ae):=rfl;have hop':m.next≠[]->m.next.length=4\/m.next.length=16:=fun q=>by have:=hop q; omega
 rw [t7,aa];dsimp only;rw [hnx,ac hm,ac hm];simp only [ab hf2];have hil:m.id.length<=10000:=by omega
 by_cases hne:m.next=[]
 ·rw [ab (by simp [hne])];by_cases hq:dg c (b9 m.ae)=[]
  ·rw [ac (by simp [hq]),ac (show ¬(m.aj≠65535/\m.next=[]/\dg c (b9 m.ae)≠[]) from fun q=>q.2.2 hq)];have e2:m.next=dg c (b9 m.ae):=by rw [hne,hq]
   have eN:∀ k:bS,dg k (b9 m.ae)=dg c (b9 m.ae)->ge k (b9 m.ae) m.next=k:=fun k hk=>rR hf (by rw [hk]; exact e2)
   by_cases hi:m.id=c.id
   ·rw [ac (by simp [hi]),ac (by simp [e2]),ab hi,ab e2,uZ hi,eN c rfl];refine pO (U:=fun n=>cv (m,n,())) hc h ?_;rw [ac a0];show (cv (m,((dB c m:Nat):Int),())).bind _=_;rw [hU];simp only [aa];rw [ab (bW (by first | omega | (simp; omega))),oN a0];simp
   ·rw [ab (by simp [hi]),ac hi,ab e2,Xo hil,aa];dsimp only;rw [ac (by simp [e2]),eN (eQ c m.id) rfl];refine pO (U:=fun n=>cv (m,n,())) hc h ?_;rw [ac a0];show (cv (m,((dB c m:Nat):Int),())).bind _=_;rw [hU];simp only [aa];rw [ab (bW (by first | omega | (simp; omega))),oN a0];simp [ge,eQ]
  ·rw [ab (by simp [hq]),ab ⟨hm,hne,hq⟩]
 ·rw [ac (by simpa using hne),ac (show ¬(m.aj≠65535/\m.next=[]/\dg c (b9 m.ae)≠[]) from fun q=>hne q.2.1)];by_cases hi:m.id=c.id
  ·rw [ac (by simp [hi]),ab hi,uZ hi];by_cases e2:m.next=dg c (b9 m.ae)
   ·rw [ac (by simp [e2]),ab e2,rR hf e2];refine pO (U:=fun n=>cv (m,n,())) hc h ?_;rw [ac a0];show (cv (m,((dB c m:Nat):Int),())).bind _=_;rw [hU];simp only [aa];rw [ab (bW (by first | omega | (simp; omega))),oN a0];simp
   ·rw [ab (by simpa using e2),ac e2,Lj (hop' hne),aa];dsimp only;rw [ab (bW (by omega))];refine pO (U:=fun n=>cv (m,n,())) hc h ?_;rw [ac a0];show (cv (m,((dB c m:Nat):Int),())).bind _=_;rw [hU];simp only [aa];rw [ab (bW (by first | omega | (simp; omega))),oN a0];simp [ge,eQ]
  ·rw [ab (by simp [hi]),ac hi,Xo hil,aa];dsimp only;by_cases e2:m.next=dg c (b9 m.ae)
   ·rw [ac (by simp [e2]),ab e2,rR hf (show m.next=dg (eQ c m.id) (b9 m.ae) from e2)];refine pO (U:=fun n=>cv (m,n,())) hc h ?_;rw [ac a0];show (cv (m,((dB c m:Nat):Int),())).bind _=_;rw [hU];simp only [aa];rw [ab (bW (by first | omega | (simp; omega))),oN a0];simp [ge,eQ]
   ·rw [ab (by simpa using e2),ac e2,Lj (hop' hne),aa];dsimp only;rw [ab (bW (by omega))];refine pO (U:=fun n=>cv (m,n,())) hc h ?_;rw [ac a0];show (cv (m,((dB c m:Nat):Int),())).bind _=_;rw [hU];simp only [aa];rw [ab (bW (by first | omega | (simp; omega))),oN a0];simp [ge,eQ]
end Go.VP
namespace Go.VP
open Go Go.VI
def Tg' (t:dc):Prop:=((0<=t.aA/\t.aA<=255)/\t.data.length<=255)/\t.aA≠0/\t.aA≠1
def fV (c:bS) (s:Bs) (M:List bD) (d:bS):Prop:=∀ p,∃ l,cP p s=.ok l/\(∀ t∈l,Tg' t)/\∀ acc,cR c l acc=(acc++M,d,0,0)
theorem Dc (c:bS):fV c [] [] c:=fun p=>⟨[],iY p,(fun t ht=>by cases ht),fun acc=>by rw [cR,List.append_nil]⟩
theorem Iy {c d e:bS} {s t:Bs} {M N:List bD} (h:fV c s M d) (h2:fV d t N e):fV c (s++t) (M++N) e:=fun p=>by
 obtain ⟨l,l1,l2,l3⟩:=h p;obtain ⟨k,k1,k2,k3⟩:=h2 (p+s.length);refine ⟨l++k,by rw [fq1 s p l l1,k1]; rfl,fun x hx=>?_,fun acc=>?_⟩
 ·rcases List.mem_append.1 hx with hx | hx
  ·exact l2 x hx
  ·exact k2 x hx
 ·rw [MK l k c acc (by rw [l3]),l3,k3,List.append_assoc]
theorem rS {c d:bS} {t:Int} {b:Bs} {M:List bD} (ht:2<=t/\t<=255) (hb:b.length<=255) (h:dN c t b=(d,M,0)):fV c (eF t b).1 M d:=fun p=>by
 have e:(eF t b).1=bF t::bF b.length::b:=by unfold eF; rw [ab ⟨by omega,ht.2,hb⟩]
 refine ⟨[⟨t,p,b⟩],by rw [e]; exact YQ ⟨by omega,ht.2⟩ hb,fun x hx=>?_,fun acc=>?_⟩
 ·rw [List.mem_singleton] at hx; subst hx;exact ⟨⟨⟨by show 0<=t; omega,ht.2⟩,hb⟩,by show t≠0; omega,by show t≠1; omega⟩
 ·rw [cR];dsimp only;rw [h,ac (by simp),cR]
theorem LB {c:bS} {m:bD}:iO c (m,true,0)=(c,[m],0):=by unfold iO; rw [ac (by simp),ab rfl]
theorem Y2 {c:bS} {m:bD} (h:ir m):fV c (iJ m).1 [m] c:=by
 obtain ⟨h1,h2,h3⟩:=L3 h;have e:(iJ m).1=(eF (m.kind - 5) (dx m++bX m.subs)).1:=by unfold iJ; rw [ab (ju.2 h)]
 rw [e];refine rS (by omega) h2 ?_;unfold dN;rw [ac (by omega),ac (by omega),ab (by omega),ff3 h,LB]
theorem fr4 {c:bS} {m:bD} (h:gN m):fV c (iL m).1 [m] c:=by
 obtain ⟨h1,h2⟩:=Ka h;have e:(iL m).1=(eF (if m.kind=13 then 10 else 9) (gj m++bX m.subs)).1:=by unfold iL; rw [ab (jy.2 h)]
 have ht:(if m.kind=13 then (10:Int) else 9)=9\/(if m.kind=13 then (10:Int) else 9)=10:=by split <;> omega
 have hb:=ff7 h;rw [e];generalize (if m.kind=13 then (10:Int) else 9)=t at *;refine rS (by omega) h2 ?_;unfold dN;rw [ac (by omega),ac (by omega),ac (by omega),ab (by omega),hb,LB]
theorem u4.eq {m:bD} (h:u4 m):zZ m.aA m.data=m:=by
 have hx:dv m=some ⟨m.kind,0,0,[],0,0,[],0,0,[],0,[],0,0,0,0,0,0,0,[],[],[],m.aA,m.data,[]⟩:=by
  have hk:=h.kind;unfold dv; rw [ac (by omega),ac (by omega),ac (by omega),ac (by omega),ac (by omega),ac (by omega),ac (by omega),ac (by omega),ac (by omega),ac (by omega),ac (by omega),ac (by omega),ac (by omega),ab hk]
 have hb:=h.bare;rw [cM,hx] at hb;have:=ma.1 hb;rw [h.kind] at this;exact this
theorem fL9 {c:bS} {m:bD} (h:u4 m):fV c (eF m.aA m.data).1 [m] c:=by
 refine rS (by have:=h.ty; omega) (by have:=h.len; omega) ?_;have:=h.ty;unfold dN;rw [ac (by omega),ac (by omega),ac (by omega),ac (by omega),h.eq]
theorem fr5 {c:bS} {m:bD} (h:jO m) (hk:m.kind≠11):fV c (mn m) [m] c:=by
 unfold mn;cases h with
 | field h=>
  have:=nm (ju.2 h);rw [ac (by omega),ac (by omega)]; exact Y2 h
 | route h=>
  have:=pN (jy.2 h);rw [ab this]; exact fr4 h
 | upd h=>exact absurd h.kind hk
 | opq h=>
  have:=h.kind;rw [ac (by omega),ab this]; exact fL9 h
theorem fV9 {c:bS} {s:Bs} (h:s.length=8):fV c (lx s) [] (eQ c s):=by
 refine rS (by omega) (by unfold wJ; simp; omega) ?_;unfold dN;rw [ac (by omega),ab (by omega)];unfold iz;rw [ab rfl,fL2 h]
theorem fM0 {a:Bs} (h:a.length<=16):(ki a).length<=255:=by
 unfold ki; split
 ·simp; omega
 split <;> simp <;> omega
theorem Yq {c:bS} {a:Bs} {f:Int} (h:(f=0/\a.length=4)\/(f=1/\a.length=16)):fV c (lu a) [] (ge c f a):=by
 refine rS (by omega) (fM0 (by omega)) ?_;unfold dN;rw [ac (by omega),ab (by omega)];unfold iz;rw [ac (by omega),ab rfl,fz8 h]
theorem ON {c:bS} {m:bD} {n:Nat} (hc:bA c) (h:eH m) (hn:n<=(cD m).length)
  (hk:n≠0->dl c m.ae≠[]/\((dl c m.ae).drop (cq m.ae).toNat).take n=(cD m).take n)
  (hf:m.aj≠65535->c.id=m.id/\dg c (b9 m.ae)=m.next):fV c (jg m n) [m] (fb c m.ae m.ah):=by
 have hl:=PA h n;have hs:=mm h.subs;obtain ⟨_,_,_,h16,_,_⟩:=h.pre;refine rS (by omega) (by omega) ?_;unfold dN;rw [ac (by omega),ab (by omega)];unfold iz;rw [ac (by omega),ac (by omega),ab rfl,fL1 hc h hn hk hf]
theorem fM2 (c:bS) (m:bD):dB c m≠0->dl c m.ae≠[]/\((dl c m.ae).drop (cq m.ae).toNat).take (dB c m)=(cD m).take (dB c m):=by
 intro h;by_cases hq:dl c m.ae=[]
 ·unfold dB at h; rw [ab hq] at h; exact absurd rfl h
 ·refine ⟨hq,?_⟩;unfold dB; rw [ac hq]; exact WU _ _
theorem fr6 {c:bS} {f:Int} {a:Bs} (hf:f=0\/f=1):dg (ge c f a) f=a:=by rcases hf with rfl | rfl <;> rfl
theorem jO.upd_of {m:bD} (h:jO m) (hk:m.kind=11):eH m:=by
 cases h with
 | field h=>have:=nm (ju.2 h); omega
 | route h=>have:=pN (jy.2 h); omega
 | upd h=>exact h
 | opq h=>have:=h.kind; omega
theorem fg1 {c:bS} {m:bD} {n:Nat} {i h:Bs} (hc:bA c) (hu:eH m) (hm:m.aj≠65535) (hn:n<=(cD m).length)
  (hk:n≠0->dl c m.ae≠[]/\((dl c m.ae).drop (cq m.ae).toNat).take n=(cD m).take n)
  (hi:i=lx m.id\/(i=[]/\m.id=c.id)) (hh:(h=lu m.next/\m.next≠[])\/(h=[]/\m.next=dg c (b9 m.ae))) :
  fV c ((i++h)++jg m n) [m] (fb (ge (eQ c m.id) (b9 m.ae) m.next) m.ae m.ah):=by
 obtain ⟨hf,hop⟩:=hu.fam hm;have hid:=(hu.near hm).2.1;have hc1:=tj hc hid;have s1:fV c i [] (eQ c m.id):=by
  rcases hi with rfl | ⟨rfl,e⟩
  ·exact fV9 hid
  ·rw [uZ e]; exact Dc c
 have hc2:bA (ge (eQ c m.id) (b9 m.ae) m.next)/\fV (eQ c m.id) h [] (ge (eQ c m.id) (b9 m.ae) m.next):=by
  rcases hh with ⟨rfl,e⟩ | ⟨rfl,e⟩
  ·exact ⟨EB hc1 (hop e),Yq (hop e)⟩
  ·have e':m.next=dg (eQ c m.id) (b9 m.ae):=e;rw [rR hf e']; exact ⟨hc1,Dc _⟩
 have s3:fV (ge (eQ c m.id) (b9 m.ae) m.next) (jg m n) [m] _:=ON hc2.1 hu hn hk (fun _=>⟨rfl,fr6 hf⟩);have:=Iy (Iy s1 hc2.2) s3;exact this
theorem fB2 {c:bS} {m:bD} (hc:bA c) (h:jO m) (he:(ea c m).2.2=0):fV c (ea c m).1 [m] (ea c m).2.1:=by
 unfold ea at he |-;rw [lq.2 h] at he |-;rw [ac (show ¬(true=false) by simp)] at he |-;by_cases hk:m.kind≠11
 ·rw [ab hk]; exact fr5 h hk
 rw [ac hk] at he |-;have hu:=h.upd_of (by simpa using hk);by_cases hx:m.aj≠65535/\m.next=[]/\dg c (b9 m.ae)≠[]
 ·rw [ab hx] at he; exact absurd he (show ¬((9:Int)=0) by decide)
 rw [ac hx];have hle:=CK c m;have hok:=fM2 c m;unfold p6 pG;by_cases hm:m.aj=65535
 ·rw [ab hm,ab hm,List.nil_append];exact ON hc hu hle hok (fun q=>absurd hm q)
 ·rw [ac hm,ac hm];refine fg1 hc hu hm hle hok ?_ ?_
  ·by_cases hi:m.id=c.id
   ·rw [ab hi]; exact .inr ⟨rfl,hi⟩
   ·rw [ac hi]; exact .inl rfl
  ·by_cases hnx:m.next=dg c (b9 m.ae)
   ·rw [ab hnx]; exact .inr ⟨rfl,hnx⟩
   ·rw [ac hnx];refine .inl ⟨rfl,fun e=>?_⟩;exact hx ⟨hm,e,fun q=>hnx (by rw [e,q])⟩
theorem BW {c:bS} {m:bD} (hc:bA c) (h:jO m):bA (ea c m).2.1:=by
 unfold ea;split
 ·exact hc
 split
 ·exact hc
 split
 ·exact hc
 rename_i hk hx;have hu:=h.upd_of (by simpa using hk);have hk2:bA (pG c m):=by
  unfold pG;split
  ·exact hc
  ·rename_i hm;obtain ⟨hf,hop⟩:=hu.fam hm;have hc1:=tj (i:=m.id) hc (hu.near hm).2.1;by_cases hne:m.next=[]
   ·have e:m.next=dg (eQ c m.id) (b9 m.ae):=by
     rw [hne];show []=dg c (b9 m.ae);cases hq:dg c (b9 m.ae) with
     | nil=>rfl
     | cons a b=>exact absurd ⟨hm,hne,by rw [hq]; simp⟩ hx
    rw [rR hf e]; exact hc1
   ·exact EB hc1 (hop hne)
 obtain ⟨a,b,c',d,e⟩:=tL.1 hu.inn;obtain ⟨h0,h1,h2,h3,h4,h5,h6⟩:=hk2;show bA (fb (pG c m) m.ae m.ah);unfold fb;split
 ·exact ⟨h0,h1,h2,h3,h4,h5,h6⟩
 ·refine ⟨h0,?_,?_,?_,h4,h5,h6⟩
  ·dsimp only;split
   ·rename_i q; rw [q] at b; right; have:cA 1=4:=rfl; omega
   ·exact h1
  ·dsimp only;split
   ·rename_i q; rw [q] at b; right; have:cA 2=16:=rfl; omega
   ·exact h2
  ·dsimp only;split
   ·rename_i q; exact .inr (e q)
   ·exact h3
end Go.VP
namespace Go.VP
open Go Go.VI
def jZ:bS->List bD->Option (Bs × bS)
 | c,[]=>some ([],c)
 | c,m::r=>if (ea c m).2.2≠0 then none else (jZ (ea c m).2.1 r).map fun x=>((ea c m).1++x.1,x.2)
def jj:bS->List bD->Nat->Bs->Bs × Int × Int
 | _,[],_,b=>((gL b).1,0,0)
 | c,m::r,i,b=>if (ea c m).2.2≠0 then ([],i,(ea c m).2.2) else if 65531 < ((b++(ea c m).1).length:Int) then ([],i,10) else jj (ea c m).2.1 r (i+1) (b++(ea c m).1)
def lN:List bD->Nat->Option Nat
 | [],_=>none
 | m::r,i=>if gb m=false then some i else lN r (i+1)
def pH (l:List bD):Bs × Int × Int:=match lN l 0 with
 | some i=>([],i,1)
 | none=>jj c0 l 0 []
theorem L7:∀ {l:List bD} {i:Nat},lN l i=none↔∀ m∈l,gb m=true
 | [],i=>by simp [lN]
 | m::r,i=>by
  rw [lN];by_cases h:gb m=false
  ·rw [ab h]; simp [h]
  ·rw [ac h,L7 (l:=r)];simp at h; simp [h]
theorem Xm:∀ {l:List bD} {c d:bS} {s:Bs},bA c->(∀ m∈l,jO m)->jZ c l=some (s,d)->fV c s l d/\bA d
 | [],c,d,s,hc,hl,h=>by rw [jZ] at h; cases h; exact ⟨Dc c,hc⟩
 | m::r,c,d,s,hc,hl,h=>by
  rw [jZ] at h;split at h
  ·cases h
  ·rename_i he;have he:(ea c m).2.2=0:=by simpa using he
   cases ho:jZ (ea c m).2.1 r with
   | none=>rw [ho] at h; cases h
   | some x=>
    rw [ho] at h;cases h;have hR:=hl m (List.mem_cons_self ..);obtain ⟨h1,h2⟩:=Xm (BW hc hR) (fun x hx=>hl x (List.mem_cons_of_mem _ hx)) ho;exact ⟨Iy (fB2 hc hR he) h1,h2⟩
theorem RA:∀ {l:List bD} {c d:bS} {s b:Bs} {i:Nat},jZ c l=some (s,d)->((b++s).length:Int)<=65531->jj c l i b=((gL (b++s)).1,0,0)
 | [],c,d,s,b,i,h,hl=>by rw [jZ] at h; cases h; rw [jj,List.append_nil]
 | m::r,c,d,s,b,i,h,hl=>by
  rw [jZ] at h;split at h
  ·cases h
  ·rename_i he;cases ho:jZ (ea c m).2.1 r with
   | none=>rw [ho] at h; cases h
   | some x=>
    rw [ho] at h;cases h;rw [<- List.append_assoc] at hl |-;have hl2:(((b++(ea c m).1)++x.1).length:Int)<=65531:=hl;rw [jj,ac he,ac (by simp only [List.length_append] at hl2 |-; omega)];exact RA ho hl2
theorem Xp:∀ {l:List bD} {c:bS} {b:Bs} {i:Nat},(jj c l i b).2.2=0->(b.length:Int)<=65531->∃ s d,jZ c l=some (s,d)/\((b++s).length:Int)<=65531
 | [],c,b,i,h,hb=>⟨[],c,rfl,by simpa using hb⟩
 | m::r,c,b,i,h,hb=>by
  rw [jj] at h;split at h
  ·rename_i he; exact absurd h he
  rename_i he;split at h
  ·exact absurd h (show ¬((10:Int)=0) by decide)
  rename_i hl;obtain ⟨s,d,h1,h2⟩:=Xp h (by omega);exact ⟨(ea c m).1++s,d,by rw [jZ,ac he,h1]; rfl,by rw [<- List.append_assoc]; exact h2⟩
theorem YX {l:List bD} {s:Bs} {d:bS} (h:fV c0 s l d) (hs:(s.length:Int)<=65531):gH (gL s).1=(l,0,0):=by
 obtain ⟨w1,w2,w3,w4⟩:=PS (s:=s) (t:=[]) (by omega) (by simp; omega);rw [List.append_nil] at w1 w2;obtain ⟨tl,h1,h2,h3⟩:=h 4;have hf:=h3 [];unfold gH;rw [w1,w2,ac (by simp)];dsimp only;rw [h1,iY];dsimp only;rw [hf]; rfl
theorem fW0 {l:List bD} (h:(pH l).2.2=0):(∀ m∈l,gb m=true)/\∃ s d,jZ c0 l=some (s,d)/\(s.length:Int)<=65531/\pH l=((gL s).1,0,0)/\fV c0 s l d/\(pH l).1.length=4+s.length:=by
 unfold pH at h |-;cases hb:lN l 0 with
 | some i=>rw [hb] at h; exact absurd h (show ¬((1:Int)=0) by decide)
 | none=>
  rw [hb] at h;dsimp only at h |-;have hl:=L7.1 hb;obtain ⟨s,d,h1,h2⟩:=Xp h (by simp);have h2':(s.length:Int)<=65531:=by simpa using h2
  have h3:=RA (i:=0) (b:=[]) h1 (by simpa using h2');rw [List.nil_append] at h3;refine ⟨hl,s,d,h1,h2',h3,(Xm nU (fun m hm=>lq.1 (hl m hm)) h1).1,?_⟩;rw [h3];exact (PS (s:=s) (t:=[]) (by omega) (by simp; omega)).2.2.1
end Go.VP
namespace Go.VP
open Go Go.VI
theorem SX (c:bS) (m:bD):(ea c m).1.length<=800:=by
 have h1:=FW m.id; have h2:=JC m.next; have h3:(jg m (dB c m)).length<=257:=mS _ _;have h4:(mn m).length<=257:=by
  unfold mn iL iJ;split
  ·split
   ·exact mS _ _
   ·simp
  split
  ·exact mS _ _
  split
  ·exact mS _ _
  ·simp
 have h5:(p6 c m).length<=514:=by
  unfold p6;split
  ·simp
  ·have a1:(if m.id=c.id then [] else lx m.id).length<=257:=by
    split
    ·simp
    ·exact h1
   have a2:(if m.next=dg c (b9 m.ae) then [] else lu m.next).length<=257:=by
    split
    ·simp
    ·exact h2
   rw [List.length_append]; omega
 unfold ea;split
 ·simp
 split
 ·dsimp only; omega
 split
 ·simp
 ·dsimp only; rw [List.length_append]; omega
theorem fr7 {l:List bD} {n:Nat} (hl:l.length<=100000) (hg:∀ m∈l,fr m) (hb:∀ m∈l,gb m=true):∀ (d k i:Nat) (c:bS) (b:Bs),i+d=l.length->d < k->bA c->b.length<=65531->
  yQ n k l b c.au c.ak c.am c.aq c.ax c.ay c.id i=some (bY (jj c (l.drop i) i b),()):=by
 intro d
 induction d with
 | zero=>
  intro k i c b hd hk hc hbl;obtain ⟨k,rfl⟩:∃ q,k=q+1:=⟨k - 1,by omega⟩;rw [JR,bN (by omega),fV2 (by omega),List.drop_eq_nil_of_le (by omega)]; rfl
 | succ d ih=>
  intro k i c b hd hk hc hbl;obtain ⟨k,rfl⟩:∃ q,k=q+1:=⟨k - 1,by omega⟩;have hi:i < l.length:=by omega
  have hp:0<=(i:Int):=by omega
  have hm:=hb _ (List.getElem_mem hi);have hgm:=hg _ (List.getElem_mem hi);have ih':=fun c b=>ih k (i+1) c b (by omega) (by omega)
  rw [show ((i+1:Nat):Int)=(i:Int)+1 by omega] at ih';rw [JR,bP (by omega),ab hp,Int.toNat_natCast,ck hi,List.drop_eq_getElem_cons hi,jj];generalize l[i]=m at *;have hlen:=SX c m;rw [show (bQ.mk c.au c.ak c.am c.aq c.ax c.ay c.id)=c from rfl,fA7 hc hgm,aa];dsimp only;refine bZ (fun he=>by rw [ab he]) (fun he=>?_);rw [ac (show ¬(ea c m).2.2≠0 from fun q=>q he),ab (d7 (by omega))];refine eV (fun q=>by rw [ab q]) (fun q=>?_);rw [ac q,bL (by omega) (by omega)];exact ih' _ _ (BW hc (lq.1 hm)) (by omega)
theorem fr8 {l:List bD} {n:Nat} (hn:1000000<=n) (hl:l.length<=100000) (hg:∀ m∈l,fr m):∀ (d k i:Nat),i+d=l.length->d < k->(∀ m∈l.take i,gb m=true)->
  BN n k l i=some (bY (match lN (l.drop i) i with | some j=>([],(j:Int),1) | none=>jj c0 l 0 []),()):=by
 intro d
 induction d with
 | zero=>
  intro k i hd hk hq;obtain ⟨k,rfl⟩:∃ q,k=q+1:=⟨k - 1,by omega⟩;rw [List.take_of_length_le (by omega)] at hq;have:=fr7 (n:=n) hl hg hq l.length n 0 c0 [] (by omega) (by omega) nU (by simp);rw [MZ,bN (by omega),List.drop_eq_nil_of_le (by omega)];exact this
 | succ d ih=>
  intro k i hd hk hq;obtain ⟨k,rfl⟩:∃ q,k=q+1:=⟨k - 1,by omega⟩;have hi:i < l.length:=by omega
  have hp:0<=(i:Int):=by omega
  have ih':=ih k (i+1) (by omega) (by omega);rw [show ((i+1:Nat):Int)=(i:Int)+1 by omega] at ih';have hgm:=hg _ (List.getElem_mem hi);rw [MZ,bP (by omega),ab hp,Int.toNat_natCast,ck hi,IQ hgm,aa,List.drop_eq_getElem_cons hi,lN];dsimp only;cases hm:gb l[i] with
  | false=>rw [cK,ab rfl]
  | true=>
   rw [b7,ac (show ¬(true=false) by simp),bL (by omega) (by omega)];refine ih' (fun x hx=>?_);rw [List.take_succ_eq_append_getElem hi,List.mem_append,List.mem_singleton] at hx;rcases hx with hx | rfl
   ·exact hq x hx
   ·exact hm
theorem fW1 {l:List bD} (hl:l.length<=100000) (hg:∀ m∈l,fr m):It (l,())=some (bY (pH l),()):=by
 show Er fuel (l,())=_;rw [dG7];exact fr8 (n:=fuel) (Nat.le_of_lt (cn (by omega))) hl hg l.length fuel 0 (by omega) (cn (by omega)) (fun m hm=>by simp at hm)
theorem fg2 {l:List bD} {n:Nat} (hl:l.length<=100000) (hg:∀ m∈l,fr m) (hb:∀ m∈l,gb m=true):∀ (d k i:Nat) (c:bS) (b:Bs),i+d=l.length->d < k->bA c->b.length<=65531->
  BS n k l b c.au c.ak c.am c.aq c.ax c.ay c.id i=some (bY (jj c (l.drop i) i b),()):=by
 intro d
 induction d with
 | zero=>
  intro k i c b hd hk hc hbl;obtain ⟨k,rfl⟩:∃ q,k=q+1:=⟨k - 1,by omega⟩;rw [Wc,bN (by omega),fL3 (by omega),List.drop_eq_nil_of_le (by omega)]; rfl
 | succ d ih=>
  intro k i c b hd hk hc hbl;obtain ⟨k,rfl⟩:∃ q,k=q+1:=⟨k - 1,by omega⟩;have hi:i < l.length:=by omega
  have hp:0<=(i:Int):=by omega
  have hm:=hb _ (List.getElem_mem hi);have hgm:=hg _ (List.getElem_mem hi);have ih':=fun c b=>ih k (i+1) c b (by omega) (by omega)
  rw [show ((i+1:Nat):Int)=(i:Int)+1 by omega] at ih';rw [Wc,bP (by omega),ab hp,Int.toNat_natCast,ck hi,List.drop_eq_getElem_cons hi,jj];generalize l[i]=m at *;have hlen:=SX c m;rw [show (bQ.mk c.au c.ak c.am c.aq c.ax c.ay c.id)=c from rfl,fB1 hc hgm,aa];dsimp only;refine bZ (fun he=>by rw [ab he]) (fun he=>?_);rw [ac (show ¬(ea c m).2.2≠0 from fun q=>q he),ab (bW (by omega))];refine eV (fun q=>by rw [ab q]) (fun q=>?_);rw [ac q,bL (by omega) (by omega)];exact ih' _ _ (BW hc (lq.1 hm)) (by omega)
theorem fg3 {l:List bD} {n:Nat} (hn:1000000<=n) (hl:l.length<=100000) (hg:∀ m∈l,fr m):∀ (d k i:Nat),i+d=l.length->d < k->(∀ m∈l.take i,gb m=true)->
  zt n k l i=some (bY (match lN (l.drop i) i with | some j=>([],(j:Int),1) | none=>jj c0 l 0 []),()):=by
 intro d
 induction d with
 | zero=>
  intro k i hd hk hq;obtain ⟨k,rfl⟩:∃ q,k=q+1:=⟨k - 1,by omega⟩;rw [List.take_of_length_le (by omega)] at hq;have:=fg2 (n:=n) hl hg hq l.length n 0 c0 [] (by omega) (by omega) nU (by simp);rw [Kr,bN (by omega),List.drop_eq_nil_of_le (by omega)];exact this
 | succ d ih=>
  intro k i hd hk hq;obtain ⟨k,rfl⟩:∃ q,k=q+1:=⟨k - 1,by omega⟩;have hi:i < l.length:=by omega
  have hp:0<=(i:Int):=by omega
  have ih':=ih k (i+1) (by omega) (by omega);rw [show ((i+1:Nat):Int)=(i:Int)+1 by omega] at ih';have hgm:=hg _ (List.getElem_mem hi);rw [Kr,bP (by omega),ab hp,Int.toNat_natCast,ck hi,EE hgm,aa,List.drop_eq_getElem_cons hi,lN];dsimp only;cases hm:gb l[i] with
  | false=>rw [cK,ab rfl]
  | true=>
   rw [b7,ac (show ¬(true=false) by simp),bL (by omega) (by omega)];refine ih' (fun x hx=>?_);rw [List.take_succ_eq_append_getElem hi,List.mem_append,List.mem_singleton] at hx;rcases hx with hx | rfl
   ·exact hq x hx
   ·exact hm
theorem fM3 {l:List bD} (hl:l.length<=100000) (hg:∀ m∈l,fr m):GH (l,())=some (bY (pH l),()):=by
 show Jt fuel (l,())=_;rw [dO6];exact fg3 (n:=fuel) (Nat.le_of_lt (cn (by omega))) hl hg l.length fuel 0 (by omega) (cn (by omega)) (fun m hm=>by simp at hm)
end Go.VP
namespace Go.VP
open Go Go.VI
def kB (s:Bs):Bool:=s.all (·==0)
theorem fB5 {n:Nat} {s:Bs} (hs:s.length<=1000000000):∀ (d m i:Nat),i+d=s.length->d < m->yG n m s i=some (((s.drop i).all (·==0),()),()):=by
 intro d
 induction d with
 | zero=>
  intro m i hd hm;obtain ⟨m,rfl⟩:∃ k,m=k+1:=⟨m - 1,by omega⟩;rw [QO,bN (by omega),List.drop_eq_nil_of_le (by omega)]; rfl
 | succ d ih=>
  intro m i hd hm;obtain ⟨m,rfl⟩:∃ k,m=k+1:=⟨m - 1,by omega⟩;have ha:i < s.length:=by omega
  have:=ih m (i+1) (by omega) (by omega);rw [show ((i+1:Nat):Int)=(i:Int)+1 by omega] at this;rw [QO,bP (by omega),ab (by omega),Int.toNat_natCast,ck ha,bL (by omega) (by omega),this,List.drop_eq_getElem_cons ha,List.all_cons];refine bZ (fun h=>?_) (fun h=>?_)
  ·have:(s[i]==0)=false:=by
    rw [beq_eq_false_iff_ne]; intro e; rw [e] at h; exact h rfl
   rw [this]; rfl
  ·have:s[i]=0:=kq h;rw [this]; simp
theorem ra {s:Bs} (hs:s.length<=1000000000):eK (s,())=some ((kB s,()),()):=by
 show D4 fuel (s,())=_;rw [em6];exact fB5 hs s.length fuel 0 (by omega) (cn (by omega))
abbrev z4:Bs:=[0,0,0,0]
theorem xa {s:Bs} (h:s.length=4):kB s=true↔s=z4:=by
 match s,h with
 | [a,b,c,d],_=>simp [kB]
theorem Ld {s t:Bs} (h:s.length=4) (h':t.length=4):kB (s++t)=true↔s=z4/\t=z4:=by
 rw [<- xa h,<- xa h']; simp [kB,List.all_append]
theorem zS:jz ()=some ((z4,()),()):=dN8
def ik (s:Bs):de:=⟨b5 (bH s 0 2),b5 (bH s 2 2),bH s 4 4,bH s 8 4,bH s 12 4,b5 (bH s 16 4)⟩
theorem Hv {s:Bs} {p q n:Int} (w:dQ s p q) (h:1<=n) (h7:n<=7) (h2:p+n<=q):rW (⟨s,p,q,false⟩,n,())=some ((b5 (bH s p n),()),(⟨s,p+n,q,false⟩,())):=by
 rw [d56];have:=gG w h h7 h2;unfold cu at this;dsimp only;rw [this]; rfl
theorem Ej {s:Bs} {p q:Int} (w:dQ s p q) (h2:p+4<=q):qV (⟨s,p,q,false⟩,())=some ((bH s p 4,()),(⟨s,p+4,q,false⟩,())):=by
 rw [cU0];have:=iV (n:=4) w (by omega) h2;unfold cu at this;dsimp only;rw [this]; rfl
theorem fB6 {s:Bs} (h:s.length=20):vY (s,())=some ((ik s,true,()),()):=by
 have w:=dQ.whole (s:=s) (by omega);rw [ev6,ac (by simp [h]),mf,aa];dsimp only [cu];rw [Hv w (by omega) (by omega) (by omega),aa];dsimp only;rw [Hv (w.fwd (by omega) (by omega)) (by omega) (by omega) (by omega),aa];dsimp only;rw [Ej ((w.fwd (n:=2) (by omega) (by omega)).fwd (by omega) (by omega)) (by omega),aa];dsimp only;rw [Ej (((w.fwd (n:=2) (by omega) (by omega)).fwd (n:=2) (by omega) (by omega)).fwd (by omega) (by omega)) (by omega),aa];dsimp only;rw [Ej ((((w.fwd (n:=2) (by omega) (by omega)).fwd (n:=2) (by omega) (by omega)).fwd (n:=4) (by omega) (by omega)).fwd (by omega) (by omega)) (by omega),aa];dsimp only;rw [Hv (((((w.fwd (n:=2) (by omega) (by omega)).fwd (n:=2) (by omega) (by omega)).fwd (n:=4) (by omega) (by omega)).fwd (n:=4) (by omega) (by omega)).fwd (by omega) (by omega)) (by omega) (by omega) (by omega),aa]
 rfl
theorem fr9 {s:Bs} (h:s.length=20):AL (s,())=some ((ik s,true,()),()):=by
 rw [ex9,ac (by simp [h]),ab (by omega),lj (by simp; omega),aa,ab (by omega),lj (by simp; omega),aa,ab (by omega),ab (by omega),ab (by omega),ab (by omega),lj (by simp; omega),aa];have e:s.drop 16=bH s 16 4:=by unfold bH; rw [List.take_of_length_le (by simp; omega)]; rfl
 have e2:s.take 2=bH s 0 2:=by unfold bH; simp
 rw [e,e2]; rfl
def eD (n:Int):Bs:=cT [255,255,255,255] n
theorem fB7:∀ k:Fin 33,([(bF (IntKind.wrap .u8 (cb .u32 (cY .u32 4294967295 (IntKind.wrap .u64 (IntKind.wrap .i64 (32 - (k.val:Int))))) 24))),(bF (IntKind.wrap .u8 (cb .u32 (cY .u32 4294967295 (IntKind.wrap .u64 (IntKind.wrap .i64 (32 - (k.val:Int))))) 16))),(bF (IntKind.wrap .u8 (cb .u32 (cY .u32 4294967295 (IntKind.wrap .u64 (IntKind.wrap .i64 (32 - (k.val:Int))))) 8))),(bF (IntKind.wrap .u8 (cY .u32 4294967295 (IntKind.wrap .u64 (IntKind.wrap .i64 (32 - (k.val:Int)))))))]:Bs)=eD k.val:=by decide +kernel
theorem Yf (n:Int):(eD n).length=4:=by unfold eD; rw [km]; rfl
theorem Tm {n:Int} (h:0<=n) (h':n<=32):∃ k:Fin 33,n=(k.val:Int):=⟨⟨n.toNat,by omega⟩,by simp; omega⟩
theorem GC {n:Int} (h:0<=n) (h':n<=32):si (n,())=some ((eD n,true,()),()):=by
 obtain ⟨k,rfl⟩:=Tm h h';rw [Wm,bN (by omega),bN (by omega),ab (by rw [bL (by omega) (by omega),uU (by omega) (by omega)]; omega),fB7 k]
theorem Ze {n:Int} (h:n < 0\/32 < n):si (n,())=some (([],false,()),()):=by
 rw [Wm];by_cases h0:n < 0
 ·rw [bP h0]
 ·rw [bN h0,bP (by omega)]
theorem Vr {n:Int} (h:0<=n) (h':n<=32):tM (n,())=some ((eD n,true,()),()):=by
 rw [eQ9,bN (by omega),bN (by omega),p7 (by simp),aa]; rfl
def lA (s:Bs):Nat->Nat->Int × Bool
 | 0,_=>(0,false)
 | d+1,k=>if eD k=s then ((k:Int),true) else lA s d (k+1)
def dW (s:Bs):Int × Bool:=lA s 33 0
theorem fs1 {n:Nat} {s:Bs}:∀ (d m k:Nat),k+d=33->d < m->zx n m s k=some (((lA s d k).1,(lA s d k).2,()),()):=by
 intro d
 induction d with
 | zero=>
  intro m k hk hm;obtain ⟨m,rfl⟩:∃ k,m=k+1:=⟨m - 1,by omega⟩;rw [VY,bN (by omega)]; rfl
 | succ d ih=>
  intro m k hk hm;obtain ⟨m,rfl⟩:∃ k,m=k+1:=⟨m - 1,by omega⟩;have:=ih m (k+1) (by omega) (by omega);rw [show ((k+1:Nat):Int)=(k:Int)+1 by omega] at this;rw [VY,bP (by omega),Vr (by omega) (by omega),aa,bL (by omega) (by omega),this,lA];by_cases h:eD k=s
  ·rw [ab (by simp [h]),ab h]
  ·rw [ac (by simpa using h),ac h]
theorem fM4 {s:Bs}:En (s,())=some (((dW s).1,(dW s).2,()),()):=by
 show FD fuel (s,())=_;rw [Yr];exact fs1 33 fuel 0 (by omega) (cn (by omega))
theorem Wg (s:Bs):∀ (d k:Nat),(∃ j:Nat,k<=j/\j < k+d/\lA s d k=((j:Int),true)/\eD j=s)\/(lA s d k=(0,false)/\∀ j:Nat,k<=j->j < k+d->eD j≠s)
 | 0,k=>.inr ⟨rfl,fun j h1 h2=>by omega⟩
 | d+1,k=>by
  by_cases h:eD k=s
  ·exact .inl ⟨k,by omega,by omega,by rw [lA,ab h],h⟩
  ·rcases Wg s d (k+1) with ⟨j,h1,h2,h3,h4⟩ | ⟨h3,h4⟩
   ·exact .inl ⟨j,by omega,by omega,by rw [lA,ac h,h3],h4⟩
   ·refine .inr ⟨by rw [lA,ac h,h3],fun j h1 h2=>?_⟩;by_cases e:j=k
    ·rw [e]; exact h
    ·exact h4 j (by omega) (by omega)
theorem Fk (s:Bs):(∃ k:Fin 33,dW s=((k.val:Int),true)/\eD k.val=s)\/(dW s=(0,false)/\∀ j:Nat,j < 33->eD j≠s):=by
 rcases Wg s 33 0 with ⟨j,_,h2,h3,h4⟩ | ⟨h3,h4⟩
 ·exact .inl ⟨⟨j,by omega⟩,h3,h4⟩
 ·exact .inr ⟨h3,fun j h=>h4 j (by omega) (by omega)⟩
theorem fB8:∀ k:Fin 33,dW (eD k.val)=((k.val:Int),true):=by decide +kernel
theorem fB9:∀ j:Fin 33,tC (2 ^ j.val - 1,())=some (((j.val:Int),()),()):=by
 intro j;rw [SO]
 revert j
 decide +kernel
theorem WE (x:Int):0<=IntKind.wrap .u8 x/\(IntKind.wrap .u8 x).toNat < 256:=by rw [f8]; omega
theorem fC0 (x:Int):∃ r,tC (x,())=some ((r,()),()):=by
 rw [SO];split <;> split <;>
 ·rw [ab (WE _).1,List.getElem?_eq_getElem (WE _).2,aa];exact ⟨_,rfl⟩
theorem XN:∀ k:Fin 33,cB .xor .u32 (4294967295) (cB .or .u32 (cB .or .u32 (cB .or .u32 (cY .u32 (IntKind.wrap .u32 ((((eD k.val)[0]?.getD 0).toNat:Nat):Int)) 24) (cY .u32 (IntKind.wrap .u32 ((((eD k.val)[1]?.getD 0).toNat:Nat):Int)) 16)) (cY .u32 (IntKind.wrap .u32 ((((eD k.val)[2]?.getD 0).toNat:Nat):Int)) 8)) (IntKind.wrap .u32 ((((eD k.val)[3]?.getD 0).toNat:Nat):Int)))=2 ^ (32 - k.val) - 1:=by decide +kernel
theorem Z7 {s:Bs} (h:s.length=4):BK (s,())=some (((dW s).1,(dW s).2,()),()):=by
 rw [ev7,ac (by simp [h]),cN (i:=0) (by omega),aa,cN (i:=1) (by omega),aa,cN (i:=2) (by omega),aa,cN (i:=3) (by omega),aa];rcases Fk s with ⟨k,e,rfl⟩ | ⟨e,hn⟩
 ·rw [XN k,SJ];have:=fB9 ⟨32 - k.val,by omega⟩;dsimp only at this;rw [this,aa,aa];dsimp only;have hk:=k.isLt;rw [bL (by omega) (by omega),show (32:Int) - ((32 - k.val:Nat):Int)=k.val by omega,GC (by omega) (by omega),aa];dsimp only;rw [ac (by simp),e]
 ·rw [SJ];obtain ⟨r,hr⟩:=fC0 (cB .xor .u32 (4294967295) (cB .or .u32 (cB .or .u32 (cB .or .u32 (cY .u32 (IntKind.wrap .u32 (((s[0]?.getD 0).toNat:Nat):Int)) 24) (cY .u32 (IntKind.wrap .u32 (((s[1]?.getD 0).toNat:Nat):Int)) 16)) (cY .u32 (IntKind.wrap .u32 (((s[2]?.getD 0).toNat:Nat):Int)) 8)) (IntKind.wrap .u32 (((s[3]?.getD 0).toNat:Nat):Int))));rw [hr,aa,aa];dsimp only;generalize IntKind.wrap .i64 (32 - r)=x;by_cases hx:x < 0\/32 < x
  ·rw [Ze hx,aa];dsimp only;rw [ab (by cases s with | nil=>simp at h | cons=>rfl),e]
  ·rw [GC (by omega) (by omega),aa];dsimp only;have:eD x≠s:=by
    have:=hn x.toNat (by omega)
    rwa [show ((x.toNat:Nat):Int)=x by omega] at this
   rw [ab (by simpa using this),e]
theorem GK {s:Bs} (h:(dW s).2=true):0<=(dW s).1/\(dW s).1<=32/\eD (dW s).1=s:=by
 rcases Fk s with ⟨k,e,hk⟩ | ⟨e,_⟩
 ·rw [e]; have:=k.isLt; exact ⟨by simp,by simp; omega,hk⟩
 ·rw [e] at h; cases h
theorem QJ {n:Int} (h:0<=n) (h':n<=32):dW (eD n)=(n,true):=by
 obtain ⟨k,rfl⟩:=Tm h h';exact fB8 k
end Go.VP
namespace Go.VP
open Go Go.VI
def cG (m:bD):Prop:=m.kind=1/\cM m=true/\(m.cmd=1\/m.cmd=2)/\(m.ver=1\/m.ver=2)/\m.ah.length=4/\m.next.length=4/\(m.aC=[]\/(m.ver=2/\m.aC.length=18))/\
 ((m.family=0/\m.cmd=1/\m.tag=0/\m.af=0/\m.ah=z4/\m.next=z4/\m.aj=16)\/
  (m.family=2/\1<=m.aj/\m.aj<=16/\
   ((m.ver=1/\m.tag=0/\m.af=32/\m.next=z4)\/(m.ver=2/\0<=m.tag/\m.tag<=65535/\0<=m.af/\m.af<=32/\fN m.ah m.af=true))))
open Classical in
def fw (m:bD):Bool:=decide (cG m)
theorem jn {m:bD}:fw m=true↔cG m:=by unfold fw; simp
structure RM (m:bD):Prop where
 tag:IntKind.has .i64 m.tag
 af:IntKind.has .i64 m.af
 list:m.list.length<=1000000000
 subs:m.subs.length<=1000000000
theorem cF {R:Type} {p:Prop} [Decidable p] {t f r:R} (h:p->t=r) (h':¬p->f=r):(if decide p=true then t else f)=r:=by
 by_cases hp:p
 ·rw [bP hp]; exact h hp
 ·rw [bN hp]; exact h' hp
theorem jU {R:Type} {b:Bool} {t f r:R} (h:b=false->t=r) (h':b=true->f=r):(if !b then t else f)=r:=by
 cases b
 ·exact h rfl
 ·exact h' rfl
theorem Qw {R:Type} {x y:Bs} {f t r:R} (heq:x=y->t=r) (hne:x≠y->f=r):(if x==y then t else f)=r:=by
 by_cases h:x=y
 ·rw [ab (by simp [h])]; exact heq h
 ·rw [ac (by simpa using h)]; exact hne h
theorem zc {R:Type} {x a b:Int} {F V r:R} (h1:¬(x=a\/x=b)->F=r) (h2:(x=a\/x=b)->V=r):(if x != a then (if x != b then F else V) else V)=r:=
 bZ (fun ha=>bZ (fun hb=>h1 (by omega)) (fun hb=>h2 (.inr hb))) (fun ha=>h2 (.inl ha))
theorem fW3 {R:Type} {s:Bs} {v:Int} {F T r:R} (h1:¬(s=[]\/(v≠1/\s.length=18))->F=r) (h2:(s=[]\/(v≠1/\s.length=18))->T=r):(if !(s==([]:Bs)) then (if v==1 then F else (if (s.length:Int) != 18 then F else T)) else T)=r:=
 q8 (fun ha=>bR (fun hb=>h1 (by grind)) (fun hb=>bZ (fun hc=>h1 (by grind)) (fun hc=>h2 (by grind)))) (fun ha=>h2 (.inl ha))
theorem fM5 {R:Type} {s:Bs} {v:Int} {F T r:R} (h1:¬(s=[]\/(v=2/\s.length=18))->F=r) (h2:(s=[]\/(v=2/\s.length=18))->T=r):(if !(s==([]:Bs)) then (if v != 2 then F else (if (s.length:Int) != 18 then F else T)) else T)=r:=
 q8 (fun ha=>bZ (fun hb=>h1 (by grind)) (fun hb=>bZ (fun hc=>h1 (by grind)) (fun hc=>h2 (by grind)))) (fun ha=>h2 (.inl ha))
theorem Vo {a:Bs} {n:Int} (h:a.length=4) (hn:IntKind.has .i64 n):ic (a,n,())=some ((decide (0<=n/\n<=32) && fN a n,()),()):=by
 rw [Nr,ab (by simp [h]),D2 (by omega) hn,aa];dsimp only;refine cF (fun h0=>?_) (fun h0=>?_)
 ·rw [bL (by omega) (by omega)];refine cF (fun h1=>?_) (fun h1=>?_)
  ·rw [decide_eq_true (by omega)]; rfl
  ·rw [decide_eq_false (by omega)]; rfl
 ·rw [decide_eq_false (by omega)]; rfl
theorem Xa {a:Bs} {n:Int} (h:a.length=4):jI (a,n,())=some ((decide (0<=n/\n<=32) && fN a n,()),()):=by
 rw [RF,ab (by simp [h]),Wa (by omega),aa];dsimp only;refine cF (fun h0=>?_) (fun h0=>?_)
 ·rw [bL (by omega) (by omega)];refine cF (fun h1=>?_) (fun h1=>?_)
  ·rw [decide_eq_true (by omega)]; rfl
  ·rw [decide_eq_false (by omega)]; rfl
 ·rw [decide_eq_false (by omega)]; rfl
theorem FL {m:bD} (g:RM m):rX (m,())=some ((fw m,()),()):=by
 have no:¬cG m->(some ((false,()),()):Option ((Bool × Unit) × Unit))=some ((fw m,()),()):=fun h=>by
  have:fw m=false:=by cases e:fw m with | false=>rfl | true=>exact absurd (jn.1 e) h
  rw [this]
 have yes:∀ {b:Bool},(b=true↔cG m)->(some ((b,()),()):Option ((Bool × Unit) × Unit))=some ((fw m,()),()):=fun {b} h=>by
  have:b=fw m:=by rw [Bool.eq_iff_iff,h,jn]
  rw [this]
 rw [ey5];refine bZ (fun hk=>no fun h=>hk h.1) (fun hk=>?_);rw [mD,aa];refine jU (fun hb=>no fun h=>by have:=h.2.1; dsimp only at hb; rw [hb] at this; cases this) (fun hb=>?_);dsimp only at hb;rw [S7,aa];refine jU (fun hp=>no fun h=>by have:=h.2.2.2.2.1; dsimp only at hp; simp at hp; omega) (fun hp=>?_);have hp4:m.ah.length=4:=by simp at hp; omega
 rw [S7,aa];refine jU (fun hp=>no fun h=>by have:=h.2.2.2.2.2.1; dsimp only at hp; simp at hp; omega) (fun hn=>?_);have hn4:m.next.length=4:=by simp at hn; omega
 refine zc (fun hc=>no fun h=>hc h.2.2.1) (fun hc=>?_);refine zc (fun hv=>no fun h=>hv h.2.2.2.1) (fun hv=>?_);refine fW3 (fun ha=>no fun h=>ha (by have:=h.2.2.2.2.2.2.1; grind)) (fun ha=>?_);have ha':m.aC=[]\/(m.ver=2/\m.aC.length=18):=by grind
 have z8:=Ld hp4 hn4;have zn:=xa hn4;refine bR (fun f0=>?_) (fun f0=>?_)
 ·refine bR (fun c1=>?_) (fun c1=>no (by grind [cG]));refine bR (fun t0=>?_) (fun t0=>no (by grind [cG]));refine bR (fun p0=>?_) (fun t0=>no (by grind [cG]));refine bR (fun m0=>?_) (fun t0=>no (by grind [cG]));rw [ab (bW (by omega)),ra (by simp; omega),aa];exact yes (by rw [z8]; grind [cG])
 ·refine bZ (fun f2=>no (by grind [cG])) (fun f2=>?_);refine cF (fun h1=>no (by grind [cG])) (fun h1=>?_);refine cF (fun h2=>no (by grind [cG])) (fun h2=>?_);refine bR (fun v1=>?_) (fun v1=>?_)
  ·refine bR (fun t0=>?_) (fun t0=>no (by grind [cG]));refine bR (fun p0=>?_) (fun t0=>no (by grind [cG]));rw [ra (by omega),aa];exact yes (by rw [zn]; grind [cG])
  ·have ft:=ip (k:=2) g.tag (by omega) (by omega);rw [show ((2:Nat):Int)=2 from rfl] at ft;rw [ft,aa];dsimp only;have hf:b6 m.tag 2=true↔0<=m.tag/\m.tag<=65535:=by unfold b6; rw [decide_eq_true_eq]; omega
   cases hfb:b6 m.tag 2 with
   | false=>rw [cV]; exact no (fun h=>by
    have:¬(0<=m.tag/\m.tag<=65535):=by rw [<- hf,hfb]; simp
    grind [cG])
   | true=>
    have:=hf.1 hfb;rw [cQ,Vo hp4 g.af,aa];exact yes (by rw [Bool.and_eq_true,decide_eq_true_eq]; grind [cG])
theorem DZ {m:bD} (g:RM m):qX (m,())=some ((fw m,()),()):=by
 have no:¬cG m->(some ((false,()),()):Option ((Bool × Unit) × Unit))=some ((fw m,()),()):=fun h=>by
  have:fw m=false:=by cases e:fw m with | false=>rfl | true=>exact absurd (jn.1 e) h
  rw [this]
 have yes:∀ {b:Bool},(b=true↔cG m)->(some ((b,()),()):Option ((Bool × Unit) × Unit))=some ((fw m,()),()):=fun {b} h=>by
  have:b=fw m:=by rw [Bool.eq_iff_iff,h,jn]
  rw [this]
 rw [e30];refine bZ (fun hk=>no fun h=>hk h.1) (fun hk=>?_);rw [mC g.list g.subs,aa];refine jU (fun hb=>no fun h=>by have:=h.2.1; dsimp only at hb; rw [hb] at this; cases this) (fun hb=>?_);dsimp only at hb;refine cF (fun h1=>no (by grind [cG])) (fun c1=>?_);refine cF (fun h1=>no (by grind [cG])) (fun c2=>?_);refine cF (fun h1=>no (by grind [cG])) (fun v1=>?_);refine cF (fun h1=>no (by grind [cG])) (fun v2=>?_);refine bZ (fun h1=>no (by grind [cG])) (fun hp=>?_);refine bZ (fun h1=>no (by grind [cG])) (fun hn=>?_);have hp4:m.ah.length=4:=by omega
 have hn4:m.next.length=4:=by omega
 have hc:m.cmd=1\/m.cmd=2:=by omega
 have hv:m.ver=1\/m.ver=2:=by omega
 refine fM5 (fun ha=>no fun h=>ha h.2.2.2.2.2.2.1) (fun ha=>?_);rw [zS,aa];refine bR (fun f0=>?_) (fun f0=>?_)
 ·refine bR (fun c1=>?_) (fun c1=>no (by grind [cG]));refine bR (fun t0=>?_) (fun t0=>no (by grind [cG]));refine bR (fun p0=>?_) (fun t0=>no (by grind [cG]));refine Qw (fun e1=>?_) (fun t0=>no (by grind [cG]));rw [aa];refine Qw (fun e1=>?_) (fun t0=>no (by grind [cG]));exact yes (by rw [beq_iff_eq]; grind [cG])
 ·refine bZ (fun f2=>no (by grind [cG])) (fun f2=>?_);refine cF (fun h1=>no (by grind [cG])) (fun h1=>?_);refine cF (fun h2=>no (by grind [cG])) (fun h2=>?_);refine bR (fun v1=>?_) (fun v1=>?_)
  ·refine bR (fun t0=>?_) (fun t0=>no (by grind [cG]));refine bR (fun p0=>?_) (fun t0=>no (by grind [cG]));rw [aa];exact yes (by rw [beq_iff_eq]; grind [cG])
  ·refine cF (fun t0=>?_) (fun t0=>no (by grind [cG]));refine cF (fun t0=>?_) (fun t0=>no (by grind [cG]));rw [Xa hp4,aa];exact yes (by rw [Bool.and_eq_true,decide_eq_true_eq]; grind [cG])
end Go.VP
