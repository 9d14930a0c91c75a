import Derived.Test.YtjdlhgdklmkkhaaGreatSpM0
import Derived.Test.YtjdlhgdklmkkhaaGreatSpFQ0
import Derived.Test.YtjdlhgdklmkkhaaGreatSpFQ1
import Derived.Test.YtjdlhgdklmkkhaaGreatSpFQ10
import Derived.Test.YtjdlhgdklmkkhaaGreatSpFQ9
import Derived.Test.YtjdlhgdklmkkhaaGreatSpFQ13
import Derived.Test.YtjdlhgdklmkkhaaGreatSpFQ14
import Derived.Test.YtjdlhgdklmkkhaaGreatSpFQ5
import Derived.Test.YtjdlhgdklmkkhaaGreatSpFQ7
import Derived.Test.YtjdlhgdklmkkhaaGreatSpFQ6
set_option linter.unusedVariables false
set_option linter.unusedSimpArgs false
set_option maxRecDepth 100000
noncomputable section
namespace Go.VP
open Go Go.VI
theorem Ko:∀ {l:List dc},uf l->i8 (keep l)
 | [],_=>fun y hy=>by simp [keep] at hy
 | t::l,h=>by
  have ih:=Ko (l:=l) (fun z hz=>h z (List.mem_cons_of_mem _ hz));intro y hy;simp only [keep] at hy;split at hy
  ·rcases List.mem_cons.1 hy with rfl | hy
   ·have:=h t (List.mem_cons_self ..); dsimp only; omega
   ·exact ih y hy
  ·exact ih y hy
theorem Q6 (s:Bs):∀ (p:Int) (l:List dc),cP p s=.ok l->dm (keep l)<=s.length:=by
 match s with
 | []=>intro p l h; rw [iY] at h; injection h with h; subst h; simp [keep,dm]
 | t::r=>
  intro p l h;have go:∀ (q:Int) (x:dc) (r':Bs),r'.length < (t::r).length->(x.aA=0\/r'.length+2+x.data.length<=(t::r).length)->(cP q r').map (x::·)=.ok l->dm (keep l)<=((t::r).length:Nat):=by
   intro q x r' hr hx h;cases hm:cP q r' with
   | error e=>rw [hm] at h; cases h
   | ok l'=>
    rw [hm] at h;injection h with h
    subst h;have:=Q6 r' q l' hm;simp only [keep];split
    ·simp only [dm]; omega
    ·omega
  by_cases ht:t=0
  ·subst ht;rw [nu] at h;exact go _ _ _ (by simp) (.inl rfl) h
  ·match r with
   | []=>rw [ot ht] at h; cases h
   | n::d=>
    by_cases hn:d.length < n.toNat
    ·rw [pd ht hn] at h; cases h
    ·rw [lT ht (by omega)] at h;exact go _ _ _ (by simp; omega) (.inr (by simp; omega)) h
termination_by s.length
theorem Js (s:Bs):(∃ l,dR s=(l,true,0)/\i8 l/\dm l<=200/\dm l<=s.length/\l.length<=s.length)\/(∃ l,dR s=(l,false,0))\/(∃ e,dR s=([],false,e)/\e≠0):=by
 unfold dR;cases h:cP 0 s with
 | error e=>exact .inr (.inr ⟨2,rfl,by decide⟩)
 | ok l=>
  obtain ⟨h1,h2⟩:=qo s 0 l h;have h3:=Q6 s 0 l h;have h4:=Kh l;dsimp only;unfold jN;split
  ·exact .inr (.inr ⟨10,rfl,by decide⟩)
  ·cases hb:kU l with
   | true=>exact .inl ⟨_,rfl,Ko h1,by omega,h3,by omega⟩
   | false=>exact .inr (.inl ⟨_,rfl⟩)
theorem xw (F:List cj->bD) (s:Bs):(∃ l,lM F (dR s)=(F l,true,0)/\i8 l/\dm l<=200/\dm l<=s.length/\l.length<=s.length)\/(∃ e,lM F (dR s)=(gD,false,e)):=by
 rcases Js s with ⟨l,h,h2⟩ | ⟨l,h⟩ | ⟨e,h,h2⟩
 ·rw [h]; exact .inl ⟨l,rfl,h2⟩
 ·rw [h]; exact .inr ⟨_,rfl⟩
 ·rw [h]; refine .inr ⟨e,?_⟩;unfold lM;rw [ab (by simpa using h2)]
theorem pm {l:List cj} (h:i8 l) (h2:dm l<=200):fa l=true:=by
 unfold fa; rw [Uk.2 h,decide_eq_true h2]; rfl
theorem i8.few {l:List cj} (h:i8 l):∀ y∈l,y.data.length<=300:=fun y hy=>by have:=h y hy; omega
theorem lK {d:Bs} {p:Int} (h:0<=p) (h2:p+2<=d.length):0<=b5 (bH d p 2)/\b5 (bH d p 2) < 65536:=by
 have hl:=ew (s:=d) (p:=p) (n:=2) h (by omega) h2;have:=kC (bH d p 2);rw [show (bH d p 2).length=2 by omega] at this;exact this
theorem xM {l:List cj}:(bX l).length=dm l:=qH l
theorem lY:∀ {l:List cj},(l.length:Int) * 2<=dm l
 | []=>by simp [dm]
 | y::l=>by have:=lY (l:=l); simp only [dm,List.length_cons]; omega
theorem f32 {ty:Int} {d:Bs} (ht:2<=ty/\ty<=5) (hd:d.length<=300) :
  (∃ m,je ty d=(m,true,0)/\ir m/\io m/\(dx m++bX m.subs).length<=d.length)\/(∃ e,je ty d=(gD,false,e)):=by
 have hb:=cw d 0;unfold je;have good:∀ m:bD,sS m->ir m->(0<=m.kind/\m.kind < 100)->(0<=m.flags/\m.flags < 100)->(0<=m.ae/\m.ae < 100)->(0<=m.af/\m.af < 100)->(0<=m.hops/\m.hops < 100)->io m:=fun m hf r a b c d e=>⟨hf,cx.2 (by have:=r.aB; omega),cx.2 (by have:=r.aw; omega),cx.2 (by have:=r.seq; omega),cx.2 (by have:=r.cost; omega),cx.2 (by omega),cx.2 (by omega),cx.2 (by omega),cx.2 (by omega),cx.2 (by omega)⟩
 have w0:(0:Int)<=0/\(0:Int) < 65536:=by decide
 have z0:(0:Int)<=0/\(0:Int) < 100:=by decide
 have z7:(0:Int)<=7/\(7:Int) < 100:=by decide
 have z8:(0:Int)<=8/\(8:Int) < 100:=by decide
 have z9:(0:Int)<=9/\(9:Int) < 100:=by decide
 have z10:(0:Int)<=10/\(10:Int) < 100:=by decide
 have n300:([]:List gW).length<=1000:=by decide
 have kO:∀ {m:bD} {x:bD × Bool × Int},x=(m,true,0)->ir m->(ir m->io m)->(dx m++bX m.subs).length<=d.length->∃ m,x=(m,true,0)/\ir m/\io m/\(dx m++bX m.subs).length<=d.length:=fun h r g l=>⟨_,h,r,g r,l⟩
 have bare:∀ m:bD,dv m=some m->cM m=true:=fun m h=>by rw [cM,h]; exact iA m
 split
 ·split
  ·exact .inr ⟨_,rfl⟩
  ·have n2:=lK (d:=d) (p:=2) (by omega) (by omega);have n4:=lK (d:=d) (p:=4) (by omega) (by omega);refine (xw _ _).imp (fun ⟨l,h,h1,h2,h3,h4⟩=>kO h ⟨n2,n4,w0,w0,bare _ rfl,pm h1 h2,rfl⟩ (fun r=>good _ ⟨n300,?_,by simp,by simp,by simp,by simp,by simp,by simp,by simp,by simp,h1.few⟩ r z7 z0 z0 z0 z0) ?_) id
   ·have:=lY (l:=l); simp at h4; dsimp only; omega
   ·have:=xM (l:=l); simp [dx,cm] at h3 |-; omega
 ·split
  ·split
   ·exact .inr ⟨_,rfl⟩
   ·have n0:=lK (d:=d) (p:=0) (by omega) (by omega);refine (xw _ _).imp (fun ⟨l,h,h1,h2,h3,h4⟩=>kO h ⟨n0,w0,w0,w0,bare _ rfl,pm h1 h2,rfl⟩ (fun r=>good _ ⟨n300,?_,by simp,by simp,by simp,by simp,by simp,by simp,by simp,by simp,h1.few⟩ r z8 z0 z0 z0 z0) ?_) id
    ·have:=lY (l:=l); simp at h4; dsimp only; omega
    ·have:=xM (l:=l); simp [dx,cm] at h3 |-; omega
  ·split
   ·split
    ·exact .inr ⟨_,rfl⟩
    ·have n2:=lK (d:=d) (p:=2) (by omega) (by omega);have n4:=lK (d:=d) (p:=4) (by omega) (by omega);have hf:bt d 0 / 128=0\/bt d 0 / 128=1:=by omega
     refine (xw _ _).imp (fun ⟨l,h,h1,h2,h3,h4⟩=>kO h ⟨w0,n4,n2,w0,bare _ rfl,pm h1 h2,?_⟩ (fun r=>good _ ⟨n300,?_,by simp,by simp,by simp,by simp,by simp,by simp,by simp,by simp,h1.few⟩ r z9 (show 0<=bt d 0 / 128/\bt d 0 / 128 < 100 by omega) z0 z0 z0) ?_) id
     ·simp only [ow]; rcases hf with e | e <;> rw [e] <;> rfl
     ·have:=lY (l:=l); simp at h4; dsimp only; omega
     ·have:=xM (l:=l); simp [dx,cm] at h3 |-; omega
   ·split
    ·exact .inr ⟨_,rfl⟩
    ·split
     ·exact .inr ⟨_,rfl⟩
     ·split
      ·exact .inr ⟨_,rfl⟩
      ·rename_i hx hl;have n2:=lK (d:=d) (p:=2) (by omega) (by omega);have n4:=lK (d:=d) (p:=4) (by omega) (by omega);have hae:bt d 0=0\/bt d 0=1\/bt d 0=2\/bt d 0=3:=by omega
       have hA:∀ a,a=(if bt d 0=3 then ez++bH d 6 8 else bH d 6 (dq (bt d 0)))->jH (bt d 0) a=true/\a.length<=16/\(((if bt d 0=3 then a.drop 8 else a).length:Nat):Int)=dq (bt d 0):=by
        intro a ha;have hc:∀ n:Int,0<=n->n=dq (bt d 0)->((bH d 6 n).length:Int)=n:=fun n h0 hn=>ew (by omega) h0 (by omega)
        rcases hae with e | e | e | e
        ·rw [e] at ha hc |-;have:=hc 0 (by omega) rfl;have e0:a=[]:=List.length_eq_zero_iff.1 (by rw [ha]; exact (by omega:(bH d 6 0).length=0));rw [e0]; exact ⟨rfl,by simp,rfl⟩
        ·rw [e] at ha hc |-;have:=hc 4 (by omega) rfl;have e0:(a.length:Int)=4:=by rw [ha]; exact this
         exact ⟨by simp [jH]; omega,by omega,e0⟩
        ·rw [e] at ha hc |-;have:=hc 16 (by omega) rfl;have e0:(a.length:Int)=16:=by rw [ha]; exact this
         exact ⟨by simp [jH]; omega,by omega,e0⟩
        ·rw [e] at ha hc |-;have:=hc 8 (by omega) rfl;rw [ab rfl] at ha;have e1:df a=true:=by rw [ha]; exact Qm (by omega)
         have e0:=(jD e1).1;rw [ab rfl];exact ⟨by simp [jH,e1],by omega,by simp [e0,dq]⟩
       obtain ⟨A1,A2,A3⟩:=hA _ rfl;refine (xw _ _).imp (fun ⟨l,h,h1,h2,h3,h4⟩=>kO h ⟨w0,n4,w0,n2,bare _ rfl,pm h1 h2,A1⟩ (fun r=>good _ ⟨n300,?_,by simp,by simp,by simp,by simp,?_,by simp,by simp,by simp,h1.few⟩ r z10 z0 (show 0<=bt d 0/\bt d 0 < 100 by omega) z0 z0) ?_) id
       ·have:=lY (l:=l); simp at h4; dsimp only; omega
       ·dsimp only; omega
       ·have:=xM (l:=l);have hn:0<=dq (bt d 0):=by unfold dq; split <;> (try split) <;> (try split) <;> omega
        generalize hq:(if bt d 0=3 then ez++bH d 6 8 else bH d 6 (dq (bt d 0)))=a at A3 |-;simp only [List.length_drop] at h3;simp only [dx,List.length_append,cm];rw [ac (by decide),ac (by decide),ac (by decide)];simp only [List.length_append,cm];omega
theorem KA:∀ {l:List cj} (p:Int),i8 l->∃ tl,cP p (bX l)=.ok tl/\keep tl=l/\kU tl=true
 | [],p,_=>⟨[],iY p,rfl,rfl⟩
 | y::l,p,h=>by
  have hy:=h y (List.mem_cons_self ..);have h1:(bF y.aA).toNat=y.aA.toNat:=by have:=fD y.aA; rw [ab (by omega)] at this; omega
  have h2:(bF (y.data.length:Int)).toNat=y.data.length:=by have:=fD (y.data.length:Int); rw [ab (by omega)] at this; omega
  have h0:bF y.aA≠0:=fun e=>by rw [e] at h1; simp at h1; omega
  obtain ⟨tl,e1,e2,e3⟩:=KA (l:=l) (p+2+y.data.length) (fun z hz=>h z (List.mem_cons_of_mem _ hz));refine ⟨⟨y.aA,p,y.data⟩::tl,?_,?_,?_⟩
  ·rw [bX,lT h0 (by rw [h2]; simp),h2,h1];simp only [List.drop_left,List.take_left];rw [e1,show ((y.aA.toNat:Nat):Int)=y.aA by omega]; rfl
  ·rw [keep,ab ⟨hy.1,hy.2.1⟩,e2]
  ·rw [ph,e3,decide_eq_true hy.2.1]; rfl
theorem Ht {l:List cj} (h:i8 l) (h2:dm l<=200):dR (bX l)=(l,true,0):=by
 obtain ⟨tl,e1,e2,e3⟩:=KA 0 h;unfold dR;rw [e1];dsimp only;rw [e2,e3,jN,ac (by omega)]
theorem fT {x y:Bs} {n:Int} (h:(x.length:Int)=n):bH (x++y) 0 n=x:=by
 unfold bH;rw [show ((0:Int)+n).toNat=x.length by omega];simp
theorem dS {x y:Bs} {k:Nat} {p n:Int} (h:x.length=k) (hp:(k:Int)<=p) (hn:0<=n):bH (x++y) p n=bH y (p - k) n:=by
 unfold bH;obtain ⟨a,rfl⟩:∃ a:Nat,p=k+a:=⟨(p - k).toNat,by omega⟩;obtain ⟨b,rfl⟩:∃ b:Nat,n=b:=⟨n.toNat,by omega⟩;rw [show ((k:Int)+(a:Int)+(b:Int)).toNat=k+(a+b) by omega,show ((k:Int)+(a:Int)).toNat=k+a by omega,show ((k:Int)+(a:Int) - (k:Int)+(b:Int)).toNat=a+b by omega,show ((k:Int)+(a:Int) - (k:Int)).toNat=a by omega,<- h,List.take_length_add_append,List.drop_length_add_append]
theorem jx {n:Int} (h:0<=n/\n < 65536):b5 (be 2 n)=n:=oM 2 n h.1 h.2
theorem ff3 {m:bD} (r:ir m):je (m.kind - 5) (dx m++bX m.subs)=(m,true,0):=by
 obtain ⟨hr,hs⟩:=nZ r.subs;have hg:=Ht hr hs;have hbare:=r.bare;have l2:∀ n,(be 2 n).length=2:=cm 2;have cat:∀ (a b:Int) (x:Bs),(be 2 a++(be 2 b++x)).drop 4=x:=fun a b x=>by
  rw [<- List.append_assoc,List.drop_left' (by simp [l2])]
 have fin:∀ F:List cj->bD,F m.subs=m->lM F (dR (bX m.subs))=(m,true,0):=fun F h=>by rw [hg]; show (F m.subs,true,0)=_; rw [h]
 have eqm:∀ x,dv m=some x->x=m:=fun x h=>by rw [cM,h] at hbare; exact ma.1 hbare
 rcases r.kinds with hk | hk | ⟨hk,hf⟩ | ⟨hk,ha⟩
 ·have hx:=eqm _ (by unfold dv; rw [ac (by omega),ac (by omega),ac (by omega),ac (by omega),ac (by omega),ac (by omega),ab hk]);have ef:dx m=be 2 0++(be 2 m.aB++be 2 m.aw):=by unfold dx; rw [ab hk]
  rw [ef,hk];have el:(be 2 0++(be 2 m.aB++be 2 m.aw)++bX m.subs).length=6+(bX m.subs).length:=by simp [l2]; omega
  have e1:bH (be 2 0++(be 2 m.aB++be 2 m.aw)++bX m.subs) 2 2=be 2 m.aB:=by
   rw [List.append_assoc,dS (l2 _) (by omega) (by omega),List.append_assoc]; exact fT (by simp [l2])
  have e2:bH (be 2 0++(be 2 m.aB++be 2 m.aw)++bX m.subs) 4 2=be 2 m.aw:=by
   rw [List.append_assoc,dS (l2 _) (by omega) (by omega),List.append_assoc,dS (l2 _) (by omega) (by omega)]; exact fT (by simp [l2])
  have e3:(be 2 0++(be 2 m.aB++be 2 m.aw)++bX m.subs).drop 6=bX m.subs:=List.drop_left' (by simp [l2]);unfold je;rw [ab (by omega),ac (by omega),e1,e2,e3,jx r.aB,jx r.aw];refine fin _ ?_;rw [hk] at hx;exact hx
 ·have hx:=eqm _ (by unfold dv; rw [ac (by omega),ac (by omega),ac (by omega),ac (by omega),ac (by omega),ac (by omega),ac (by omega),ab hk]);have ef:dx m=be 2 m.aB:=by unfold dx; rw [ac (by omega),ab hk]
  rw [ef,hk];have el:(be 2 m.aB++bX m.subs).length=2+(bX m.subs).length:=by simp [l2]
  have e1:bH (be 2 m.aB++bX m.subs) 0 2=be 2 m.aB:=fT (by simp [l2]);have e3:(be 2 m.aB++bX m.subs).drop 2=bX m.subs:=List.drop_left' (by simp [l2]);unfold je;rw [ac (by omega),ab (by omega),ac (by omega),e1,e3,jx r.aB];refine fin _ ?_;rw [hk] at hx;exact hx
 ·have hx:=eqm _ (by unfold dv; rw [ac (by omega),ac (by omega),ac (by omega),ac (by omega),ac (by omega),ac (by omega),ac (by omega),ac (by omega),ab hk]);have ef:dx m=be 2 (32768 * m.flags)++(be 2 m.seq++be 2 m.aw):=by unfold dx; rw [ac (by omega),ac (by omega),ab hk]
  rw [ef,hk];have el:(be 2 (32768 * m.flags)++(be 2 m.seq++be 2 m.aw)++bX m.subs).length=6+(bX m.subs).length:=by simp [l2]; omega
  have e0:bt (be 2 (32768 * m.flags)++(be 2 m.seq++be 2 m.aw)++bX m.subs) 0 / 128=m.flags:=by
   rw [<- J7 _ (by omega),List.append_assoc,fT (by simp [l2]),jx (by omega)]; omega
  have e1:bH (be 2 (32768 * m.flags)++(be 2 m.seq++be 2 m.aw)++bX m.subs) 2 2=be 2 m.seq:=by
   rw [List.append_assoc,dS (l2 _) (by omega) (by omega),List.append_assoc]; exact fT (by simp [l2])
  have e2:bH (be 2 (32768 * m.flags)++(be 2 m.seq++be 2 m.aw)++bX m.subs) 4 2=be 2 m.aw:=by
   rw [List.append_assoc,dS (l2 _) (by omega) (by omega),List.append_assoc,dS (l2 _) (by omega) (by omega)]; exact fT (by simp [l2])
  have e3:(be 2 (32768 * m.flags)++(be 2 m.seq++be 2 m.aw)++bX m.subs).drop 6=bX m.subs:=List.drop_left' (by simp [l2]);unfold je;rw [ac (by omega),ac (by omega),ab (by omega),ac (by omega),e0,e1,e2,e3,jx r.seq,jx r.aw];refine fin _ ?_;rw [hk] at hx;exact hx
 ·have hx:=eqm _ (by unfold dv; rw [ac (by omega),ac (by omega),ac (by omega),ac (by omega),ac (by omega),ac (by omega),ac (by omega),ac (by omega),ac (by omega),ab hk]);obtain ⟨A,hA⟩:∃ A,A=(if m.ae=3 then m.addr.drop 8 else m.addr):=⟨_,rfl⟩;have hc:=Ar ha;have hae:0<=m.ae/\m.ae<=3:=by rcases hc with ⟨h,_⟩ | ⟨h,_⟩ | ⟨h,_⟩ | ⟨h,_⟩ <;> omega
  have ef:dx m=be 2 (256 * m.ae)++(be 2 m.cost++(be 2 m.aw++A)):=by unfold dx; rw [ac (by omega),ac (by omega),ac (by omega),hA]
  have hAl:(A.length:Int)=dq m.ae/\(if m.ae=3 then ez++A else A)=m.addr:=by
   rcases hc with ⟨h,h2⟩ | ⟨h,h2⟩ | ⟨h,h2⟩ | ⟨h,h2⟩
   ·rw [h] at hA |-; rw [ac (by omega)] at hA |-; rw [hA,h2]; exact ⟨rfl,rfl⟩
   ·rw [h] at hA |-; rw [ac (by omega)] at hA |-; rw [hA]; exact ⟨by rw [h2]; rfl,rfl⟩
   ·rw [h] at hA |-; rw [ac (by omega)] at hA |-; rw [hA]; exact ⟨by rw [h2]; rfl,rfl⟩
   ·rw [h] at hA |-; rw [ab rfl] at hA |-; rw [hA]; exact ⟨by rw [List.length_drop,(jD h2).1]; rfl,Ku h2⟩
  rw [ef,hk];have el:(be 2 (256 * m.ae)++(be 2 m.cost++(be 2 m.aw++A))++bX m.subs).length=6+A.length+(bX m.subs).length:=by simp [l2]; omega
  have e0:bt (be 2 (256 * m.ae)++(be 2 m.cost++(be 2 m.aw++A))++bX m.subs) 0=m.ae:=by
   rw [<- Xq _ (by omega),List.append_assoc,fT (by simp [l2]),jx (by omega)]; omega
  have e1:bH (be 2 (256 * m.ae)++(be 2 m.cost++(be 2 m.aw++A))++bX m.subs) 2 2=be 2 m.cost:=by
   rw [List.append_assoc,dS (l2 _) (by omega) (by omega),List.append_assoc]; exact fT (by simp [l2])
  have e2:bH (be 2 (256 * m.ae)++(be 2 m.cost++(be 2 m.aw++A))++bX m.subs) 4 2=be 2 m.aw:=by
   rw [List.append_assoc,dS (l2 _) (by omega) (by omega),List.append_assoc,dS (l2 _) (by omega) (by omega),List.append_assoc]; exact fT (by simp [l2])
  have e4:bH (be 2 (256 * m.ae)++(be 2 m.cost++(be 2 m.aw++A))++bX m.subs) 6 (dq m.ae)=A:=by
   rw [List.append_assoc,dS (l2 _) (by omega) (by omega),List.append_assoc,dS (l2 _) (by omega) (by omega),List.append_assoc,dS (l2 _) (by omega) (by omega)]; exact fT hAl.1
  have e3:(be 2 (256 * m.ae)++(be 2 m.cost++(be 2 m.aw++A))++bX m.subs).drop (6+dq m.ae).toNat=bX m.subs:=List.drop_left' (by simp [l2]; omega);unfold je;rw [ac (by omega),ac (by omega),ac (by omega),ac (by omega),e0,ac (by omega),ac (by omega),e1,e2,e3,jx r.cost,jx r.aw];refine fin _ ?_;have e5:(if m.ae=3 then ez++bH (be 2 (256 * m.ae)++(be 2 m.cost++(be 2 m.aw++A))++bX m.subs) 6 8 else bH (be 2 (256 * m.ae)++(be 2 m.cost++(be 2 m.aw++A))++bX m.subs) 6 (dq m.ae))=m.addr:=by
   rw [e4];by_cases h3:m.ae=3
   ·have h8:dq m.ae=8:=by rw [h3]; rfl
    rw [h8] at e4;rw [ab h3,e4];have:=hAl.2; rw [ab h3] at this; exact this
   ·have:=hAl.2; rw [ac h3] at this |-; exact this
  rw [e5];rw [hk] at hx;exact hx
theorem ir.small {m:bD} (r:ir m):(dx m).length<=22:=by
 unfold dx; split
 ·simp [cm]
 ·split
  ·simp [cm]
  ·split
   ·simp [cm]
   ·rcases r.kinds with hk | hk | ⟨hk,_⟩ | ⟨hk,ha⟩ <;> first | omega | skip
    rcases Ar ha with ⟨h,h2⟩ | ⟨h,h2⟩ | ⟨h,h2⟩ | ⟨h,h2⟩
    ·simp [cm,h,h2]
    ·simp [cm,h,h2]
    ·simp [cm,h,h2]
    ·have:=(jD h2).1;simp [cm,h,this]
theorem L3 {m:bD} (r:ir m):iJ m=(bF (m.kind - 5)::bF (dx m++bX m.subs).length::(dx m++bX m.subs),true)/\(dx m++bX m.subs).length<=255/\2<=m.kind - 5/\m.kind - 5<=5:=by
 have h1:=r.small;have h2:=mm r.subs;have hk:2<=m.kind - 5/\m.kind - 5<=5:=by rcases r.kinds with h | h | ⟨h,_⟩ | ⟨h,_⟩ <;> omega
 have hl:(dx m++bX m.subs).length<=255:=by simp; omega
 refine ⟨?_,hl,hk⟩;unfold iJ;rw [ab (ju.2 r),eF,ab ⟨by omega,by omega,hl⟩]
theorem YQ {t p:Int} {d:Bs} (ht:1<=t/\t<=255) (hd:d.length<=255):cP p (bF t::bF d.length::d)=.ok [⟨t,p,d⟩]:=by
 have h1:(bF t).toNat=t.toNat:=by have:=fD t; rw [ab (by omega)] at this; omega
 have h2:(bF (d.length:Int)).toNat=d.length:=by have:=fD (d.length:Int); rw [ab (by omega)] at this; omega
 have h0:bF t≠0:=fun e=>by rw [e] at h1; simp at h1; omega
 rw [lT h0 (by omega),h2,List.drop_length,iY,List.take_length,h1];simp only [Except.map];rw [show ((t.toNat:Nat):Int)=t by omega]
theorem fK4:dR []=([],true,0):=by unfold dR; rw [iY]; rfl
end Go.VP
namespace Go.VP
open Go Go.VI
def cA (ae:Int):Int:=if ae=0 then 0 else (if ae=1 then 4 else (if ae=2 then 16 else 16))
def cq (ae:Int):Int:=if ae=0 then 0 else (if ae=1 then 0 else (if ae=2 then 0 else 8))
def fg (ae:Int):Int:=if ae=0 then 0 else (if ae=1 then 0 else (if ae=2 then 0 else 64))
def eY (ae:Int):Int:=if ae=0 then 0 else (if ae=1 then 32 else (if ae=2 then 128 else 128))
theorem jq {ae:Int} (h:0<=ae/\ae < 4):ae=0\/ae=1\/ae=2\/ae=3:=by omega
def ky (ae:Int) (a:Bs) (af:Int):Bool:=decide (0<=ae/\ae < 4) && (decide ((a.length:Int)=cA ae) && (decide (fg ae<=af/\af<=eY ae) && (fN a af && (decide (ae≠3) || df a))))
theorem Nk {ae af:Int} {a:Bs} (ha:a.length<=1000000000) (hp:IntKind.has .i64 af):sW (ae,a,af,())=some ((ky ae a af,()),()):=by
 rw [eR2,wb,aa];dsimp only;unfold ky;by_cases h0:ae < 0
 ·rw [bP h0,decide_eq_false (by omega)]; rfl
 by_cases h3:3 < ae
 ·rw [bN h0,bP h3,decide_eq_false (by omega)]; rfl
 have hae:0<=ae/\ae < 4:=by omega
 rw [bN h0,bN h3,ab hae,decide_eq_true hae,Bool.true_and];change (if (a.length:Int)==cA ae then (if decide (fg ae<=af)=true then (if decide (af<=eY ae)=true then _ else _) else _) else _)=_;by_cases h1:(a.length:Int)=cA ae
 ·rw [ab (by simp [h1]),decide_eq_true h1,Bool.true_and];by_cases h2:fg ae<=af
  ·rw [bP h2];by_cases h4:af<=eY ae
   ·rw [bP h4,decide_eq_true ⟨h2,h4⟩,Bool.true_and,D2 ha hp,aa,t6];dsimp only;cases fN a af
    ·rfl
    ·rw [cQ,Bool.true_and];by_cases h5:ae=3
     ·rw [ac (by simp [h5])]; simp [h5]
     ·rw [ab (by simp [h5])]; simp [h5]
   ·rw [bN h4,decide_eq_false (by omega)]; rfl
  ·rw [bN h2,decide_eq_false (by omega)]; rfl
 ·rw [ac (by simp [h1]),decide_eq_false h1]; rfl
theorem yr {a:Bs} {n:Int} (ha:a.length<=1000000000) (h:a.length=4\/a.length=16):jI (a,n,())=some ((decide (0<=n/\n<=8 * a.length) && fN a n,()),()):=by
 rw [RF,bL (x:=8 * (a.length:Int)) (by omega) (by omega),Wa ha,aa];have go:(if decide (0<=n)=true then (if decide (n<=8 * (a.length:Int))=true then (some ((fN a n,()),()):Option ((Bool × Unit) × Unit)) else some ((false,()),())) else some ((false,()),()))=some ((decide (0<=n/\n<=8 * a.length) && fN a n,()),()):=by
  by_cases h1:0<=n
  ·rw [bP h1];by_cases h2:n<=8 * (a.length:Int)
   ·rw [bP h2,decide_eq_true ⟨h1,h2⟩]; rfl
   ·rw [bN h2,decide_eq_false (by omega)]; rfl
  ·rw [bN h1,decide_eq_false (by omega)]; rfl
 rcases h with h | h
 ·rw [ab (by simp; omega)]; exact go
 ·rw [ac (by simp; omega),ab (by simp; omega)]; exact go
theorem UN {ae af:Int} {a:Bs} (ha:a.length<=1000000000):td (ae,a,af,())=some ((ky ae a af,()),()):=by
 rw [eQ7,pY];unfold ky;refine bR (fun h=>?_) (fun h0=>?_)
 ·subst h;by_cases h1:a=[]
  ·subst h1;rw [ab (show (([]:Bs)==[])=true from rfl)];have hc:fN [] af=true:=rfl;rw [hc];by_cases h2:af=0
   ·subst h2; rfl
   ·have:(af==0)=false:=by simpa using h2
    have h3:¬(fg 0<=af/\af<=eY 0):=by show ¬(0<=af/\af<=0); omega
    rw [this,decide_eq_false h3]; simp
  ·have hl:¬((a.length:Int)=cA 0):=by show ¬((a.length:Int)=0); intro h; exact h1 (List.length_eq_zero_iff.1 (by omega))
   rw [ac (by simpa using h1),decide_eq_false hl]; simp
 refine bR (fun h=>?_) (fun h1=>?_)
 ·subst h;by_cases h4:a.length=4
  ·rw [ab (by simp; omega),yr ha (.inl h4),aa,h4];rw [decide_eq_true (show (0:Int)<=1/\(1:Int) < 4 by omega),decide_eq_true (show ((4:Nat):Int)=cA 1 from rfl),decide_eq_true (show (1:Int)≠3 by omega)];show some ((decide (0<=af/\af<=32) && fN a af,()),())=some ((true && (true && (decide (0<=af/\af<=32) && (fN a af && (true || df a)))),()),());simp
  ·have hl:¬((a.length:Int)=cA 1):=by show ¬((a.length:Int)=4); omega
   rw [ac (by simp; omega),decide_eq_false hl]; simp
 refine bR (fun h=>?_) (fun h2=>?_)
 ·subst h;by_cases h4:a.length=16
  ·rw [ab (by simp; omega),yr ha (.inr h4),aa,h4];rw [decide_eq_true (show (0:Int)<=2/\(2:Int) < 4 by omega),decide_eq_true (show ((16:Nat):Int)=cA 2 from rfl),decide_eq_true (show (2:Int)≠3 by omega)];show some ((decide (0<=af/\af<=128) && fN a af,()),())=some ((true && (true && (decide (0<=af/\af<=128) && (fN a af && (true || df a)))),()),());simp
  ·have hl:¬((a.length:Int)=cA 2):=by show ¬((a.length:Int)=16); omega
   rw [ac (by simp; omega),decide_eq_false hl]; simp
 refine bR (fun h=>?_) (fun h3=>?_)
 ·subst h;rw [aa];dsimp only;by_cases hb:df a=true
  ·have h16:=(jD hb).1;rw [hb,cQ,yr ha (.inr h16),aa,h16];rw [decide_eq_true (show (0:Int)<=3/\(3:Int) < 4 by omega),decide_eq_true (show ((16:Nat):Int)=cA 3 from rfl)];by_cases h6:64<=af
   ·have:decide (fg 3<=af/\af<=eY 3)=decide (0<=af/\af<=8 * ((16:Nat):Int)):=by
     rw [Bool.eq_iff_iff]; show decide (64<=af/\af<=128)=true↔_; simp; omega
    rw [bP h6,this]; simp
   ·have:decide (fg 3<=af/\af<=eY 3)=false:=decide_eq_false (by show ¬(64<=af/\af<=128); omega);rw [bN h6,this]; simp
  ·rw [Bool.not_eq_true] at hb;rw [hb,cV]; simp
 rw [decide_eq_false (by omega)]; rfl
def pL (m:bD):Bool:=if m.kind=12 then true else if m.kind=13 then (decide (0 < m.ae) && (b6 m.seq 2 && (decide (1<=m.hops/\m.hops<=255) && decide (m.id.length=8)))) else false
def iS (m:bD):Bool:=cM m && (fa m.subs && (ky m.ae m.ah m.af && pL m))
theorem xX (l:Bs):((l.length:Int)==8)=decide (l.length=8):=by rw [Bool.eq_iff_iff]; simp; omega
theorem Pg {m:bD} (g:io m):qZ (m,())=some ((iS m,()),()):=by
 have h2:dp (m.seq,2,())=some ((b6 m.seq 2,()),()):=ip (k:=2) g.seq (by omega) (by omega);have h1:dp (m.hops,1,())=some ((b6 m.hops 1,()),()):=ip (k:=1) g.hops (by omega) (by omega);rw [e54,mD,aa,wS g.few.fewS,aa,Nk (by have:=g.few.pre; omega) g.af,aa,h1,h2];dsimp only;unfold iS;cases cM m
 ·rfl
 rw [b7,Bool.true_and];cases fa m.subs
 ·rfl
 rw [b7,Bool.true_and];cases ky m.ae m.ah m.af
 ·rfl
 rw [b7,Bool.true_and];unfold pL;refine bR (fun h=>?_) (fun h=>?_)
 ·rw [ab h]
 rw [ac h];refine bR (fun h=>?_) (fun h=>?_)
 ·rw [ab h,aa,aa,xX];by_cases ha:0 < m.ae
  ·rw [bP ha,decide_eq_true ha,Bool.true_and];cases b6 m.seq 2
   ·rfl
   rw [cQ,Bool.true_and];by_cases hh:0 < m.hops
   ·rw [bP hh];have:b6 m.hops 1=decide (1<=m.hops/\m.hops<=255):=by unfold b6; rw [Bool.eq_iff_iff]; simp; omega
    rw [this];cases decide (1<=m.hops/\m.hops<=255) <;> rfl
   ·rw [bN hh,decide_eq_false (by omega)]; rfl
  ·rw [bN ha,decide_eq_false ha]; rfl
 rw [ac h]
theorem K8 {m:bD} (g:io m):vm (m,())=some ((iS m,()),()):=by
 have h2:gI (m.seq,2,())=some ((b6 m.seq 2,()),()):=rC (k:=2) (by omega) (by omega);rw [e41,mC (by have:=g.few.list; omega) (by have:=g.few.subs; omega),aa,Bg g.few.fewS,aa,UN (by have:=g.few.pre; omega),aa,h2];dsimp only;unfold iS;cases cM m
 ·rfl
 rw [b7,Bool.true_and];cases fa m.subs
 ·rfl
 rw [b7,Bool.true_and];cases hin:ky m.ae m.ah m.af
 ·rfl
 have hae:0<=m.ae/\m.ae < 4:=by
  unfold ky at hin;simp only [Bool.and_eq_true,decide_eq_true_eq] at hin;exact hin.1
 rw [b7,Bool.true_and];unfold pL;refine bR (fun h=>?_) (fun h=>?_)
 ·rw [ab h]
 rw [ac h];refine bR (fun h=>?_) (fun h=>?_)
 ·rw [ab h,aa,xX];by_cases ha:m.ae=0
  ·rw [ac (by simp [ha]),decide_eq_false (by omega)]; rfl
  ·rw [ab (by simp [ha]),decide_eq_true (show 0 < m.ae by omega),Bool.true_and];cases b6 m.seq 2
   ·rfl
   rw [cQ,Bool.true_and];by_cases hh:1<=m.hops
   ·rw [bP hh];by_cases h5:m.hops<=255
    ·rw [bP h5,decide_eq_true (show 1<=m.hops/\m.hops<=255 from ⟨hh,h5⟩)]; rfl
    ·rw [bN h5,decide_eq_false (by omega)]; rfl
   ·rw [bN hh,decide_eq_false (by omega)]; rfl
 rw [ac h]
structure gN (m:bD):Prop where
 bare:cM m=true
 subs:fa m.subs=true
 ae:0<=m.ae/\m.ae < 4
 len:(m.ah.length:Int)=cA m.ae
 af:fg m.ae<=m.af/\m.af<=eY m.ae
 clean:cT m.ah m.af=m.ah
 link:m.ae=3->df m.ah=true
 kind:pL m=true
theorem tL {ae af:Int} {a:Bs}:ky ae a af=true↔(0<=ae/\ae < 4)/\(a.length:Int)=cA ae/\(fg ae<=af/\af<=eY ae)/\cT a af=a/\(ae=3->df a=true):=by
 unfold ky fN;simp only [Bool.and_eq_true,decide_eq_true_eq,beq_iff_eq,Bool.or_eq_true];constructor
 ·rintro ⟨a,b,c,d,e⟩; exact ⟨a,b,c,d,fun h=>e.resolve_left (fun h2=>h2 h)⟩
 ·rintro ⟨a,b,c,d,e⟩; exact ⟨a,b,c,d,by by_cases h:ae=3 <;> simp [h,e]⟩
theorem jy {m:bD}:iS m=true↔gN m:=by
 unfold iS;simp only [Bool.and_eq_true,tL];exact ⟨fun ⟨a,b,⟨c,d,e,f,g⟩,h⟩=>⟨a,b,c,d,e,f,g,h⟩,fun h=>⟨h.1,h.2,⟨h.3,h.4,h.5,h.6,h.7⟩,h.8⟩⟩
theorem gN.kinds {m:bD} (h:gN m):m.kind=12\/(m.kind=13/\0 < m.ae/\(0<=m.seq/\m.seq < 65536)/\(1<=m.hops/\m.hops<=255)/\m.id.length=8):=by
 have:=h.kind;unfold pL at this;split at this
 ·exact .inl (by assumption)
 ·split at this
  ·simp only [Bool.and_eq_true,decide_eq_true_eq,lh] at this;exact .inr ⟨by assumption,this⟩
  ·cases this
def cD (m:bD):Bs:=(kz m.ah m.af).drop (cq m.ae).toNat
theorem ff4 (a:Bs) (n:Int):(kz a n).length=min (cJ n).toNat a.length:=by unfold kz; rw [km,List.length_take]
theorem kp {ae af:Int} (hae:0<=ae/\ae < 4) (hp:fg ae<=af/\af<=eY ae):0<=cq ae/\cq ae<=cJ af/\cJ af<=cA ae/\0<=af/\af<=128/\cA ae<=16:=by
 have h8:cJ af=if af < 0 then 0 else (af+7) / 8:=rfl
 rcases jq hae with rfl | rfl | rfl | rfl
 ·have:0<=af/\af<=0:=hp;rw [h8]; show 0<=(0:Int)/\(0:Int)<=_/\_<=(0:Int)/\_/\_/\(0:Int)<=16; rw [ac (by omega)]; omega
 ·have:0<=af/\af<=32:=hp;rw [h8]; show 0<=(0:Int)/\(0:Int)<=_/\_<=(4:Int)/\_/\_/\(4:Int)<=16; rw [ac (by omega)]; omega
 ·have:0<=af/\af<=128:=hp;rw [h8]; show 0<=(0:Int)/\(0:Int)<=_/\_<=(16:Int)/\_/\_/\(16:Int)<=16; rw [ac (by omega)]; omega
 ·have:64<=af/\af<=128:=hp;rw [h8]; show 0<=(8:Int)/\(8:Int)<=_/\_<=(16:Int)/\_/\_/\(16:Int)<=16; rw [ac (by omega)]; omega
theorem gN.cut {m:bD} (h:gN m):((kz m.ah m.af).length:Int)=cJ m.af/\((cD m).length:Int)=cJ m.af - cq m.ae:=by
 obtain ⟨h1,h2,h3,h4,h5,h6⟩:=kp h.ae h.af;have:=h.len;have hc:((kz m.ah m.af).length:Int)=cJ m.af:=by rw [ff4]; omega
 exact ⟨hc,by unfold cD; rw [List.length_drop]; omega⟩
def gj (m:bD):Bs:=if m.kind=13 then bF m.ae::bF m.af::(be 2 m.seq++(bF m.hops::0::(m.id++cD m))) else bF m.ae::bF m.af::cD m
def iL (m:bD):Bs × Bool:=if iS m=true then eF (if m.kind=13 then 10 else 9) (gj m++bX m.subs) else ([],false)
theorem i5 {n:Int} (h:0<=n):bF (IntKind.wrap .u8 n)=bF n:=by rw [f8,lm h]
theorem Zr {n:Int} (h:0<=n/\n < 65536):be 2 n=[bF (IntKind.wrap .u8 (cb .i64 n 8)),bF (IntKind.wrap .u8 n)]:=(qv h).symm
theorem fy8 {m:bD} (g:io m):ui (m,())=some (((iL m).1,(iL m).2,()),()):=by
 rw [ez4,Pg g,aa];unfold iL;dsimp only;by_cases h:iS m=true
 ·have r:=jy.1 h;have hs:=Fr g.few.fewS (by have:=g.few.subs; omega);rw [qB r.subs] at hs;have hz:=mm r.subs;obtain ⟨c1,c2⟩:=r.cut;obtain ⟨l1,l2,l3,l4,l5,l6⟩:=kp r.ae r.af;have hcut:=LU (a:=m.ah) (n:=m.af) (by have:=g.few.pre; omega) g.af (by omega);rw [ac (by simp [h]),ab h,hs,aa,hcut,wb,i5 r.ae.1,i5 l4];simp only [aa];have hd:((kz m.ah m.af).drop (cq m.ae).toNat)=cD m:=rfl;have hae:0<=m.ae/\m.ae < 4:=r.ae;rcases r.kinds with hk | ⟨hk,_,hq,hh,hi⟩
  ·rw [ac (show ¬(m.kind==13)=true by simp [hk]),ab hae];change (if 0<=cq m.ae/\cq m.ae<=((kz m.ah m.af).length:Int) then (if cE ([bF m.ae,bF m.af].length+(cD m).length)=true then (if bM (([bF m.ae,bF m.af]++cD m).length+(bX m.subs).length)=true then ((gv (9,(([bF m.ae,bF m.af]++cD m)++bX m.subs),())).bind _) else none) else none) else none)=_;rw [ab (by omega),ab (d7 (by simp; omega)),ab (bW (by simp; omega)),lP,aa,ac (show ¬m.kind=13 by omega)];unfold gj;rw [ac (show ¬m.kind=13 by omega)]; rfl
  ·rw [ab (show (m.kind==13)=true by simp [hk]),ab (d7 (by simp)),ab (d7 (by simp; omega)),ab hae,i5 (n:=m.hops) (by omega)];change (if 0<=cq m.ae/\cq m.ae<=((kz m.ah m.af).length:Int) then (if cE ((([bF m.ae,bF m.af]++[bF (IntKind.wrap .u8 (cb .i64 m.seq 8)),bF (IntKind.wrap .u8 m.seq),bF m.hops,0])++m.id).length+(cD m).length)=true then (if bM (((([bF m.ae,bF m.af]++[bF (IntKind.wrap .u8 (cb .i64 m.seq 8)),bF (IntKind.wrap .u8 m.seq),bF m.hops,0])++m.id)++cD m).length+(bX m.subs).length)=true then ((gv (10,(((([bF m.ae,bF m.af]++[bF (IntKind.wrap .u8 (cb .i64 m.seq 8)),bF (IntKind.wrap .u8 m.seq),bF m.hops,0])++m.id)++cD m)++bX m.subs),())).bind _) else none) else none) else none)=_;rw [ab (by omega),ab (d7 (by simp; omega)),ab (bW (by simp; omega)),lP,aa,ab hk];unfold gj;rw [ab hk,Zr hq];simp
 ·rw [Bool.not_eq_true] at h;rw [h,cK,cV]
theorem oj {ae:Int} (h:0<=ae/\ae < 4):gM (ae,())=some ((cq ae,()),()):=by
 rw [X4];rcases jq h with rfl | rfl | rfl | rfl <;> rfl
theorem YF {m:bD} (g:io m) (r:gN m):gC (m,())=some ((cD m,()),()):=by
 obtain ⟨c1,c2⟩:=r.cut;obtain ⟨l1,l2,l3,l4,l5,l6⟩:=kp r.ae r.af;rw [Ks,Qz (by have:=g.few.pre; omega) (by omega),aa,oj r.ae,aa];dsimp only;rw [ab (by omega)]; rfl
theorem fy9 {m:bD} (g:io m):wy (m,())=some (((iL m).1,(iL m).2,()),()):=by
 rw [ex7,K8 g,aa];unfold iL;dsimp only;by_cases h:iS m=true
 ·have r:=jy.1 h;have hs:=Hi g.few.fewS (by have:=g.few.subs; omega);rw [qB r.subs] at hs;have hz:=mm r.subs;obtain ⟨c1,c2⟩:=r.cut;obtain ⟨l1,l2,l3,l4,l5,l6⟩:=kp r.ae r.af;rw [ac (by simp [h]),ab h,hs,aa,YF g r,i5 r.ae.1,i5 l4];rcases r.kinds with hk | ⟨hk,_,hq,hh,hi⟩
  ·rw [ab (by simp [hk]),aa];dsimp only;rw [ab (bW (by simp; omega)),ab (bW (by simp; omega)),kK,aa,ac (show ¬m.kind=13 by omega)];unfold gj;rw [ac (show ¬m.kind=13 by omega)]; rfl
  ·rw [ac (by simp [hk]),py hq,aa];dsimp only;rw [ab (bW (by simp [cm])),ab (bW (by simp [cm])),ab (bW (by simp [cm]; omega)),aa];dsimp only;rw [ab (bW (by simp [cm]; omega)),ab (bW (by simp [cm]; omega)),kK,aa,ab hk,i5 (n:=m.hops) (by omega)];unfold gj;rw [ab hk];simp
 ·rw [Bool.not_eq_true] at h;rw [h,cK,cV]
end Go.VP
namespace Go.VP
open Go Go.VI
abbrev jf:=eg
abbrev oe:jf:=⟨0,0,0,0,0,0,0,0,[],[]⟩
abbrev gu (d:Bs) (p:Int) (b:Bool):eX:=⟨d,p,d.length,b⟩
theorem uv {d:Bs} {p:Int} (h:d.length<=1000000) (h0:0<=p) (h1:p<=d.length):dQ d p d.length:=⟨h0,h1,by omega,by omega⟩
theorem mo {d:Bs} {p n:Int} (h:d.length<=1000000) (h0:0<=p) (hn:1<=n/\n<=7) (h2:p+n<=d.length):gS (gu d p false,n,())=some ((b5 (bH d p n),()),(gu d (p+n) false,())):=by
 rw [Ov,gG (uv h h0 (by omega)) hn.1 hn.2 h2]; rfl
theorem UC {d:Bs} {p n:Int} {b:Bool} (h:d.length<=1000000) (h0:0<=p) (h1:p<=d.length) (hn:1<=n/\n<=7) (h2:b=true\/(d.length:Int) < p+n):gS (gu d p b,n,())=some ((0,()),(gu d p true,())):=by
 rw [Ov,ry (uv h h0 h1) hn.1 hn.2 h2]; rfl
theorem A5 {d:Bs} {p n:Int} (h:d.length<=1000000) (h0:0<=p) (hn:0<=n) (h2:p+n<=d.length):ms (gu d p false,n,())=some ((bH d p n,()),(gu d (p+n) false,())):=by
 rw [SC,iV (uv h h0 (by omega)) hn h2]; rfl
theorem I5 {d:Bs} {p n:Int} {b:Bool} (h:d.length<=1000000) (h0:0<=p) (h1:p<=d.length) (h2:b=true\/n < 0\/(d.length:Int) < p+n):ms (gu d p b,n,())=some (([],()),(gu d p true,())):=by
 rw [SC,oG (uv h h0 h1) h2]; rfl
theorem i0 {d:Bs} {p n:Int} {b:Bool} (h:d.length<=1000000) (h0:0<=p) (h1:p<=d.length) (hn:1<=n/\n<=7):∃ v q c,gS (gu d p b,n,())=some ((v,()),(gu d q c,()))/\0<=q/\q<=d.length/\(c=false->b=false/\q=p+n)/\(0<=v):=by
 by_cases hb:b=true
 ·exact ⟨_,_,_,UC h h0 h1 hn (.inl hb),h0,h1,(fun h=>by cases h),by omega⟩
 ·rw [Bool.not_eq_true] at hb;subst hb;by_cases hl:p+n<=d.length
  ·exact ⟨_,_,_,mo h h0 hn hl,by omega,hl,fun _=>⟨rfl,rfl⟩,(kC _).1⟩
  ·exact ⟨_,_,_,UC h h0 h1 hn (.inr (by omega)),h0,h1,(fun h=>by cases h),by omega⟩
theorem g02 {d:Bs} {p n:Int} {b:Bool} (h:d.length<=1000000) (h0:0<=p) (h1:p<=d.length) (hn:0<=n):∃ v q c,ms (gu d p b,n,())=some ((v,()),(gu d q c,()))/\0<=q/\q<=d.length/\(c=false->b=false/\q=p+n):=by
 by_cases hb:b=true
 ·exact ⟨_,_,_,I5 h h0 h1 (.inl hb),h0,h1,fun h=>by cases h⟩
 ·rw [Bool.not_eq_true] at hb;subst hb;by_cases hl:p+n<=d.length
  ·exact ⟨_,_,_,A5 h h0 hn hl,by omega,hl,fun _=>⟨rfl,rfl⟩⟩
  ·exact ⟨_,_,_,I5 h h0 h1 (.inr (.inr (by omega))),h0,h1,fun h=>by cases h⟩
def e9 (ae af:Int):Bool:=!decide (fg ae<=af/\af<=eY ae)
def cp (ae af om:Int):Int:=cJ af - cq ae - om
def dw (d:Bs) (p ae af om:Int):Bs × Int:=if e9 ae af=true\/cp ae af om < 0 then ([],6) else if (d.length:Int) < p+cp ae af om then ([],2) else (bH d p (cp ae af om),0)
theorem Bf {n:Int} (h:0<=n/\n<=255):0<=cJ n/\cJ n<=32:=by unfold cJ; split <;> omega
theorem lD (ae:Int):0<=cq ae/\cq ae<=8:=by unfold cq; split <;> (try split) <;> (try split) <;> omega
theorem HB {d:Bs} {p ae af om:Int} (h:d.length<=1000000) (h0:0<=p) (h1:p<=d.length) (hae:0<=ae/\ae < 4) (hp:0<=af/\af<=255) (ho:0<=om/\om<=255) :
  ∃ r,pf (gu d p false,ae,af,om,())=some (((dw d p ae af om).1,(dw d p ae af om).2,()),(r,()))/\((dw d p ae af om).2=0->r=gu d (p+cp ae af om) false/\0<=cp ae af om/\p+cp ae af om<=d.length):=by
 have hl:=Bf hp;have hb:=lD ae;rw [cB2,wb,aa,ab hae,JY (by omega),aa];change ∃ r,(if decide (af < fg ae)=true then _ else (if decide (eY ae < af)=true then _ else (if decide (IntKind.wrap .i64 (IntKind.wrap .i64 (cJ af - cq ae) - om) < 0)=true then _ else ((ms (gu d p false,IntKind.wrap .i64 (IntKind.wrap .i64 (cJ af - cq ae) - om),())).bind fun r3=>(if r3.2.1.aV then some ((([]:at1),2,()),(r3.2.1,())) else some ((r3.1.1,0,()),(r3.2.1,())))))))=_/\_;rw [bL (x:=cJ af - cq ae) (by omega) (by omega),bL (by omega) (by omega)];unfold dw e9;by_cases c1:af < fg ae
 ·have e:(!decide (fg ae<=af/\af<=eY ae))=true:=by simp; omega
  rw [bP c1,ab (.inl e)]; exact ⟨_,rfl,fun h=>by cases h⟩
 by_cases c2:eY ae < af
 ·have e:(!decide (fg ae<=af/\af<=eY ae))=true:=by simp; omega
  rw [bN c1,bP c2,ab (.inl e)]; exact ⟨_,rfl,fun h=>by cases h⟩
 have e:¬(!decide (fg ae<=af/\af<=eY ae))=true:=by simp; omega
 rw [bN c1,bN c2];have er:cJ af - cq ae - om=cp ae af om:=rfl;rw [er];by_cases c3:cp ae af om < 0
 ·rw [bP c3,ab (.inr c3)]; exact ⟨_,rfl,fun h=>by cases h⟩
 ·rw [bN c3,ac (fun h=>h.elim e c3)];by_cases c4:(d.length:Int) < p+cp ae af om
  ·rw [ab c4,I5 h h0 h1 (.inr (.inr c4)),aa]; exact ⟨_,rfl,fun h=>by cases h⟩
  ·rw [ac c4,A5 h h0 (by omega) (by omega),aa]; exact ⟨_,rfl,fun _=>⟨rfl,by omega,by omega⟩⟩
theorem DP {d:Bs} {p:Int} (h:d.length<=1000000) (h0:0<=p) (h1:p<=d.length):∃ r,pa (gu d p false,())=some (bY (dR (d.drop p.toNat)),(r,())):=by
 have e:bH d p ((d.length:Int) - p)=d.drop p.toNat:=by
  unfold bH;rw [show (p+((d.length:Int) - p)).toNat=d.length by omega,List.take_length]
 rw [cU2,wt (uv h h0 h1),aa];dsimp only;rw [A5 h h0 (by omega) (by omega),aa];dsimp only;rw [e,rB (by simp; omega)];exact ⟨_,rfl⟩
def dY (ae:Int) (b:Bs) (af:Int):Bs:=cT (if ae=3 then ez++fE b 8 else fE b (cA ae)) af
theorem gF (s:Bs) (n:Int):(fE s n).length=max s.length n.toNat:=by unfold fE; simp; omega
theorem Q7 {ae af:Int} {b:Bs} (hae:0<=ae/\ae < 4) (hp:IntKind.has .i64 af) (hb:b.length<=1000) (h3:ae=3->b.length<=8):qg (ae,b,af,())=some ((dY ae b af,()),()):=by
 rw [e66,wb,aa,ab hae];change ((my (b,IntKind.wrap .i64 (cA ae - cq ae),())).bind _)=_;have hsz:0<=cA ae/\cA ae<=16:=by unfold cA; split <;> (try split) <;> (try split) <;> omega
 have hbs:=lD ae;rw [bL (by omega) (by omega),vf (by omega),aa];unfold dY;refine bR (fun h=>?_) (fun h=>?_)
 ·subst h;have e:cA 3 - cq 3=8:=rfl;rw [e,sK,aa,ab rfl];have hl:fc (fE b 8)=(ez++fE b 8,true):=by unfold fc; rw [ab (by rw [gF]; have:=h3 rfl; omega)]
  rw [hl,nA (by simp [gF,ez]; omega) hp,aa]
 ·have e:cA ae - cq ae=cA ae:=by
   rcases jq hae with rfl | rfl | rfl | rfl
   ·rfl
   ·rfl
   ·rfl
   ·exact absurd rfl h
  rw [e,ac h,nA (by rw [gF]; omega) hp]; rfl
theorem ze {ae af:Int} {b:Bs} (hae:0<=ae/\ae < 4) (hb:b.length<=1000) (h0:ae=0->b=[]) (h3:ae=3->b.length<=8):oX (ae,b,af,())=some ((dY ae b af,()),()):=by
 rw [e65];unfold dY;rcases jq hae with rfl | rfl | rfl | rfl
 ·rw [h0 rfl]; rfl
 ·rw [ab (by decide),Ci (by omega),aa,p7 (by rw [gF]; omega)]; rfl
 ·rw [ac (by decide),ab (by decide),Ci (by omega),aa,p7 (by rw [gF]; omega)]; rfl
 ·have hl:fc (fE b 8)=(ez++fE b 8,true):=by unfold fc; rw [ab (by rw [gF]; have:=h3 rfl; omega)]
  rw [ac (by decide),ac (by decide),ab (by decide),Ci (by omega),aa,B0,hl,aa,p7 (by simp [gF,ez]; omega)]; rfl
def iE (ty:Int) (d:Bs):bD × Bool × Int:=
 if (d.length:Int) < (if ty=10 then 14 else 2) then (gD,false,2)
 else if 3 < bt d 0 then (gD,false,0)
 else
  let p:Int:=if ty=10 then 14 else 2
  let b:=dw d p (bt d 0) (bt d 1) 0
  if b.2≠0 then (gD,false,b.2)
  else
   let x:=dR (d.drop (p+cp (bt d 0) (bt d 1) 0).toNat)
   if x.2.2≠0\/x.2.1=false then (gD,false,x.2.2)
   else if ty=10 then (if bt d 0=0\/bt d 4=0 then (gD,false,0) else (⟨13,0,0,[],0,bt d 0,dY (bt d 0) b.1 (bt d 1),bt d 1,0,[],0,bH d 6 8,b5 (bH d 2 2),0,0,0,bt d 4,0,0,[],[],[],0,[],x.1⟩,true,0))
   else (⟨12,0,0,[],0,bt d 0,dY (bt d 0) b.1 (bt d 1),bt d 1,0,[],0,[],0,0,0,0,0,0,0,[],[],[],0,[],x.1⟩,true,0)
theorem oy {ae af:Int} (hae:0<=ae/\ae < 4) (hg:e9 ae af=false):0<=cp ae af 0/\cp ae af 0<=16/\(ae=0->cp ae af 0=0)/\(ae=3->cp ae af 0<=8)/\(0<=af/\af<=128):=by
 unfold e9 at hg;have hp:fg ae<=af/\af<=eY ae:=by simpa using hg
 obtain ⟨h1,h2,h3,h4,h5,h6⟩:=kp hae hp;unfold cp;refine ⟨by omega,by omega,fun h=>?_,fun h=>?_,h4,h5⟩
 ·subst h; have:cA 0=0:=rfl; omega
 ·subst h; have:cA 3=16:=rfl; have:cq 3=8:=rfl; omega
theorem Jn {d:Bs} {p ae af:Int} (hae:0<=ae/\ae < 4) (h0:0<=p) (h:(dw d p ae af 0).2=0):(dw d p ae af 0).1=bH d p (cp ae af 0)/\e9 ae af=false/\p+cp ae af 0<=d.length/\((dw d p ae af 0).1.length:Int)=cp ae af 0:=by
 unfold dw at h |-;split at h
 ·cases h
 ·rename_i hg;have hg':e9 ae af=false:=by
   cases hx:e9 ae af with
   | false=>rfl
   | true=>exact absurd (.inl hx) hg
  have:=oy hae hg';split at h
  ·cases h
  ·rename_i hl;rw [ac hg,ac hl];exact ⟨rfl,hg',by omega,ew h0 (by omega) (by omega)⟩
theorem JF {d:Bs} {p ae af om:Int} (h:e9 ae af=true):dw d p ae af om=([],6):=by unfold dw; rw [ab (.inl h)]
theorem HJ {d:Bs} {p ae af om:Int} (h:e9 ae af=false) (h0:0<=cp ae af om) (h2:(d.length:Int) < p+cp ae af om):dw d p ae af om=([],2):=by
 unfold dw; rw [h,ac (by simp; omega),ab h2]
theorem sM {d:Bs} {p ae af om:Int} (h:e9 ae af=false) (h0:0<=cp ae af om) (h2:¬(d.length:Int) < p+cp ae af om):dw d p ae af om=(bH d p (cp ae af om),0):=by
 unfold dw; rw [h,ac (by simp; omega),ac h2]
theorem lW {d:Bs} {p:Nat} {q:Int} (hq:q=p) (h:p+1<=d.length):b5 (bH d q 1)=bt d p:=by subst hq; exact lJ h
theorem Te {ty at_:Int} {d:Bs} (hd:d.length<=1000) (ht:ty=9\/ty=10):tI (⟨ty,at_,d⟩,())=some (bY (iE ty d),()):=by
 have b0:=cw d 0;have b1:=cw d 1;have b4:=cw d 4;have nw:=mf d;rw [eA3];dsimp only;rw [nw,aa];dsimp only;rcases ht with rfl | rfl
 ·by_cases hl:(d.length:Int) < 2
  ·obtain ⟨v1,q1,c1,e1,k1,k2,k3,k4⟩:=i0 (d:=d) (p:=0) (n:=1) (b:=false) (by omega) (by omega) (by omega) (by omega);obtain ⟨v2,q2,c2,e2,l1,l2,l3,l4⟩:=i0 (d:=d) (p:=q1) (n:=1) (b:=c1) (by omega) k1 k2 (by omega);have hc:c2=true:=by
    cases c2 with
    | true=>rfl
    | false=>
     obtain ⟨rfl,g2⟩:=l3 rfl;obtain ⟨_,g3⟩:=k3 rfl;omega
   rw [e1,aa]; dsimp only;rw [e2,aa]; dsimp only;rw [ac (show ¬((9:Int)==10)=true by decide),ab hc];unfold iE;rw [ac (show ¬(9:Int)=10 by decide),ab hl]
  ·rw [mo (by omega) (by omega) (by omega) (by omega),aa]; dsimp only;rw [mo (by omega) (by omega) (by omega) (by omega),aa]; dsimp only;rw [ac (show ¬((9:Int)==10)=true by decide),cV,lW (p:=0) (q:=0) rfl (by omega),lW (p:=1) (q:=0+1) rfl (by omega)];unfold iE;rw [ac (show ¬(9:Int)=10 by decide),ac hl];by_cases ha:3 < bt d 0
   ·rw [bP ha,ab ha]
   ·have hae:0<=bt d 0/\bt d 0 < 4:=by omega
    rw [bN ha,ac ha];obtain ⟨r,e3,e4⟩:=HB (d:=d) (p:=0+1+1) (ae:=bt d 0) (af:=bt d 1) (om:=0) (by omega) (by omega) (by omega) hae (by omega) (by omega);rw [e3,aa];dsimp only;rw [show (0:Int)+1+1=2 from rfl] at e4 |-;by_cases hp:(dw d 2 (bt d 0) (bt d 1) 0).2=0
    ·obtain ⟨f1,f2,f3,f4⟩:=Jn hae (by omega) hp;have f5:=oy hae f2;obtain ⟨rfl,g1,g2⟩:=e4 hp;obtain ⟨r',e5⟩:=DP (d:=d) (p:=2+cp (bt d 0) (bt d 1) 0) (by omega) (by omega) g2;rw [hp,ac (show ¬((0:Int) != 0)=true by decide),ac (show ¬(0:Int)≠0 by decide),e5,aa];dsimp only [bY];rw [Q7 hae (cx.2 (by omega)) (by omega) (by omega),aa];generalize dR (d.drop (2+cp (bt d 0) (bt d 1) 0).toNat)=x;obtain ⟨x1,x2,x3⟩:=x;dsimp only;by_cases hx:x3=0
     ·subst hx;cases x2
      ·rfl
      ·rfl
     ·rw [ab (show (x3 != 0)=true by simp [hx]),ab (.inl hx)]
    ·rw [ab (show ((dw d 2 (bt d 0) (bt d 1) 0).2 != 0)=true by simp [hp]),ab hp]
 ·by_cases hl:(d.length:Int) < 14
  ·obtain ⟨v1,q1,c1,e1,k1,k2,k3,k4⟩:=i0 (d:=d) (p:=0) (n:=1) (b:=false) (by omega) (by omega) (by omega) (by omega);obtain ⟨v2,q2,c2,e2,l1,l2,l3,l4⟩:=i0 (d:=d) (p:=q1) (n:=1) (b:=c1) (by omega) k1 k2 (by omega);obtain ⟨v3,q3,c3,e3,m1,m2,m3,m4⟩:=i0 (d:=d) (p:=q2) (n:=2) (b:=c2) (by omega) l1 l2 (by omega);obtain ⟨v4,q4,c4,e4,n1,n2,n3,n4⟩:=i0 (d:=d) (p:=q3) (n:=1) (b:=c3) (by omega) m1 m2 (by omega);obtain ⟨v5,q5,c5,e5,o1,o2,o3,o4⟩:=i0 (d:=d) (p:=q4) (n:=1) (b:=c4) (by omega) n1 n2 (by omega);obtain ⟨v6,q6,c6,e6,p1,p2,p3⟩:=g02 (d:=d) (p:=q5) (n:=8) (b:=c5) (by omega) o1 o2 (by omega);have hc:c6=true:=by
    cases c6 with
    | true=>rfl
    | false=>
     obtain ⟨rfl,g2⟩:=p3 rfl;obtain ⟨rfl,g3⟩:=o3 rfl;obtain ⟨rfl,g4⟩:=n3 rfl;obtain ⟨rfl,g5⟩:=m3 rfl;obtain ⟨rfl,g6⟩:=l3 rfl;obtain ⟨_,g7⟩:=k3 rfl;omega
   rw [e1,aa]; dsimp only;rw [e2,aa]; dsimp only;rw [ab (show ((10:Int)==10)=true from rfl),e3,aa]; dsimp only;rw [e4,aa]; dsimp only;rw [e5,aa]; dsimp only;rw [e6,aa]; dsimp only;rw [ab hc];unfold iE;rw [ab (show (10:Int)=10 from rfl),ab hl]
  ·rw [mo (by omega) (by omega) (by omega) (by omega),aa]; dsimp only;rw [mo (by omega) (by omega) (by omega) (by omega),aa]; dsimp only;rw [ab (show ((10:Int)==10)=true from rfl),mo (by omega) (by omega) (by omega) (by omega),aa]; dsimp only;rw [mo (by omega) (by omega) (by omega) (by omega),aa]; dsimp only;rw [mo (by omega) (by omega) (by omega) (by omega),aa]; dsimp only;rw [A5 (by omega) (by omega) (by omega) (by omega),aa]; dsimp only;rw [cV,lW (p:=0) (q:=0) rfl (by omega),lW (p:=1) (q:=0+1) rfl (by omega),lW (p:=4) (q:=0+1+1+2) rfl (by omega)];unfold iE;rw [ab (show (10:Int)=10 from rfl),ac hl];by_cases ha:3 < bt d 0
   ·rw [bP ha,ab ha]
   ·have hae:0<=bt d 0/\bt d 0 < 4:=by omega
    rw [bN ha,ac ha];obtain ⟨r,e3,e4⟩:=HB (d:=d) (p:=0+1+1+2+1+1+8) (ae:=bt d 0) (af:=bt d 1) (om:=0) (by omega) (by omega) (by omega) hae (by omega) (by omega);rw [e3,aa];dsimp only;rw [show (0:Int)+1+1+2+1+1+8=14 from rfl] at e4 |-;by_cases hp:(dw d 14 (bt d 0) (bt d 1) 0).2=0
    ·obtain ⟨f1,f2,f3,f4⟩:=Jn hae (by omega) hp;have f5:=oy hae f2;obtain ⟨rfl,g1,g2⟩:=e4 hp;obtain ⟨r',e5⟩:=DP (d:=d) (p:=14+cp (bt d 0) (bt d 1) 0) (by omega) (by omega) g2;rw [hp,ac (show ¬((0:Int) != 0)=true by decide),ac (show ¬(0:Int)≠0 by decide),e5,aa];dsimp only [bY];rw [Q7 hae (cx.2 (by omega)) (by omega) (by omega),aa];generalize dR (d.drop (14+cp (bt d 0) (bt d 1) 0).toNat)=x;obtain ⟨x1,x2,x3⟩:=x;dsimp only;by_cases hx:x3=0
     ·subst hx;cases x2
      ·rfl
      ·rw [ac (show ¬((0:Int) != 0)=true by decide),b7,ac (show ¬((0:Int)≠0\/true=false) by decide),ab (show ((10:Int)==10)=true from rfl),ab (show (10:Int)=10 from rfl)];by_cases h0:bt d 0=0
       ·rw [ab (show (bt d 0==0)=true by simp [h0]),ab (show bt d 0=0\/bt d 4=0 from .inl h0)]
       ·rw [ac (show ¬(bt d 0==0)=true by simp [h0])];by_cases h4:bt d 4=0
        ·rw [ab (show (bt d 4==0)=true by simp [h4]),ab (show bt d 0=0\/bt d 4=0 from .inr h4)]
        ·rw [ac (show ¬(bt d 4==0)=true by simp [h4]),ac (show ¬(bt d 0=0\/bt d 4=0) from fun h=>h.elim h0 h4)]
         rfl
     ·rw [ab (show (x3 != 0)=true by simp [hx]),ab (.inl hx)]
    ·rw [ab (show ((dw d 14 (bt d 0) (bt d 1) 0).2 != 0)=true by simp [hp]),ab hp]
theorem Gu {ae af:Int} (hae:0<=ae/\ae < 4) (hp:0<=af):qe (ae,af,())=some ((e9 ae af,()),()):=by
 rw [e63];unfold e9;rcases jq hae with rfl | rfl | rfl | rfl
 ·rw [ab (by decide)];have:(af != 0)=!decide (fg 0<=af/\af<=eY 0):=by rw [Bool.eq_iff_iff]; show (af != 0)=true↔(!decide (0<=af/\af<=0))=true; simp; omega
  rw [this]
 ·rw [ac (by decide),ab (by decide)];have:decide (32 < af)=!decide (fg 1<=af/\af<=eY 1):=by rw [Bool.eq_iff_iff]; show decide (32 < af)=true↔(!decide (0<=af/\af<=32))=true; simp; omega
  rw [this]
 ·rw [ac (by decide),ac (by decide),ab (by decide)];have:decide (128 < af)=!decide (fg 2<=af/\af<=eY 2):=by rw [Bool.eq_iff_iff]; show decide (128 < af)=true↔(!decide (0<=af/\af<=128))=true; simp; omega
  rw [this]
 ·rw [ac (by decide),ac (by decide),ac (by decide)];have e:(!decide (fg 3<=af/\af<=eY 3))=(decide (128 < af) || decide (af < 64)):=by rw [Bool.eq_iff_iff]; show (!decide (64<=af/\af<=128))=true↔_; simp; omega
  rw [e];cases decide (128 < af) <;> rfl
theorem mi {d:Bs} {i:Nat} (h:i < d.length):IntKind.wrap .i64 ((d[i].toNat:Nat):Int)=bt d i:=by
 rw [eO]; simp [bt,List.getElem?_eq_getElem h]
theorem Og {ty at_:Int} {d:Bs} (hd:d.length<=1000) (ht:ty=9\/ty=10):up (⟨ty,at_,d⟩,())=some (bY (iE ty d),()):=by
 have b0:=cw d 0;have b1:=cw d 1;have b4:=cw d 4;rw [eA8];dsimp only;rcases ht with rfl | rfl
 ·rw [ac (show ¬((9:Int)==10)=true by decide)];unfold iE;by_cases hl:(d.length:Int) < 2
  ·rw [bP hl,ac (show ¬(9:Int)=10 by decide),ab hl]
  ·rw [bN hl,ac (show ¬(9:Int)=10 by decide),ac hl,ck (show 0 < d.length by omega),ck (show 1 < d.length by omega),mi (show 0 < d.length by omega),mi (show 1 < d.length by omega)];by_cases ha:3 < bt d 0
   ·rw [bP ha,ab ha]
   ·have hae:0<=bt d 0/\bt d 0 < 4:=by omega
    have hl2:=Bf (n:=bt d 1) (by omega);have hb2:=lD (bt d 0);rw [bN ha,ac ha,Gu hae b1.1,aa];dsimp only;cases hg:e9 (bt d 0) (bt d 1) with
    | true=>rw [cQ,JF hg]; rfl
    | false=>
     have hr:=oy hae hg;have er:cJ (bt d 1) - cq (bt d 0)=cp (bt d 0) (bt d 1) 0:=by unfold cp; omega
     rw [cV,wT (by omega),aa,oj hae,aa];dsimp only;rw [bL (x:=cJ (bt d 1) - cq (bt d 0)) (by omega) (by omega),er,bL (x:=2+cp (bt d 0) (bt d 1) 0) (by omega) (by omega)];by_cases hs:(d.length:Int) < 2+cp (bt d 0) (bt d 1) 0
     ·rw [bP hs,HJ hg hr.1 hs]; rfl
     ·have hcl:=ew (s:=d) (p:=2) (n:=cp (bt d 0) (bt d 1) 0) (by omega) (by omega) (by omega);have ec:(d.take (2+cp (bt d 0) (bt d 1) 0).toNat).drop 2=bH d 2 (cp (bt d 0) (bt d 1) 0):=rfl;rw [bN hs,sM hg hr.1 hs,ab (by omega),mR (by simp; omega),aa,ec,ze hae (by omega) (fun h=>List.length_eq_zero_iff.1 (by have:=hr.2.2.1 h; omega)) (fun h=>by have:=hr.2.2.2.1 h; omega),aa];dsimp only [bY];rw [ac (show ¬(0:Int)≠0 by decide)];generalize dR (d.drop (2+cp (bt d 0) (bt d 1) 0).toNat)=x;obtain ⟨x1,x2,x3⟩:=x;dsimp only;by_cases hx:x3=0
      ·subst hx;cases x2
       ·rfl
       ·rw [ac (show ¬((0:Int) != 0)=true by decide),b7,ab (by omega)]; rfl
      ·rw [ab (show (x3 != 0)=true by simp [hx]),ab (.inl hx)]
 ·rw [ab (show ((10:Int)==10)=true from rfl)];unfold iE;by_cases hl:(d.length:Int) < 14
  ·rw [bP hl,ab (show (10:Int)=10 from rfl),ab hl]
  ·rw [bN hl,ab (show (10:Int)=10 from rfl),ac hl,ck (show 0 < d.length by omega),ck (show 1 < d.length by omega),mi (show 0 < d.length by omega),mi (show 1 < d.length by omega)];by_cases ha:3 < bt d 0
   ·rw [bP ha,ab ha]
   ·have hae:0<=bt d 0/\bt d 0 < 4:=by omega
    have hl2:=Bf (n:=bt d 1) (by omega);have hb2:=lD (bt d 0);rw [bN ha,ac ha,Gu hae b1.1,aa];dsimp only;cases hg:e9 (bt d 0) (bt d 1) with
    | true=>rw [cQ,JF hg]; rfl
    | false=>
     have hr:=oy hae hg;have er:cJ (bt d 1) - cq (bt d 0)=cp (bt d 0) (bt d 1) 0:=by unfold cp; omega
     rw [cV,wT (by omega),aa,oj hae,aa];dsimp only;rw [bL (x:=cJ (bt d 1) - cq (bt d 0)) (by omega) (by omega),er,bL (x:=14+cp (bt d 0) (bt d 1) 0) (by omega) (by omega)];by_cases hs:(d.length:Int) < 14+cp (bt d 0) (bt d 1) 0
     ·rw [bP hs,HJ hg hr.1 hs]; rfl
     ·have hcl:=ew (s:=d) (p:=14) (n:=cp (bt d 0) (bt d 1) 0) (by omega) (by omega) (by omega);have ec:(d.take (14+cp (bt d 0) (bt d 1) 0).toNat).drop 14=bH d 14 (cp (bt d 0) (bt d 1) 0):=rfl;have n22:dh (bH d 2 2,())=some ((b5 (bH d 2 2),()),()):=lj (by have:=ew (s:=d) (p:=2) (n:=2) (by omega) (by omega) (by omega); omega);have c24:(d.take 4).drop 2=bH d 2 2:=nk (p:=2) (n:=2) (q:=4) rfl;have c68:(d.take 14).drop 6=bH d 6 8:=nk (p:=6) (n:=8) (q:=14) rfl;rw [bN hs,sM hg hr.1 hs,ab (by omega),mR (by simp; omega),aa,ec,ze hae (by omega) (fun h=>List.length_eq_zero_iff.1 (by have:=hr.2.2.1 h; omega)) (fun h=>by have:=hr.2.2.2.1 h; omega),aa,c24,n22,aa,ck (show 4 < d.length by omega),mi (show 4 < d.length by omega),c68];dsimp only [bY];rw [ac (show ¬(0:Int)≠0 by decide)];generalize dR (d.drop (14+cp (bt d 0) (bt d 1) 0).toNat)=x;obtain ⟨x1,x2,x3⟩:=x;dsimp only;by_cases hx:x3=0
      ·subst hx;cases x2
       ·rfl
       ·rw [ac (show ¬((0:Int) != 0)=true by decide),b7,ac (show ¬((0:Int)≠0\/true=false) by decide),ab (show 0<=(14:Int)/\(14:Int)<=14+cp (bt d 0) (bt d 1) 0/\14+cp (bt d 0) (bt d 1) 0<=(d.length:Int) by omega),ab (show ((10:Int)==10)=true from rfl),ab (show (10:Int)=10 from rfl),ab (show 0<=(2:Int)/\(2:Int)<=(4:Int)/\(4:Int)<=(d.length:Int) by omega),ab (show 0<=(6:Int)/\(6:Int)<=(14:Int)/\(14:Int)<=(d.length:Int) by omega)];by_cases h0:bt d 0=0
        ·rw [ab (show (bt d 0==0)=true by simp [h0]),ab (show bt d 0=0\/bt d 4=0 from .inl h0)]
        ·rw [ac (show ¬(bt d 0==0)=true by simp [h0])];by_cases h4:bt d 4=0
         ·rw [ab (show (bt d 4==0)=true by simp [h4]),ab (show bt d 0=0\/bt d 4=0 from .inr h4)]
         ·rw [ac (show ¬(bt d 4==0)=true by simp [h4]),ac (show ¬(bt d 0=0\/bt d 4=0) from fun h=>h.elim h0 h4)]
      ·rw [ab (show (x3 != 0)=true by simp [hx]),ab (.inl hx)]
end Go.VP
namespace Go.VP
open Go Go.VI
def cC (d:Bs):jf × Bool × Int:=
 if (d.length:Int) < 10 then (oe,false,2)
 else if 3 < bt d 0 then (oe,false,0)
 else
  let b:=dw d 10 (bt d 0) (bt d 2) (bt d 3)
  if b.2≠0 then (oe,false,b.2)
  else
   let x:=dR (d.drop (10+cp (bt d 0) (bt d 2) (bt d 3)).toNat)
   if x.2.2≠0 then (oe,false,x.2.2)
   else (⟨bt d 0,bt d 1,bt d 2,bt d 3,b5 (bH d 4 2),b5 (bH d 6 2),b5 (bH d 8 2),if x.2.1 then 1 else 0,b.1,x.1⟩,true,0)
theorem fU1 {ty at_:Int} {d:Bs} (hd:d.length<=1000):AY (⟨ty,at_,d⟩,())=some (bY (cC d),()):=by
 have b0:=cw d 0;have b2:=cw d 2;have b3:=cw d 3;obtain ⟨c,hc⟩:=xq;have f4:fuel=(c+999999999995)+5:=by omega
 have f3:fuel=(c+999999999996)+4:=by omega
 have nw:=mf d;have st0:∀ (k:Nat) (a b e f:Int) (s:Bs) (p q:Int) (x:Bool) (i:Int),i < 4->True:=fun _ _ _ _ _ _ _ _ _ _ _=>trivial
 obtain ⟨v1,q1,c1,e1,j1,k1,l1,_⟩:=i0 (d:=d) (p:=0) (n:=1) (b:=false) (by omega) (by omega) (by omega) (by omega);obtain ⟨v2,q2,c2,e2,j2,k2,l2,_⟩:=i0 (d:=d) (p:=q1) (n:=1) (b:=c1) (by omega) j1 k1 (by omega);obtain ⟨v3,q3,c3,e3,j3,k3,l3,_⟩:=i0 (d:=d) (p:=q2) (n:=1) (b:=c2) (by omega) j2 k2 (by omega);obtain ⟨v4,q4,c4,e4,j4,k4,l4,_⟩:=i0 (d:=d) (p:=q3) (n:=1) (b:=c3) (by omega) j3 k3 (by omega);obtain ⟨v5,q5,c5,e5,j5,k5,l5,_⟩:=i0 (d:=d) (p:=q4) (n:=2) (b:=c4) (by omega) j4 k4 (by omega);obtain ⟨v6,q6,c6,e6,j6,k6,l6,_⟩:=i0 (d:=d) (p:=q5) (n:=2) (b:=c5) (by omega) j5 k5 (by omega);obtain ⟨v7,q7,c7,e7,j7,k7,l7,_⟩:=i0 (d:=d) (p:=q6) (n:=2) (b:=c6) (by omega) j6 k6 (by omega);have w1:∀ i:Int,0<=i->i < 100->IntKind.wrap .i64 (i+1)=i+1:=fun i h0 h1=>bL (by omega) (by omega)
 have run:AY (⟨ty,at_,d⟩,())=(if c7 then some ((oe,false,2,()),()) else (if decide (3 < v1) then some ((oe,false,0,()),()) else ((pf (gu d q7 c7,v1,v3,v4,())).bind fun r9=>(if r9.1.2.1 != 0 then some ((oe,false,r9.1.2.1,()),()) else ((pa (r9.2.1,())).bind fun r10=>(if r10.1.2.2.1 != 0 then some ((oe,false,r10.1.2.2.1,()),()) else (if r10.1.2.1 then some (((eg.mk v1 v2 v3 v4 v5 v6 v7 1 r9.1.1 r10.1.1),true,0,()),()) else some (((eg.mk v1 v2 v3 v4 v5 v6 v7 0 r9.1.1 r10.1.1),true,0,()),())))))))):=by
  show JG fuel _=_;rw [el9];dsimp only;rw [nw,aa];dsimp only;have z:∀ n:Nat,na n fuel 0 0 0 0 d 0 d.length false 0=na n ((c+999999999995)+5) 0 0 0 0 d 0 d.length false 0:=fun n=>by rw [<- f4]
  have z2:∀ n:Nat,pF n fuel v1 v2 v3 v4 0 0 0 d q4 d.length c4 0=pF n ((c+999999999996)+4) v1 v2 v3 v4 0 0 0 d q4 d.length c4 0:=fun n=>by rw [<- f3]
  rw [z,un,ab (show decide ((0:Int) < 4)=true from rfl),ab (show (0:Int)=0 from rfl),e1,aa,w1 0 (by omega) (by omega)];dsimp only;rw [un,ab (show decide ((0:Int)+1 < 4)=true from rfl),ac (show ¬(0:Int)+1=0 by decide),ab (show (0:Int)+1=1 from rfl),e2,aa,w1 (0+1) (by omega) (by omega)];dsimp only;rw [un,ab (show decide ((0:Int)+1+1 < 4)=true from rfl),ac (show ¬(0:Int)+1+1=0 by decide),ac (show ¬(0:Int)+1+1=1 by decide),ab (show (0:Int)+1+1=2 from rfl),e3,aa,w1 (0+1+1) (by omega) (by omega)];dsimp only;rw [un,ab (show decide ((0:Int)+1+1+1 < 4)=true from rfl),ac (show ¬(0:Int)+1+1+1=0 by decide),ac (show ¬(0:Int)+1+1+1=1 by decide),ac (show ¬(0:Int)+1+1+1=2 by decide),ab (show (0:Int)+1+1+1=3 from rfl),e4,aa,w1 (0+1+1+1) (by omega) (by omega)];dsimp only;rw [un,ac (show ¬decide ((0:Int)+1+1+1+1 < 4)=true by decide),z2,BB,ab (show decide ((0:Int) < 3)=true from rfl),ab (show (0:Int)=0 from rfl),e5,aa,w1 0 (by omega) (by omega)];dsimp only;rw [BB,ab (show decide ((0:Int)+1 < 3)=true from rfl),ac (show ¬(0:Int)+1=0 by decide),ab (show (0:Int)+1=1 from rfl),e6,aa,w1 (0+1) (by omega) (by omega)];dsimp only;rw [BB,ab (show decide ((0:Int)+1+1 < 3)=true from rfl),ac (show ¬(0:Int)+1+1=0 by decide),ac (show ¬(0:Int)+1+1=1 by decide),ab (show (0:Int)+1+1=2 from rfl),e7,aa,w1 (0+1+1) (by omega) (by omega)];dsimp only;rw [BB,ac (show ¬decide ((0:Int)+1+1+1 < 3)=true by decide)]
 rw [run];unfold cC;by_cases hl:(d.length:Int) < 10
 ·have hc7:c7=true:=by
   cases c7 with
   | true=>rfl
   | false=>
    obtain ⟨rfl,g7⟩:=l7 rfl;obtain ⟨rfl,g6⟩:=l6 rfl;obtain ⟨rfl,g5⟩:=l5 rfl;obtain ⟨rfl,g4⟩:=l4 rfl;obtain ⟨rfl,g3⟩:=l3 rfl;obtain ⟨rfl,g2⟩:=l2 rfl;obtain ⟨_,g1⟩:=l1 rfl;omega
  rw [ab hc7,ab hl]
 ·
  have one:∀ {p n v q:Int} {c:Bool},gS (gu d p false,n,())=some ((v,()),(gu d q c,()))->0<=p->(1<=n/\n<=7)->p+n<=d.length->v=b5 (bH d p n)/\q=p+n/\c=false:=by
   intro p n v q c h h0 hn hl;rw [mo (by omega) h0 hn hl] at h;simp only [Option.some.injEq,Prod.mk.injEq,and_true,eX.mk.injEq,true_and] at h;exact ⟨h.1.symm,h.2.1.symm,h.2.2.symm⟩
  obtain ⟨rfl,rfl,rfl⟩:=one e1 (by omega) (by omega) (by omega);obtain ⟨rfl,rfl,rfl⟩:=one e2 (by omega) (by omega) (by omega);obtain ⟨rfl,rfl,rfl⟩:=one e3 (by omega) (by omega) (by omega);obtain ⟨rfl,rfl,rfl⟩:=one e4 (by omega) (by omega) (by omega);obtain ⟨rfl,rfl,rfl⟩:=one e5 (by omega) (by omega) (by omega);obtain ⟨rfl,rfl,rfl⟩:=one e6 (by omega) (by omega) (by omega);obtain ⟨rfl,rfl,rfl⟩:=one e7 (by omega) (by omega) (by omega);rw [cV,ac hl,lW (p:=0) (q:=0) rfl (by omega),lW (p:=1) (q:=0+1) rfl (by omega),lW (p:=2) (q:=0+1+1) rfl (by omega),lW (p:=3) (q:=0+1+1+1) rfl (by omega)];by_cases ha:3 < bt d 0
  ·rw [bP ha,ab ha]
  ·have hae:0<=bt d 0/\bt d 0 < 4:=by omega
   obtain ⟨r,e3,e4⟩:=HB (d:=d) (p:=0+1+1+1+1+2+2+2) (ae:=bt d 0) (af:=bt d 2) (om:=bt d 3) (by omega) (by omega) (by omega) hae (by omega) (by omega);rw [bN ha,ac ha,e3,aa];dsimp only;rw [show (0:Int)+1+1+1+1+2+2+2=10 from rfl] at e4 |-;by_cases hp:(dw d 10 (bt d 0) (bt d 2) (bt d 3)).2=0
   ·obtain ⟨rfl,g1,g2⟩:=e4 hp;obtain ⟨r',e5⟩:=DP (d:=d) (p:=10+cp (bt d 0) (bt d 2) (bt d 3)) (by omega) (by omega) g2;rw [hp,ac (show ¬((0:Int) != 0)=true by decide),ac (show ¬(0:Int)≠0 by decide),e5,aa];dsimp only [bY];generalize dR (d.drop (10+cp (bt d 0) (bt d 2) (bt d 3)).toNat)=x;obtain ⟨x1,x2,x3⟩:=x;dsimp only;by_cases hx:x3=0
    ·subst hx;cases x2 <;> rfl
    ·rw [ab (show (x3 != 0)=true by simp [hx]),ab hx]
   ·rw [ab (show ((dw d 10 (bt d 0) (bt d 2) (bt d 3)).2 != 0)=true by simp [hp]),ab hp]
theorem fK5 {ty at_:Int} {d:Bs} (hd:d.length<=1000):vO (⟨ty,at_,d⟩,())=some (bY (cC d),()):=by
 have b0:=cw d 0;have b2:=cw d 2;have b3:=cw d 3;rw [em2];dsimp only;unfold cC;by_cases hl:(d.length:Int) < 10
 ·rw [bP hl,ab hl]
 ·have nc:∀ p:Nat,p+2<=d.length->dh (bH d p 2,())=some ((b5 (bH d p 2),()),()):=fun p h=>lj (by have:=ew (s:=d) (p:=p) (n:=2) (by omega) (by omega) (by omega); omega)
  have n4:dh (bH d 4 2,())=some ((b5 (bH d 4 2),()),()):=nc 4 (by omega);have n6:dh (bH d 6 2,())=some ((b5 (bH d 6 2),()),()):=nc 6 (by omega);have n8:dh (bH d 8 2,())=some ((b5 (bH d 8 2),()),()):=nc 8 (by omega);have c4:(d.take 6).drop 4=bH d 4 2:=nk (p:=4) (n:=2) (q:=6) rfl;have c6:(d.take 8).drop 6=bH d 6 2:=nk (p:=6) (n:=2) (q:=8) rfl;have c8:(d.take 10).drop 8=bH d 8 2:=nk (p:=8) (n:=2) (q:=10) rfl;rw [bN hl,ac hl,ck (show 0 < d.length by omega),ck (show 1 < d.length by omega),ck (show 2 < d.length by omega),ck (show 3 < d.length by omega),mi (show 0 < d.length by omega),mi (show 1 < d.length by omega),mi (show 2 < d.length by omega),mi (show 3 < d.length by omega),ab (by omega),c4,n4,aa,ab (by omega),c6,n6,aa,ab (by omega),c8,n8,aa];by_cases ha:3 < bt d 0
  ·rw [bP ha,ab ha]
  ·have hae:0<=bt d 0/\bt d 0 < 4:=by omega
   have hl2:=Bf (n:=bt d 2) (by omega);have hb2:=lD (bt d 0);rw [bN ha,ac ha,Gu hae b2.1,aa];dsimp only;cases hg:e9 (bt d 0) (bt d 2) with
   | true=>rw [cQ,JF hg]; rfl
   | false=>
    have er:cJ (bt d 2) - cq (bt d 0) - bt d 3=cp (bt d 0) (bt d 2) (bt d 3):=rfl;have hr2:cp (bt d 0) (bt d 2) (bt d 3)<=100/\-1000<=cp (bt d 0) (bt d 2) (bt d 3):=by rw [<- er]; omega
    rw [cV,wT (by omega),aa,oj hae,aa];dsimp only;rw [bL (x:=cJ (bt d 2) - cq (bt d 0)) (by omega) (by omega),bL (x:=cJ (bt d 2) - cq (bt d 0) - bt d 3) (by omega) (by omega),er,bL (x:=10+cp (bt d 0) (bt d 2) (bt d 3)) (by omega) (by omega)];by_cases hn:cp (bt d 0) (bt d 2) (bt d 3) < 0
    ·have:dw d 10 (bt d 0) (bt d 2) (bt d 3)=([],6):=by unfold dw; rw [ab (.inr hn)]
     rw [bP hn,this]; rfl
    ·rw [bN hn];by_cases hs:(d.length:Int) < 10+cp (bt d 0) (bt d 2) (bt d 3)
     ·rw [bP hs,HJ hg (by omega) hs]; rfl
     ·have ec:(d.take (10+cp (bt d 0) (bt d 2) (bt d 3)).toNat).drop 10=bH d 10 (cp (bt d 0) (bt d 2) (bt d 3)):=rfl;rw [bN hs,sM hg (by omega) hs,ab (by omega),mR (by simp; omega),aa,ec];dsimp only [bY];rw [ac (show ¬(0:Int)≠0 by decide)];generalize dR (d.drop (10+cp (bt d 0) (bt d 2) (bt d 3)).toNat)=x;obtain ⟨x1,x2,x3⟩:=x;dsimp only;by_cases hx:x3=0
      ·subst hx;rw [ac (show ¬((0:Int) != 0)=true by decide),ab (show 0<=(10:Int)/\(10:Int)<=10+cp (bt d 0) (bt d 2) (bt d 3)/\10+cp (bt d 0) (bt d 2) (bt d 3)<=(d.length:Int) by omega)];cases x2 <;> rfl
      ·rw [ab (show (x3 != 0)=true by simp [hx]),ab hx]
end Go.VP
namespace Go.VP
open Go Go.VI
theorem Zx (b k:Nat):jc (jc b k) k=jc b k:=by
 unfold jc; rw [Nat.mul_div_cancel _ (Nat.pow_pos (by decide))]
theorem fp6 (b:UInt8) (k:Int):iq (iq b k) k=iq b k:=by
 apply UInt8.toNat.inj; rw [oV,oV,Zx]
theorem yR:∀ (s:Bs) (n:Int),cT (cT s n) n=cT s n
 | [],_=>rfl
 | b::r,n=>by simp only [cT,fp6,yR r]
theorem Ss:ez.length=8:=rfl
theorem fz1 {x:Bs} {n:Int} (h:64<=n) (hx:x.length=8):df (cT (ez++x) n)=true:=by
 rw [xb,sH (s:=ez) (by rw [Ss]; omega)];exact Qm (by rw [km]; exact hx)
theorem EO {ae af:Int} {b:Bs} (hae:0<=ae/\ae < 4) (hb:(b.length:Int)<=cA ae - cq ae):((dY ae b af).length:Int)=cA ae:=by
 unfold dY;rw [km];rcases jq hae with rfl | rfl | rfl | rfl
 ·have:(b.length:Int)<=0 - 0:=hb;rw [ac (by decide),gF]; show ((max b.length (0:Int).toNat:Nat):Int)=0; omega
 ·have:(b.length:Int)<=4 - 0:=hb;rw [ac (by decide),gF]; show ((max b.length (4:Int).toNat:Nat):Int)=4; omega
 ·have:(b.length:Int)<=16 - 0:=hb;rw [ac (by decide),gF]; show ((max b.length (16:Int).toNat:Nat):Int)=16; omega
 ·have:(b.length:Int)<=16 - 8:=hb;rw [ab rfl,List.length_append,gF,Ss]; show ((8+max b.length (8:Int).toNat:Nat):Int)=16; omega
theorem IG {af:Int} {b:Bs} (h:64<=af) (hb:b.length<=8):df (dY 3 b af)=true:=by
 unfold dY;rw [ab rfl];exact fz1 h (by rw [gF]; show max b.length 8=8; omega)
theorem ff6 {a:Bs} {n:Int} (h:cT a n=a) (h0:0<=n):a=a.take (cJ n).toNat++List.replicate (a.length - (cJ n).toNat) 0/\kz a n=a.take (cJ n).toNat:=by
 have hl:8 * cJ n ≥ n:=by unfold cJ; rw [ac (by omega)]; omega
 have hn:=H5 n;have e1:cT (a.take (cJ n).toNat) n=a.take (cJ n).toNat:=by rw [<- Tk,h]
 refine ⟨?_,e1⟩;by_cases hs:(cJ n).toNat<=a.length
 ·have e2:cT (a.drop (cJ n).toNat) (n - 8 * (a.take (cJ n).toNat).length)=a.drop (cJ n).toNat:=by
   have:=h
   conv at this=>lhs; rw [<- List.take_append_drop (cJ n).toNat a]
   rw [xb,e1] at this
   conv at this=>rhs; rw [<- List.take_append_drop (cJ n).toNat a]
   exact List.append_cancel_left this
  rw [sk (by rw [List.length_take]; omega),List.length_drop] at e2
  conv=>lhs; rw [<- List.take_append_drop (cJ n).toNat a,<- e2]
 ·rw [List.take_of_length_le (by omega),show a.length - (cJ n).toNat=0 by omega]; simp
theorem Cn {m:bD} (r:gN m):dY m.ae (cD m) m.af=m.ah:=by
 obtain ⟨l1,l2,l3,l4,l5,l6⟩:=kp r.ae r.af;obtain ⟨p1,p2⟩:=ff6 r.clean l4;have hlen:=r.len;have key:(if m.ae=3 then ez++fE (cD m) 8 else fE (cD m) (cA m.ae))=m.ah:=by
  unfold cD;rw [p2];by_cases h3:m.ae=3
  ·have hb:=r.link h3;have h16:=jD hb;have e8:cq m.ae=8:=by rw [h3]; rfl
   rw [e8] at l2;rw [ab h3,e8,<- h16.2];have tl:(m.ah.take (cJ m.af).toNat).length=(cJ m.af).toNat:=by rw [List.length_take]; omega
   have e1:m.ah.take 8=(m.ah.take (cJ m.af).toNat).take 8:=by rw [List.take_take]; congr 1; omega
   unfold fE;rw [e1,<- List.append_assoc];show List.take 8 (m.ah.take (cJ m.af).toNat)++List.drop 8 (m.ah.take (cJ m.af).toNat)++List.replicate ((8:Int).toNat - (List.drop 8 (m.ah.take (cJ m.af).toNat)).length) 0=_;rw [List.take_append_drop,List.length_drop,tl]
   conv=>rhs; rw [p1]
   congr 2;rw [h16.1];show 8 - ((cJ m.af).toNat - 8)=16 - (cJ m.af).toNat
   omega
  ·have e0:cq m.ae=0:=by
    rcases jq r.ae with h | h | h | h
    ·rw [h]; rfl
    ·rw [h]; rfl
    ·rw [h]; rfl
    ·exact absurd h h3
   rw [ac h3,e0];unfold fE;have tl:(m.ah.take (cJ m.af).toNat).length=(cJ m.af).toNat:=by rw [List.length_take]; omega
   show List.drop 0 (m.ah.take (cJ m.af).toNat)++List.replicate ((cA m.ae).toNat - (List.drop 0 (m.ah.take (cJ m.af).toNat)).length) 0=_;rw [List.drop_zero,tl]
   conv=>rhs; rw [p1]
   congr 2;omega
 unfold dY;rw [key,r.clean]
theorem WD {m:bD} (r:gN m):e9 m.ae m.af=false/\cp m.ae m.af 0=(cD m).length:=by
 have:=r.cut.2;refine ⟨by unfold e9; rw [decide_eq_true r.af]; rfl,?_⟩;unfold cp; omega
theorem ff7 {m:bD} (r:gN m):iE (if m.kind=13 then 10 else 9) (gj m++bX m.subs)=(m,true,0):=by
 obtain ⟨hr,hs⟩:=nZ r.subs;have hg:=Ht hr hs;have hbare:=r.bare;obtain ⟨l1,l2,l3,l4,l5,l6⟩:=kp r.ae r.af;obtain ⟨q1,q2⟩:=WD r;have eqm:∀ x,dv m=some x->x=m:=fun x h=>by rw [cM,h] at hbare; exact ma.1 hbare
 have uA:((bF m.ae).toNat:Int)=m.ae:=by rw [fD,ab r.ae.1]; have:=r.ae; omega
 have uP:((bF m.af).toNat:Int)=m.af:=by rw [fD,ab l4]; omega
 rcases r.kinds with hk | ⟨hk,ha,hq,hh,hi⟩
 ·have hx:=eqm _ (by unfold dv; rw [ac (by omega),ac (by omega),ac (by omega),ac (by omega),ac (by omega),ac (by omega),ac (by omega),ac (by omega),ac (by omega),ac (by omega),ac (by omega),ab hk]);have eh:gj m=bF m.ae::bF m.af::cD m:=by unfold gj; rw [ac (by omega)]
  rw [ac (show ¬m.kind=13 by omega),eh];generalize hD:(bF m.ae::bF m.af::cD m)++bX m.subs=D;have hlen:D.length=2+(cD m).length+(bX m.subs).length:=by rw [<- hD]; simp; omega
  have t0:bt D 0=m.ae:=by rw [<- hD]; exact uA
  have t1:bt D 1=m.af:=by rw [<- hD]; exact uP
  have hp:dw D 2 m.ae m.af 0=(cD m,0):=by
   rw [sM q1 (by omega) (by omega),q2];have:bH D 2 ((cD m).length:Int)=cD m:=by
    rw [<- hD];show bH ([bF m.ae,bF m.af]++(cD m++bX m.subs)) 2 _=_;rw [dS (k:=2) rfl (by omega) (by omega)];exact fT rfl
   rw [this]
  have hdr:D.drop (2+cp m.ae m.af 0).toNat=bX m.subs:=by
   rw [<- hD,q2];exact List.drop_left' (by simp; omega)
  unfold iE;rw [ac (show ¬(9:Int)=10 by decide),ac (by omega),t0,t1,ac (by have:=r.ae; omega)];dsimp only;rw [hp,hdr,hg];dsimp only;rw [ac (show ¬(0:Int)≠0 by decide),ac (show ¬((0:Int)≠0\/true=false) by decide),ac (show ¬(9:Int)=10 by decide),Cn r];rw [hk] at hx;rw [hx]
 ·have hx:=eqm _ (by unfold dv; rw [ac (by omega),ac (by omega),ac (by omega),ac (by omega),ac (by omega),ac (by omega),ac (by omega),ac (by omega),ac (by omega),ac (by omega),ac (by omega),ac (by omega),ab hk]);have uH:((bF m.hops).toNat:Int)=m.hops:=by rw [fD,ab (by omega)]; omega
  have eh:gj m=bF m.ae::bF m.af::(be 2 m.seq++(bF m.hops::0::(m.id++cD m))):=by unfold gj; rw [ab hk]
  rw [ab hk,eh];generalize hD:(bF m.ae::bF m.af::(be 2 m.seq++(bF m.hops::0::(m.id++cD m))))++bX m.subs=D;have hlen:D.length=14+(cD m).length+(bX m.subs).length:=by rw [<- hD]; simp [cm]; omega
  have t0:bt D 0=m.ae:=by rw [<- hD]; exact uA
  have t1:bt D 1=m.af:=by rw [<- hD]; exact uP
  have t4:bt D 4=m.hops:=by rw [<- hD]; exact uH
  have e6:D=[bF m.ae,bF m.af]++(be 2 m.seq++([bF m.hops,0]++(m.id++(cD m++bX m.subs)))):=by rw [<- hD]; simp
  have cs:bH D 2 2=be 2 m.seq:=by
   rw [e6,dS (k:=2) rfl (by omega) (by omega)]; exact fT rfl
  have ci:bH D 6 8=m.id:=by
   rw [e6,dS (k:=2) rfl (by omega) (by omega),dS (k:=2) rfl (by omega) (by omega),dS (k:=2) rfl (by omega) (by omega)]; exact fT (by omega)
  have hp:dw D 14 m.ae m.af 0=(cD m,0):=by
   rw [sM q1 (by omega) (by omega),q2];have:bH D 14 ((cD m).length:Int)=cD m:=by
    rw [e6,dS (k:=2) rfl (by omega) (by omega),dS (k:=2) rfl (by omega) (by omega),dS (k:=2) rfl (by omega) (by omega),dS (k:=8) hi (by omega) (by omega)]; exact fT rfl
   rw [this]
  have hdr:D.drop (14+cp m.ae m.af 0).toNat=bX m.subs:=by
   rw [<- hD,q2];exact List.drop_left' (by simp [cm]; omega)
  unfold iE;rw [ab (show (10:Int)=10 from rfl),ac (by omega),t0,t1,t4,ac (by have:=r.ae; omega)];dsimp only;rw [hp,hdr,hg,cs,ci,jx hq];dsimp only;rw [ac (show ¬(0:Int)≠0 by decide),ac (show ¬((0:Int)≠0\/true=false) by decide),ab (show (10:Int)=10 from rfl),ac (show ¬(m.ae=0\/m.hops=0) by omega),Cn r];rw [hk] at hx;rw [hx]
theorem f48 {ty:Int} {d:Bs} (ht:ty=9\/ty=10) (hd:d.length<=300) :
  (∃ m,iE ty d=(m,true,0)/\gN m/\io m/\(gj m++bX m.subs).length<=d.length/\m.kind=ty+3)\/(∃ e,iE ty d=(gD,false,e)):=by
 have b0:=cw d 0;have b1:=cw d 1;have b4:=cw d 4;unfold iE;by_cases hl:(d.length:Int) < (if ty=10 then 14 else 2)
 ·rw [ab hl]; exact .inr ⟨_,rfl⟩
 rw [ac hl];by_cases ha:3 < bt d 0
 ·rw [ab ha]; exact .inr ⟨_,rfl⟩
 rw [ac ha];have hae:0<=bt d 0/\bt d 0 < 4:=by omega
 dsimp only;have hp0:(0:Int)<=(if ty=10 then 14 else 2)/\(if ty=10 then (14:Int) else 2)<=14:=by split <;> omega
 generalize hP:(if ty=10 then (14:Int) else 2)=P at *;by_cases hb:(dw d P (bt d 0) (bt d 1) 0).2≠0
 ·rw [ab hb]; exact .inr ⟨_,rfl⟩
 rw [ac hb];have hb:(dw d P (bt d 0) (bt d 1) 0).2=0:=by simpa using hb
 obtain ⟨f1,f2,f3,f4⟩:=Jn hae hp0.1 hb;have f5:=oy hae f2;have hpl:fg (bt d 0)<=bt d 1/\bt d 1<=eY (bt d 0):=by unfold e9 at f2; simpa using f2
 obtain ⟨l1,l2,l3,l4,l5,l6⟩:=kp hae hpl;have hrn:cp (bt d 0) (bt d 1) 0=cJ (bt d 1) - cq (bt d 0):=by unfold cp; omega
 rcases Js (d.drop (P+cp (bt d 0) (bt d 1) 0).toNat) with ⟨l,hg,hA,hS,hL,hN⟩ | ⟨l,hg⟩ | ⟨e,hg,_⟩
 ·rw [hg];dsimp only;rw [ac (show ¬((0:Int)≠0\/true=false) by decide)];have wl:=EO (af:=bt d 1) (b:=(dw d P (bt d 0) (bt d 1) 0).1) hae (by omega);have wc:cT (dY (bt d 0) (dw d P (bt d 0) (bt d 1) 0).1 (bt d 1)) (bt d 1)=dY (bt d 0) (dw d P (bt d 0) (bt d 1) 0).1 (bt d 1):=yR _ _;have wk:bt d 0=3->df (dY (bt d 0) (dw d P (bt d 0) (bt d 1) 0).1 (bt d 1))=true:=fun h=>by
   rw [h] at hpl |-;have h8:=f5.2.2.2.1 h;rw [h] at f4 h8;exact IG hpl.1 (by omega)
  have bare:∀ m:bD,dv m=some m->cM m=true:=fun m h=>by rw [cM,h]; exact iA m
  have sub2:=lY (l:=l);have hle:=qH l;have n1000:([]:List gW).length<=1000:=by decide
  have e0:([]:Bs).length<=400:=by decide
  have has0:IntKind.has .i64 0:=cx.2 (by omega);have drl:((d.drop (P+cp (bt d 0) (bt d 1) 0).toNat).length:Int)=d.length - (P+cp (bt d 0) (bt d 1) 0):=by rw [List.length_drop]; omega
  rcases ht with rfl | rfl
  ·rw [ac (show ¬(9:Int)=10 by decide)] at hP |-;subst hP;have r:gN ⟨12,0,0,[],0,bt d 0,dY (bt d 0) (dw d 2 (bt d 0) (bt d 1) 0).1 (bt d 1),bt d 1,0,[],0,[],0,0,0,0,0,0,0,[],[],[],0,[],l⟩:=⟨bare _ rfl,pm hA hS,hae,wl,hpl,wc,wk,rfl⟩;refine .inl ⟨_,rfl,r,⟨⟨n1000,by dsimp only; omega,e0,by dsimp only; omega,e0,e0,e0,e0,e0,(fun d h=>by cases h),hA.few⟩,has0,has0,has0,has0,cx.2 (by dsimp only; omega),has0,cx.2 (by dsimp only; omega),cx.2 (by dsimp only; omega),has0⟩,?_,rfl⟩;have hc:=r.cut.2;dsimp only at hc |-;unfold gj;rw [ac (show ¬(12:Int)=13 by decide)];simp only [List.length_append,List.length_cons];omega
  ·rw [ab (show (10:Int)=10 from rfl)] at hP |-;subst hP;split
   ·exact .inr ⟨_,rfl⟩
   ·rename_i h04;have hq:=lK (d:=d) (p:=2) (by omega) (by omega);have hi:=ew (s:=d) (p:=6) (n:=8) (by omega) (by omega) (by omega);have kr:pL ⟨13,0,0,[],0,bt d 0,dY (bt d 0) (dw d 14 (bt d 0) (bt d 1) 0).1 (bt d 1),bt d 1,0,[],0,bH d 6 8,b5 (bH d 2 2),0,0,0,bt d 4,0,0,[],[],[],0,[],l⟩=true:=by
     unfold pL;rw [ac (show ¬(13:Int)=12 by decide),ab rfl];simp only [Bool.and_eq_true,decide_eq_true_eq,lh];exact ⟨by omega,hq,by omega,by omega⟩
    have r:gN ⟨13,0,0,[],0,bt d 0,dY (bt d 0) (dw d 14 (bt d 0) (bt d 1) 0).1 (bt d 1),bt d 1,0,[],0,bH d 6 8,b5 (bH d 2 2),0,0,0,bt d 4,0,0,[],[],[],0,[],l⟩:=⟨bare _ rfl,pm hA hS,hae,wl,hpl,wc,wk,kr⟩;refine .inl ⟨_,rfl,r,⟨⟨n1000,by dsimp only; omega,e0,by dsimp only; omega,e0,by dsimp only; omega,e0,e0,e0,(fun d h=>by cases h),hA.few⟩,has0,has0,cx.2 (by dsimp only; omega),has0,cx.2 (by dsimp only; omega),has0,cx.2 (by dsimp only; omega),cx.2 (by dsimp only; omega),cx.2 (by dsimp only; omega)⟩,?_,rfl⟩;have hc:=r.cut.2;dsimp only at hc |-;unfold gj;rw [ab rfl];simp only [List.length_append,List.length_cons,cm];omega
 ·rw [hg]; exact .inr ⟨0,rfl⟩
 ·rw [hg];refine .inr ⟨e,?_⟩;dsimp only;rw [ab (.inr rfl)]
theorem YW {m:bD} (r:gN m):(gj m).length<=30:=by
 obtain ⟨l1,l2,l3,l4,l5,l6⟩:=kp r.ae r.af;have:=r.cut.2;unfold gj;rcases r.kinds with hk | ⟨hk,_,_,_,hi⟩
 ·rw [ac (by omega)]; simp only [List.length_cons]; omega
 ·rw [ab hk]; simp only [List.length_cons,List.length_append,cm]; omega
theorem Ka {m:bD} (r:gN m):iL m=(bF (if m.kind=13 then 10 else 9)::bF (gj m++bX m.subs).length::(gj m++bX m.subs),true)/\(gj m++bX m.subs).length<=255:=by
 have h1:=YW r;have h2:=mm r.subs;have hl:(gj m++bX m.subs).length<=255:=by simp only [List.length_append]; omega
 refine ⟨?_,hl⟩;unfold iL;have ht:1<=(if m.kind=13 then (10:Int) else 9)/\(if m.kind=13 then (10:Int) else 9)<=255:=by split <;> omega
 rw [ab (jy.2 r),eF,ab ⟨ht.1,ht.2,hl⟩]
end Go.VP
namespace Go.VP
open Go Go.VI
abbrev bS:=bQ
abbrev iN (c:bS):eA:=⟨c.au,c.ak,c.am,c.aq,c.ax,c.ay,c.id⟩
def b9 (ae:Int):Int:=if ae=1 then 0 else if ae=2 then 1 else if ae=3 then 1 else -1
theorem sY (ae:Int):nj (ae,())=some ((b9 ae,()),()):=by
 rw [XU]; unfold b9;by_cases h1:ae=1
 ·rw [ab (by simp [h1]),ab h1]
 rw [ac (by simp [h1]),ac h1];by_cases h2:ae=2
 ·rw [ab (by simp [h2]),ab (by simp [h2]),ab h2]
 rw [ac (by simp [h2]),ac h2];by_cases h3:ae=3
 ·rw [ab (by simp [h3]),ab h3]
 ·rw [ac (by simp [h3]),ac h3]
theorem t7 (ae:Int):ob (ae,())=some ((b9 ae,()),()):=by
 rw [dO0]; unfold b9;by_cases h1:ae=1
 ·rw [ab (by simp [h1]),ab h1]
 rw [ac (by simp [h1]),ac h1];by_cases h2:ae=2
 ·rw [ab (by simp [h2]),ab h2]
 rw [ac (by simp [h2]),ac h2];by_cases h3:ae=3
 ·rw [ab (by simp [h3]),ab h3]
 ·rw [ac (by simp [h3]),ac h3]
theorem rL {ae:Int} (h:1<=ae/\ae<=3):0<=b9 ae/\b9 ae < 2:=by
 unfold b9; split
 ·omega
 split
 ·omega
 split <;> omega
theorem fp7 {s:Bs} (h:(dR s).2.1=true):(dR s).2.2=0:=by
 unfold dR at h |-;split at h
 ·rename_i l e;unfold jN at h |-;split at h
  ·cases h
  ·rename_i h0; rw [ac h0]
 ·cases h
def fM (d:Bs) (n:Int):Bool × Int:=if (d.length:Int) < n then (false,2) else ((dR (d.drop n.toNat)).2.1,(dR (d.drop n.toNat)).2.2)
theorem rj {d:Bs} {n:Int} (h:(fM d n).1=true):(fM d n).2=0/\n<=d.length:=by
 unfold fM at h |-;split at h
 ·cases h
 ·rename_i h0; rw [ac h0]; exact ⟨fp7 h,by omega⟩
theorem K5 {d:Bs} {n:Int} (hd:d.length<=100000) (hn:0<=n):tK (d,n,())=some (((fM d n).1,(fM d n).2,()),()):=by
 rw [el8]; unfold fM;by_cases h:(d.length:Int) < n
 ·rw [bP h,ab h]
 ·rw [bN h,ac h,ab (by omega),rB (by simp; omega),aa]
theorem O8 {d:Bs} {n:Int} (hd:d.length<=100000) (hn:0<=n):uu (d,n,())=some (((fM d n).1,(fM d n).2,()),()):=by
 rw [e62]; unfold fM;by_cases h:(d.length:Int) < n
 ·rw [bP h,ab h]
 ·rw [bN h,ac h,ab (by omega),mR (by simp; omega),aa]
def eQ (c:bS) (i:Bs):bS:=⟨c.au,c.ak,c.am,c.aq,c.ax,c.ay,i⟩
def ge (c:bS) (k:Int) (a:Bs):bS:=⟨c.au,c.ak,c.am,c.aq,(if k=0 then a else c.ax),(if k=1 then a else c.ay),c.id⟩
def lz (c:bS) (d:Bs):bS × Int:=if (fM d 10).1=true then (eQ c (bH d 2 8),0) else (c,(fM d 10).2)
theorem g47 {c:bS} {d:Bs} (hd:d.length<=100000):Ad (iN c,d,())=some (((lz c d).2,()),(iN (lz c d).1,())):=by
 rw [dr8,K5 hd (by omega),aa];unfold lz;dsimp only;cases h:(fM d 10).1 with
 | false=>rw [cV,ac (by simp)]
 | true=>
  have hk:=rj h;rw [cQ,ab (by omega),ab rfl,hk.1]; rfl
def en (ae:Int):Int:=if ae=0 then (0:Int) else (if ae=1 then (4:Int) else (if ae=2 then (16:Int) else (8:Int)))
theorem EQ (ae:Int):0<=en ae/\en ae<=16:=by
 unfold en; split
 ·omega
 split
 ·omega
 split <;> omega
def jv (d:Bs):Bs:=if bt d 0=3 then (fc (bH d 2 (en (bt d 0)))).1 else bH d 2 (en (bt d 0))
def iW (c:bS) (d:Bs):bS × Int:=
 if (d.length:Int) < 2 then (c,2) else if bt d 0 < 1\/3 < bt d 0 then (c,0)
 else if (fM d (2+en (bt d 0))).1=true then (ge c (b9 (bt d 0)) (jv d),0)
 else (c,(fM d (2+en (bt d 0))).2)
theorem g03 {c:bS} {d:Bs} (hd:d.length<=100000):Bu (iN c,d,())=some (((iW c d).2,()),(iN (iW c d).1,())):=by
 rw [dc8];unfold iW;by_cases h2:(d.length:Int) < 2
 ·rw [bP h2,ab h2]
 rw [bN h2,ac h2,cN (i:=0) (by omega),aa,eO];have e0:bt d 0=(((d[0]?.getD 0).toNat:Nat):Int):=rfl;rw [<- e0];unfold jv;generalize bt d 0=v;by_cases h0:v < 1
 ·rw [bP h0,ab (.inl h0)]
 rw [bN h0];by_cases h3:3 < v
 ·rw [bP h3,ab (.inr h3)]
 have hr:=EQ v;have hh:(if v=0 then (0:Int) else (if v=1 then (4:Int) else (if v=2 then (16:Int) else (8:Int))))=en v:=rfl;rw [hh,bN h3,ac (show ¬(v < 1\/3 < v) by omega),ab (show 0<=v/\v < 4 by omega),bL (x:=2+en v) (by omega) (by omega),K5 hd (by omega),aa];dsimp only;cases h:(fM d (2+en v)).1 with
 | false=>rw [cK,ac (by simp)]
 | true=>
  have hk:=rj h;have hf:=rL (ae:=v) (by omega);have hc:(List.take (2+en v).toNat d).drop 2=bH d 2 (en v):=rfl;rw [b7,ab (show 0<=(2:Int)/\(2:Int)<=2+en v/\2+en v<=(d.length:Int) by omega),ab rfl,hc];refine bR (fun hv=>?_) (fun hv=>?_)
  ·rw [sK,aa,sY,aa];dsimp only;rw [ab hf,ab hv]; rfl
  ·rw [sY,aa];dsimp only;rw [ab hf,ac hv]; rfl
theorem fU2 {v:Int} (h:0<=v/\v<=3):pu (v,())=some ((en v,()),()):=by
 rw [Pb,ab h.1];have:v=0\/v=1\/v=2\/v=3:=by omega
 rcases this with rfl | rfl | rfl | rfl <;> rfl
theorem ZX {c:bS} {d:Bs} (hd:d.length<=100000):zI (c,d,())=some (((iW c d).1,(iW c d).2,()),()):=by
 rw [eA0];unfold iW;by_cases h2:(d.length:Int) < 2
 ·rw [bP h2,ab h2]
 rw [bN h2,ac h2,cN (i:=0) (by omega),aa,eO];have e0:bt d 0=(((d[0]?.getD 0).toNat:Nat):Int):=rfl;have hb:=cw d 0;rw [<- e0];unfold jv;generalize bt d 0=v at *;refine bR (fun h0=>?_) (fun h0=>?_)
 ·rw [ab (show v < 1\/3 < v by omega)]
 by_cases h3:3 < v
 ·rw [bP h3,ab (.inr h3)]
 have hr:=EQ v;rw [bN h3,ac (show ¬(v < 1\/3 < v) by omega),fU2 (by omega),aa];dsimp only;rw [bL (x:=2+en v) (by omega) (by omega),O8 hd (by omega),aa];dsimp only;cases h:(fM d (2+en v)).1 with
 | false=>rw [cK,ite_self,ac (by simp)]
 | true=>
  have hk:=rj h;have hf:=rL (ae:=v) (by omega);have hc:(List.take (2+en v).toNat d).drop 2=bH d 2 (en v):=rfl;rw [hk.1,ac (by decide),b7,ab (show 0<=(2:Int)/\(2:Int)<=2+en v/\2+en v<=(d.length:Int) by omega),ab rfl,hc];refine bR (fun hv=>?_) (fun hv=>?_)
  ·rw [B0,aa,t7,aa];dsimp only;rw [ab hf,ab hv]; rfl
  ·rw [t7,aa];dsimp only;rw [ab hf,ac hv]; rfl
end Go.VP
namespace Go.VP
open Go Go.VI
theorem eV {R:Type} {p:Prop} [Decidable p] {t f r:R} (h:p->t=r) (h':¬p->f=r):(if decide p=true then t else f)=r:=by
 by_cases hp:p
 ·rw [bP hp]; exact h hp
 ·rw [bN hp]; exact h' hp
theorem p4 {R:Type} {x y:Bs} {f t r:R} (heq:x=y->t=r) (hne:x≠y->f=r):(if x==y then t else f)=r:=by
 by_cases h:x=y
 ·rw [ab (by simp [h])]; exact heq h
 ·rw [ac (by simpa using h)]; exact hne h
def bA (c:bS):Prop:=c.au=[]/\(c.ak=[]\/c.ak.length=4)/\(c.am=[]\/c.am.length=16)/\(c.aq=[]\/df c.aq=true)/\(c.ax=[]\/c.ax.length=4)/\(c.ay=[]\/c.ay.length=16)/\(c.id=[]\/c.id.length=8)
structure pn (r:jf):Prop where
 ae:0<=r.ae/\r.ae < 4
 om:0<=r.aE
 af:0<=r.af/\r.af<=128
 len:r.aE+r.bytes.length<=cA r.ae - cq r.ae
 flags:0<=r.flags/\r.flags<=255
 aj:0<=r.aj/\r.aj<=65535
 bi:r.bi=0\/r.bi=1
 low:fg r.ae<=r.af
def dl (c:bS) (ae:Int):Bs:=if ae=0 then c.au else (if ae=1 then c.ak else (if ae=2 then c.am else c.aq))
theorem pq {c:bS} (h:bA c) {ae:Int} (ha:0<=ae/\ae < 4) (hn:dl c ae≠[]):((dl c ae).length:Int)=cA ae:=by
 obtain ⟨h0,h1,h2,h3,_⟩:=h;rcases jq ha with rfl | rfl | rfl | rfl
 ·exact absurd h0 hn
 ·rcases h1 with e | e
  ·exact absurd e hn
  ·show (c.ak.length:Int)=4; omega
 ·rcases h2 with e | e
  ·exact absurd e hn
  ·show (c.am.length:Int)=16; omega
 ·rcases h3 with e | e
  ·exact absurd e hn
  ·have:=(jD e).1; show (c.aq.length:Int)=16; omega
def dO (c:bS) (r:jf):Bs × Bool:=
 if r.aE=0 then (dY r.ae r.bytes r.af,true)
 else if dl c r.ae=[] then ([],false)
 else (dY r.ae (bH (dl c r.ae) (cq r.ae) r.aE++r.bytes) r.af,true)
theorem XP {c:bS} {r:jf} (hc:bA c) (hr:pn r):Ao (iN c,r,())=some (((dO c r).1,(dO c r).2,()),(iN c,())):=by
 have ha:=hr.ae; have hl:=hr.len; have ho:=hr.om; have hp:=hr.af;have hsz:0<=cA r.ae/\cA r.ae<=16:=by unfold cA; split <;> (try split) <;> (try split) <;> omega
 have hbs:=lD r.ae;have hpre:(if r.ae=0 then c.au else (if r.ae=1 then c.ak else (if r.ae=2 then c.am else c.aq)))=dl c r.ae:=rfl;have hsz':(if r.ae=0 then (0:Int) else (if r.ae=1 then (4:Int) else (if r.ae=2 then (16:Int) else (16:Int))))=cA r.ae:=rfl;rw [ZP];dsimp only;rw [hpre,hsz',ab ha];unfold dO;refine bR (fun h3=>?_) (fun h3=>?_)
 ·have s3:cA r.ae=16:=by rw [h3]; rfl
  have b3:cq r.ae=8:=by rw [h3]; rfl
  rw [ab ha,s3,bL (x:=16 - 8) (by omega) (by omega),show (16:Int) - 8=8 by decide];refine bR (fun h0=>?_) (fun h0=>?_)
  ·rw [ab h0,ab (bW (by omega)),List.nil_append,vf (by omega),aa,sK,aa];have hl8:fc (fE r.bytes 8)=(ez++fE r.bytes 8,true):=by unfold fc; rw [ab (by rw [gF]; omega)]
   rw [hl8,nA (by simp [gF,ez]; omega) (cx.2 (by omega)),aa];unfold dY; rw [ab h3]
  ·rw [ac h0];refine p4 (fun he=>?_) (fun he=>?_)
   ·rw [ab he]
   ·have hpl:=pq hc ha he;have hcl:((bH (dl c r.ae) 8 r.aE).length:Int)=r.aE:=ew (by omega) ho (by omega);have hcut:(List.take (8+r.aE).toNat (dl c r.ae)).drop 8=bH (dl c r.ae) 8 r.aE:=rfl;rw [ac he,bL (x:=8+r.aE) (by omega) (by omega),ab (by omega),hcut,ab (bW (by omega)),vf (by omega),aa,sK,aa];have hl8:fc (fE (bH (dl c r.ae) 8 r.aE++r.bytes) 8)=(ez++fE (bH (dl c r.ae) 8 r.aE++r.bytes) 8,true):=by unfold fc; rw [ab (by rw [gF,List.length_append]; omega)]
    rw [hl8,nA (by simp [gF,ez]; omega) (cx.2 (by omega)),aa];unfold dY; rw [ab h3,b3]
 ·have b0:cq r.ae=0:=by
   rcases jq ha with h | h | h | h
   ·rw [h]; rfl
   ·rw [h]; rfl
   ·rw [h]; rfl
   ·exact absurd h h3
  rw [ab ha,bL (x:=cA r.ae - 0) (by omega) (by omega),show cA r.ae - 0=cA r.ae by omega];refine bR (fun h0=>?_) (fun h0=>?_)
  ·rw [ab h0,ab (bW (by omega)),List.nil_append,vf (by omega),aa,nA (by rw [gF]; omega) (cx.2 (by omega)),aa];unfold dY; rw [ac h3]
  ·rw [ac h0];refine p4 (fun he=>?_) (fun he=>?_)
   ·rw [ab he]
   ·have hpl:=pq hc ha he;have hcl:((bH (dl c r.ae) 0 r.aE).length:Int)=r.aE:=ew (by omega) ho (by omega);have hcut:(List.take (0+r.aE).toNat (dl c r.ae)).drop 0=bH (dl c r.ae) 0 r.aE:=rfl;rw [ac he,bL (x:=0+r.aE) (by omega) (by omega),ab (by omega),hcut,ab (bW (by omega)),vf (by omega),aa,nA (by rw [gF,List.length_append]; omega) (cx.2 (by omega)),aa];unfold dY; rw [ac h3,b0]
def cS (c:bS) (r:jf) (a:Bs):bS:=
 if r.ae=0 then c else
  let i:=if r.flags / 64 % 2=1 then (z4'++a).drop (a.length - 4) else c.id
  if 128<=r.flags then ⟨(if r.ae=0 then a else c.au),(if r.ae=1 then a else c.ak),(if r.ae=2 then a else c.am),(if r.ae=3 then a else c.aq),c.ax,c.ay,i⟩ else eQ c i
 where z4':Bs:=[0,0,0,0]
theorem fz2:∀ f:Fin 256,((cB .and .i64 (f.val:Int) 128 != 0)=decide (128<=f.val))/\((cB .and .i64 (f.val:Int) 64 != 0)=decide (f.val / 64 % 2=1)):=by decide +kernel
def jX (c:bS) (r:jf):Bool:=decide (r.bi=1) && (decide (r.aj=65535) || (decide (0 < r.ae) && !(c.id==[])))
theorem YK {c:bS} {r:jf}:zB (iN c,r,())=some ((jX c r,()),(iN c,())):=by
 rw [d66]; unfold jX;refine bR (fun h=>?_) (fun h=>?_)
 ·refine bR (fun h1=>?_) (fun h1=>?_)
  ·simp [h,h1]
  ·refine eV (fun h2=>?_) (fun h2=>?_)
   ·simp [h,h1,h2]
   ·simp [h1,h2]
 ·simp [h]
end Go.VP
namespace Go.VP
open Go Go.VI
theorem fU5:iT (4,())=some (((([0,0,0,0]:Bs)),()),()):=by
 rw [Cx,ab (by unfold dI; decide)]; rfl
theorem fK6 {c:bS} {r:jf} {a:Bs} (hr:pn r) (ha:r.ae≠0->4<=a.length) (hb:a.length<=100000):vJ (iN c,r,a,())=some ((),(iN (cS c r a),())):=by
 have hae:=hr.ae;obtain ⟨f,hf⟩:∃ f:Fin 256,r.flags=(f.val:Int):=⟨⟨r.flags.toNat,by have:=hr.flags; omega⟩,by have:=hr.flags; simp; omega⟩;obtain ⟨f1,f2⟩:=fz2 f;rw [cU3];unfold cS;refine bR (fun h=>?_) (fun h=>?_)
 ·rw [ab h]
 have h4:=ha h;rw [ac h,ac h,hf,f1,f2,ab hae,fU5,aa];dsimp only;have hl:((([0,0,0,0]:Bs)++a).length:Int) - 8=((a.length - 4:Nat):Int):=by simp; omega
 rw [ab (bW (by simp; omega)),hl,bL (by omega) (by omega),ab (show 0<=((a.length - 4:Nat):Int)/\((a.length - 4:Nat):Int)<=((([0,0,0,0]:Bs)++a).length:Int) by simp; omega),Int.toNat_natCast];have e1:(128<=(f.val:Int))↔128<=f.val:=by omega
 have e2:((f.val:Int) / 64 % 2=1)↔f.val / 64 % 2=1:=by omega
 refine eV (fun g=>?_) (fun g=>?_)
 ·refine eV (fun k=>?_) (fun k=>?_)
  ·rw [ab (e2.2 k),ab (e1.2 g)]; rfl
  ·rw [ac (fun x=>k (e2.1 x)),ab (e1.2 g)]
 ·refine eV (fun k=>?_) (fun k=>?_)
  ·rw [aa];dsimp only;rw [ab (bW (by simp; omega)),hl,bL (by omega) (by omega),ab (show 0<=((a.length - 4:Nat):Int)/\((a.length - 4:Nat):Int)<=((([0,0,0,0]:Bs)++a).length:Int) by simp; omega),Int.toNat_natCast,ab (e2.2 k),ac (fun x=>g (e1.1 x))]; rfl
  ·rw [ac (fun x=>k (e2.1 x)),ac (fun x=>g (e1.1 x))]; rfl
theorem Al {d:Bs} (h:(cC d).2.1=true):pn (cC d).1/\(cC d).2.2=0:=by
 have b0:=cw d 0;have b1:=cw d 1;have b2:=cw d 2;have b3:=cw d 3;unfold cC at h |-;split at h
 ·cases h
 rename_i h1;split at h
 ·cases h
 rename_i h2;rw [ac h1,ac h2];dsimp only at h |-;split at h
 ·cases h
 rename_i h3;split at h
 ·cases h
 rename_i h4;rw [ac h3,ac h4];have h3:(dw d 10 (bt d 0) (bt d 2) (bt d 3)).2=0:=by simpa using h3
 have n8:=kC (bH d 8 2);have l8:((bH d 8 2).length:Int)=2:=ew (by omega) (by omega) (by omega);have l8':(bH d 8 2).length=2:=by omega
 rw [l8'] at n8;unfold dw at h3 |-;split at h3
 ·cases h3
 rename_i hg;split at h3
 ·cases h3
 rename_i hl;rw [ac hg,ac hl];have hg1:e9 (bt d 0) (bt d 2)=false:=by
  cases e:e9 (bt d 0) (bt d 2) with
  | false=>rfl
  | true=>exact absurd (.inl e) hg
 have hg2:0<=cp (bt d 0) (bt d 2) (bt d 3):=by omega
 obtain ⟨q1,q2,q3,q4,q5⟩:=oy (ae:=bt d 0) (by omega) hg1;have hcl:=ew (s:=d) (p:=10) (n:=cp (bt d 0) (bt d 2) (bt d 3)) (by omega) hg2 (by omega);have hp:fg (bt d 0)<=bt d 2/\bt d 2<=eY (bt d 0):=by unfold e9 at hg1; simpa using hg1
 obtain ⟨r1,r2,r3,r4,r5,r6⟩:=kp (ae:=bt d 0) (by omega) hp;refine ⟨⟨by show 0<=bt d 0/\bt d 0 < 4; omega,b3.1,q5,?_,by show 0<=bt d 1/\bt d 1<=255; omega,by show 0<=b5 (bH d 8 2)/\b5 (bH d 8 2)<=65535; omega,?_,hp.1⟩,rfl⟩
 ·show bt d 3+((bH d 10 (cp (bt d 0) (bt d 2) (bt d 3))).length:Int)<=cA (bt d 0) - cq (bt d 0);rw [hcl];unfold cp;omega
 ·show (if _ then (1:Int) else 0)=0\/(if _ then (1:Int) else 0)=1;split
  ·exact .inr rfl
  ·exact .inl rfl
def kR (c:bS) (r:jf) (a:Bs):bD:=⟨11,0,0,[],0,r.ae,a,r.af,0,(if r.aj=65535 then [] else (if b9 r.ae=0 then c.ax else c.ay)),r.aj,(if r.aj=65535 then [] else c.id),r.seq,0,r.aw,0,0,0,0,[],[],[],0,[],r.subs⟩
def eT (c:bS) (d:Bs):bS × List bD × Int:=
 if (cC d).2.1=true then
  (if (dO c (cC d).1).2=true then
   (if jX (cS c (cC d).1 (dO c (cC d).1).1) (cC d).1=true then (cS c (cC d).1 (dO c (cC d).1).1,[kR (cS c (cC d).1 (dO c (cC d).1).1) (cC d).1 (dO c (cC d).1).1],0)
   else (cS c (cC d).1 (dO c (cC d).1).1,[],0))
  else (c,[],9))
 else (c,[],(cC d).2.2)
theorem BA {c:bS} {r:jf} (hc:bA c) (hr:pn r) (h:(dO c r).2=true):((dO c r).1.length:Int)=cA r.ae:=by
 have hl:=hr.len;have ho:=hr.om;have hbs:=lD r.ae;unfold dO at h |-;by_cases h0:r.aE=0
 ·rw [ab h0]; exact EO hr.ae (by omega)
 ·rw [ac h0] at h |-;by_cases he:dl c r.ae=[]
  ·rw [ab he] at h; cases h
  ·rw [ac he];have hpl:=pq hc hr.ae he;have hcl:((bH (dl c r.ae) (cq r.ae) r.aE).length:Int)=r.aE:=ew (by omega) ho (by omega);exact EO hr.ae (by rw [List.length_append]; omega)
theorem fz3 {c:bS} {ty at_:Int} {d:Bs} (hc:bA c) (hd:d.length<=1000):vR (iN c,⟨ty,at_,d⟩,())=some (((eT c d).2.1,(eT c d).2.2,()),(iN (eT c d).1,())):=by
 rw [cF7,fU1 hd,aa];unfold eT;dsimp only [bY];cases h:(cC d).2.1 with
 | false=>rw [cK,ac (by simp)]
 | true=>
  obtain ⟨hr,h0⟩:=Al h;generalize (cC d).1=r at *;rw [b7,ab rfl,XP hc hr,aa];dsimp only;cases h2:(dO c r).2 with
  | false=>rw [cK,ac (by simp)]
  | true=>
   have hl:=BA hc hr h2;have hsz:(r.ae≠0->4<=cA r.ae)/\cA r.ae<=16:=by unfold cA; refine ⟨fun h=>?_,?_⟩ <;> (split <;> (try split) <;> (try split) <;> omega)
   generalize (dO c r).1=a at *;rw [b7,ab rfl,fK6 hr (fun h=>by have:=hsz.1 h; omega) (by omega),aa];dsimp only;rw [YK,aa];dsimp only;cases h3:jX (cS c r a) r with
   | false=>rw [cK,ac (by simp)]
   | true=>
    rw [b7,ab rfl];unfold kR;refine bZ (fun hm=>?_) (fun hm=>?_)
    ·rw [ac hm,ac hm,sY,aa];dsimp only;have hae:1<=r.ae/\r.ae<=3:=by
      have:=hr.ae;unfold jX at h3;simp [hm] at h3;omega
     rw [ab (rL hae)]
    ·rw [ab hm,ab hm]
end Go.VP
namespace Go.VP
open Go Go.VI
theorem jb {c:bS} {r:jf} {a:Bs} (hr:pn r):((eL (c,r,a,())).bind fun r4=>(if !r4.1.2.1 then (some ((c,[],0,()),()):Option ((bS × List bD × Int × Unit) × Unit)) else some ((c,[r4.1.1],0,()),())))=some ((c,(if jX c r=true then [kR c r a] else []),0,()),()):=by
 have hae:=hr.ae;have hh:=hr.bi;rw [em4];unfold jX kR;by_cases h0:r.bi=0
 ·rw [ab (by simp [h0]),aa];dsimp only;rw [cK,ac (by simp [h0])]
 have h1:r.bi=1:=by omega
 rw [ac (by simp [h0])];by_cases hm:r.aj=65535
 ·rw [ab (by simp [hm]),aa];dsimp only;rw [b7,ab (by simp [h1,hm]),ab hm,ab hm]
 rw [ac (by simp [hm])];by_cases ha:r.ae=0
 ·rw [ab (by simp [ha]),aa];dsimp only;rw [cK,ac (by simp [hm,ha])]
 rw [ac (by simp [ha])];by_cases hi:c.id=[]
 ·rw [ab (by simp [hi]),aa];dsimp only;rw [cK,ac (by simp [hm,hi])]
 rw [ac (by simpa using hi),t7,aa];dsimp only;have hpos:0 < r.ae:=by omega
 rw [ab (rL (ae:=r.ae) (by omega)),aa];dsimp only;have hb:(decide (r.bi=1) && (decide (r.aj=65535) || decide (0 < r.ae) && !(c.id==[])))=true:=by simp [h1,hpos,hi]
 rw [b7,hb,cQ,ac hm,ac hm]
theorem Rp {c:bS} {d:Bs} (h:(cC d).2.1=true) (h2:(dO c (cC d).1).2=true):eT c d=(cS c (cC d).1 (dO c (cC d).1).1,(if jX (cS c (cC d).1 (dO c (cC d).1).1) (cC d).1=true then [kR (cS c (cC d).1 (dO c (cC d).1).1) (cC d).1 (dO c (cC d).1).1] else []),0):=by
 unfold eT;rw [ab h,ab h2];split <;> rfl
theorem fp9 {c:bS} {ty at_:Int} {d:Bs} (hc:bA c) (hd:d.length<=1000):zH (c,⟨ty,at_,d⟩,())=some (((eT c d).1,(eT c d).2.1,(eT c d).2.2,()),()):=by
 rw [dQ7,fK5 hd,aa];dsimp only [bY];cases h:(cC d).2.1 with
 | false=>
  have:eT c d=(c,[],(cC d).2.2):=by unfold eT; rw [ac (by rw [h]; simp)]
  rw [cK,ite_self,this]
 | true=>
  obtain ⟨hr,h0⟩:=Al h;refine bZ (fun e=>absurd h0 e) (fun _=>?_);rw [b7];have hu:=@Rp c d h;have hn:(dO c (cC d).1).2=false->eT c d=(c,[],9):=fun e=>by unfold eT; rw [ab h,ac (by rw [e]; simp)]
  have hal:=@BA c (cC d).1 hc hr;generalize eT c d=V at *;generalize (cC d).1=r at *;have hae:=hr.ae; have hl:=hr.len; have ho:=hr.om; have hp:=hr.af;have hsz:(r.ae≠0->4<=cA r.ae)/\cA r.ae<=16:=by unfold cA; refine ⟨fun h=>?_,?_⟩ <;> (split <;> (try split) <;> (try split) <;> omega)
  have hbs:=lD r.ae;have hpre:(if r.ae=0 then c.au else (if r.ae=1 then c.ak else (if r.ae=2 then c.am else c.aq)))=dl c r.ae:=rfl;rw [hpre];by_cases hom:r.aE=0
  ·have e:dO c r=(dY r.ae r.bytes r.af,true):=by unfold dO; rw [ab hom]
   have hu:=hu (by rw [e]);have hal:=hal (by rw [e]);rw [e] at hu hal;dsimp only at hu hal;rw [bN (by omega),ab (bW (by omega)),List.nil_append];rw [ze hae (by omega) (fun h=>by rw [h] at hl; have:cA 0 - cq 0=0:=rfl; exact List.eq_nil_of_length_eq_zero (by omega)) (fun h=>by rw [h] at hl; have:cA 3 - cq 3=8:=rfl; omega),aa];generalize dY r.ae r.bytes r.af=a at *;dsimp only;rw [hu];have ha4:r.ae≠0->4<=a.length:=fun h=>by have:=hsz.1 h; omega
   have hfl:=hr.flags;have e64:(IntKind.wrap .i64 (r.flags.tdiv 64)).tmod 2=r.flags / 64 % 2:=by
    rw [Int.tdiv_eq_ediv_of_nonneg hfl.1,bL (by omega) (by omega),Int.tmod_eq_emod_of_nonneg (by omega)]
   rw [e64];by_cases a0:r.ae=0
   ·have ef:cS c r a=c:=by unfold cS; rw [ab a0]
    have an:¬(r.ae != 0)=true:=by simp [a0]
    rw [ac an,ac an,jb hr,ef]
   have h4:=ha4 a0;have ap:(r.ae != 0)=true:=by simp [a0]
   have al16:r.ae≠1->(a.length:Int)=16:=fun h1=>by
    rcases jq hae with h | h | h | h
    ·exact absurd h a0
    ·exact absurd h h1
    ·rw [hal,h]; rfl
    ·rw [hal,h]; rfl
   have al4:r.ae=1->(a.length:Int)=4:=fun h1=>by rw [hal,h1]; rfl
   have w1:r.ae=1->IntKind.wrap .i64 (((([0,0,0,0]:Bs)++a).length:Int) - 8)=0:=fun h1=>by
    have:=al4 h1;have hl0:((([0,0,0,0]:Bs)++a).length:Int) - 8=0:=by rw [List.length_append]; simp; omega
    rw [hl0]; rfl
   have w2:r.ae≠1->IntKind.wrap .i64 ((a.length:Int) - 8)=8:=fun h1=>by rw [al16 h1]; rfl
   have id1:r.ae=1->(cS.z4'++a).drop (a.length - 4)=([0,0,0,0]:Bs)++a:=fun h1=>by
    have:=al4 h1;rw [show a.length - 4=0 by omega]; rfl
   have id2:r.ae≠1->(cS.z4'++a).drop (a.length - 4)=a.drop 8:=fun h1=>by
    have:=al16 h1;rw [show a.length - 4=cS.z4'.length+8 by show _=4+8; omega,List.drop_append,List.drop_eq_nil_of_le (by omega),List.nil_append,Nat.add_sub_cancel_left]
   have dz:∀ x:Bs,x.drop (0:Int).toNat=x:=fun x=>rfl
   have d8:∀ x:Bs,x.drop (8:Int).toNat=x.drop 8:=fun x=>rfl
   rw [ab ap];by_cases g:128<=r.flags
   ·rw [bP g,ab hae,ab ap];by_cases k:r.flags / 64 % 2=1
    ·rw [ab (show (r.flags / 64 % 2==1)=true by simp [k])];by_cases a1:r.ae=1
     ·have ef:cS c r a=⟨(if r.ae=0 then a else c.au),(if r.ae=1 then a else c.ak),(if r.ae=2 then a else c.am),(if r.ae=3 then a else c.aq),c.ax,c.ay,([0,0,0,0]:Bs)++a⟩:=by
       unfold cS; rw [ac a0,ab k,ab g,id1 a1]
      rw [ab (show (r.ae==1)=true by simp [a1]),ab (bW (by omega)),w1 a1,ab (show 0<=(0:Int)/\(0:Int)<=((([0,0,0,0]:Bs)++a).length:Int) by omega),dz,jb hr,<- ef]
     ·have ef:cS c r a=⟨(if r.ae=0 then a else c.au),(if r.ae=1 then a else c.ak),(if r.ae=2 then a else c.am),(if r.ae=3 then a else c.aq),c.ax,c.ay,a.drop 8⟩:=by
       unfold cS; rw [ac a0,ab k,ab g,id2 a1]
      have:=al16 a1;rw [ac (show ¬(r.ae==1)=true by simp [a1]),w2 a1,ab (show 0<=(8:Int)/\(8:Int)<=(a.length:Int) by omega),d8,jb hr,<- ef]
    ·have ef:cS c r a=⟨(if r.ae=0 then a else c.au),(if r.ae=1 then a else c.ak),(if r.ae=2 then a else c.am),(if r.ae=3 then a else c.aq),c.ax,c.ay,c.id⟩:=by
      unfold cS; rw [ac a0,ac k,ab g]
     rw [ac (show ¬(r.flags / 64 % 2==1)=true by simp [k]),jb hr,<- ef]
   ·rw [bN g,ab ap];by_cases k:r.flags / 64 % 2=1
    ·rw [ab (show (r.flags / 64 % 2==1)=true by simp [k])];by_cases a1:r.ae=1
     ·have ef:cS c r a=⟨c.au,c.ak,c.am,c.aq,c.ax,c.ay,([0,0,0,0]:Bs)++a⟩:=by
       unfold cS; rw [ac a0,ab k,ac g,id1 a1]; rfl
      rw [ab (show (r.ae==1)=true by simp [a1]),ab (bW (by omega)),w1 a1,ab (show 0<=(0:Int)/\(0:Int)<=((([0,0,0,0]:Bs)++a).length:Int) by omega),dz,jb hr,<- ef]
     ·have ef:cS c r a=⟨c.au,c.ak,c.am,c.aq,c.ax,c.ay,a.drop 8⟩:=by
       unfold cS; rw [ac a0,ab k,ac g,id2 a1]; rfl
      have:=al16 a1;rw [ac (show ¬(r.ae==1)=true by simp [a1]),w2 a1,ab (show 0<=(8:Int)/\(8:Int)<=(a.length:Int) by omega),d8,jb hr,<- ef]
    ·have ef:cS c r a=c:=by
      unfold cS; rw [ac a0,ac k,ac g]; rfl
     rw [ac (show ¬(r.flags / 64 % 2==1)=true by simp [k]),jb hr,ef]
  ·rw [bP (by omega),ab hae];refine p4 (fun he=>?_) (fun he=>?_)
   ·rw [hn (by unfold dO; rw [ac hom,ab he])]
   have hpl:=pq hc hae he;have hcl:((bH (dl c r.ae) (cq r.ae) r.aE).length:Int)=r.aE:=ew (by omega) ho (by omega);have e:dO c r=(dY r.ae (bH (dl c r.ae) (cq r.ae) r.aE++r.bytes) r.af,true):=by unfold dO; rw [ac hom,ac he]
   have hu:=hu (by rw [e]);have hal:=hal (by rw [e]);rw [e] at hu hal;dsimp only at hu hal;have hcut:((dl c r.ae).drop (cq r.ae).toNat).take r.aE.toNat=bH (dl c r.ae) (cq r.ae) r.aE:=by
    unfold bH;rw [List.drop_take,show (cq r.ae+r.aE).toNat - (cq r.ae).toNat=r.aE.toNat by omega]
   rw [oj hae,aa];dsimp only;rw [ab (show 0<=cq r.ae/\cq r.ae<=((dl c r.ae).length:Int) by omega),ab (show 0<=r.aE/\r.aE<=(((dl c r.ae).drop (cq r.ae).toNat).length:Int) by rw [List.length_drop]; omega),hcut,ab (bW (by omega))];rw [ze hae (by rw [List.length_append]; omega) (fun h=>by rw [h] at hl; have:cA 0 - cq 0=0:=rfl; omega) (fun h=>by rw [h] at hl hcl; have:cA 3 - cq 3=8:=rfl; rw [List.length_append]; rw [h]; omega),aa];generalize dY r.ae (bH (dl c r.ae) (cq r.ae) r.aE++r.bytes) r.af=a at *;dsimp only;rw [hu];have ha4:r.ae≠0->4<=a.length:=fun h=>by have:=hsz.1 h; omega
   have hfl:=hr.flags;have e64:(IntKind.wrap .i64 (r.flags.tdiv 64)).tmod 2=r.flags / 64 % 2:=by
    rw [Int.tdiv_eq_ediv_of_nonneg hfl.1,bL (by omega) (by omega),Int.tmod_eq_emod_of_nonneg (by omega)]
   rw [e64];by_cases a0:r.ae=0
   ·have ef:cS c r a=c:=by unfold cS; rw [ab a0]
    have an:¬(r.ae != 0)=true:=by simp [a0]
    rw [ac an,ac an,jb hr,ef]
   have h4:=ha4 a0;have ap:(r.ae != 0)=true:=by simp [a0]
   have al16:r.ae≠1->(a.length:Int)=16:=fun h1=>by
    rcases jq hae with h | h | h | h
    ·exact absurd h a0
    ·exact absurd h h1
    ·rw [hal,h]; rfl
    ·rw [hal,h]; rfl
   have al4:r.ae=1->(a.length:Int)=4:=fun h1=>by rw [hal,h1]; rfl
   have w1:r.ae=1->IntKind.wrap .i64 (((([0,0,0,0]:Bs)++a).length:Int) - 8)=0:=fun h1=>by
    have:=al4 h1;have hl0:((([0,0,0,0]:Bs)++a).length:Int) - 8=0:=by rw [List.length_append]; simp; omega
    rw [hl0]; rfl
   have w2:r.ae≠1->IntKind.wrap .i64 ((a.length:Int) - 8)=8:=fun h1=>by rw [al16 h1]; rfl
   have id1:r.ae=1->(cS.z4'++a).drop (a.length - 4)=([0,0,0,0]:Bs)++a:=fun h1=>by
    have:=al4 h1;rw [show a.length - 4=0 by omega]; rfl
   have id2:r.ae≠1->(cS.z4'++a).drop (a.length - 4)=a.drop 8:=fun h1=>by
    have:=al16 h1;rw [show a.length - 4=cS.z4'.length+8 by show _=4+8; omega,List.drop_append,List.drop_eq_nil_of_le (by omega),List.nil_append,Nat.add_sub_cancel_left]
   have dz:∀ x:Bs,x.drop (0:Int).toNat=x:=fun x=>rfl
   have d8:∀ x:Bs,x.drop (8:Int).toNat=x.drop 8:=fun x=>rfl
   rw [ab ap];by_cases g:128<=r.flags
   ·rw [bP g,ab hae,ab ap];by_cases k:r.flags / 64 % 2=1
    ·rw [ab (show (r.flags / 64 % 2==1)=true by simp [k])];by_cases a1:r.ae=1
     ·have ef:cS c r a=⟨(if r.ae=0 then a else c.au),(if r.ae=1 then a else c.ak),(if r.ae=2 then a else c.am),(if r.ae=3 then a else c.aq),c.ax,c.ay,([0,0,0,0]:Bs)++a⟩:=by
       unfold cS; rw [ac a0,ab k,ab g,id1 a1]
      rw [ab (show (r.ae==1)=true by simp [a1]),ab (bW (by omega)),w1 a1,ab (show 0<=(0:Int)/\(0:Int)<=((([0,0,0,0]:Bs)++a).length:Int) by omega),dz,jb hr,<- ef]
     ·have ef:cS c r a=⟨(if r.ae=0 then a else c.au),(if r.ae=1 then a else c.ak),(if r.ae=2 then a else c.am),(if r.ae=3 then a else c.aq),c.ax,c.ay,a.drop 8⟩:=by
       unfold cS; rw [ac a0,ab k,ab g,id2 a1]
      have:=al16 a1;rw [ac (show ¬(r.ae==1)=true by simp [a1]),w2 a1,ab (show 0<=(8:Int)/\(8:Int)<=(a.length:Int) by omega),d8,jb hr,<- ef]
    ·have ef:cS c r a=⟨(if r.ae=0 then a else c.au),(if r.ae=1 then a else c.ak),(if r.ae=2 then a else c.am),(if r.ae=3 then a else c.aq),c.ax,c.ay,c.id⟩:=by
      unfold cS; rw [ac a0,ac k,ab g]
     rw [ac (show ¬(r.flags / 64 % 2==1)=true by simp [k]),jb hr,<- ef]
   ·rw [bN g,ab ap];by_cases k:r.flags / 64 % 2=1
    ·rw [ab (show (r.flags / 64 % 2==1)=true by simp [k])];by_cases a1:r.ae=1
     ·have ef:cS c r a=⟨c.au,c.ak,c.am,c.aq,c.ax,c.ay,([0,0,0,0]:Bs)++a⟩:=by
       unfold cS; rw [ac a0,ab k,ac g,id1 a1]; rfl
      rw [ab (show (r.ae==1)=true by simp [a1]),ab (bW (by omega)),w1 a1,ab (show 0<=(0:Int)/\(0:Int)<=((([0,0,0,0]:Bs)++a).length:Int) by omega),dz,jb hr,<- ef]
     ·have ef:cS c r a=⟨c.au,c.ak,c.am,c.aq,c.ax,c.ay,a.drop 8⟩:=by
       unfold cS; rw [ac a0,ab k,ac g,id2 a1]; rfl
      have:=al16 a1;rw [ac (show ¬(r.ae==1)=true by simp [a1]),w2 a1,ab (show 0<=(8:Int)/\(8:Int)<=(a.length:Int) by omega),d8,jb hr,<- ef]
    ·have ef:cS c r a=c:=by
      unfold cS; rw [ac a0,ac k,ac g]; rfl
     rw [ac (show ¬(r.flags / 64 % 2==1)=true by simp [k]),jb hr,ef]
def iz (c:bS) (ty:Int) (d:Bs):bS × List bD × Int:=
 if ty=6 then ((lz c d).1,[],(lz c d).2) else if ty=7 then ((iW c d).1,[],(iW c d).2) else if ty=8 then eT c d else (c,[],0)
theorem Gm {c:bS} {ty at_:Int} {d:Bs} (hc:bA c) (hd:d.length<=1000):rn (c,⟨ty,at_,d⟩,())=some (((iz c ty d).1,(iz c ty d).2.1,(iz c ty d).2.2,()),()):=by
 rw [eR8];unfold iz;refine bR (fun h=>?_) (fun h=>?_)
 ·have:=g47 (c:=c) (d:=d) (by omega);unfold iN at this;dsimp only;rw [this,ab h]; rfl
 rw [ac h];refine bR (fun h=>?_) (fun h=>?_)
 ·have:=g03 (c:=c) (d:=d) (by omega);unfold iN at this;dsimp only;rw [this,ab h]; rfl
 rw [ac h];refine bR (fun h=>?_) (fun h=>?_)
 ·have:=fz3 (c:=c) (ty:=ty) (at_:=at_) (d:=d) hc hd;unfold iN at this;rw [this,ab h]; rfl
 ·rw [ac h]
theorem Hz {c:bS} {ty at_:Int} {d:Bs} (hc:bA c) (hd:d.length<=1000) (ht:ty=6\/ty=7\/ty=8):sB (c,⟨ty,at_,d⟩,())=some (((iz c ty d).1,(iz c ty d).2.1,(iz c ty d).2.2,()),()):=by
 rw [er1];unfold iz;dsimp only;refine bR (fun h=>?_) (fun h=>?_)
 ·rw [O8 (by omega) (by omega),aa,ab h];unfold lz;dsimp only;cases hk:(fM d 10).1 with
  | false=>rw [cV,ite_self,ac (by simp)]
  | true=>
   have:=rj hk;rw [this.1,ab (by decide),cQ,ab (by omega),ab rfl]; rfl
 rw [ac h];refine bR (fun h=>?_) (fun h=>?_)
 ·rw [ZX (by omega),aa,ab h]
 ·rw [ac h,fp9 hc hd,aa,ab (by omega)]
end Go.VP
namespace Go.VP
open Go Go.VI
theorem fK7:bA ⟨[],[],[],[],[],[],[]⟩:=⟨rfl,.inl rfl,.inl rfl,.inl rfl,.inl rfl,.inl rfl,.inl rfl⟩
theorem g04 {c:bS} {d:Bs} (h:bA c):bA (lz c d).1:=by
 unfold lz;cases hk:(fM d 10).1 with
 | false=>rw [ac (by simp)]; exact h
 | true=>
  have:=rj hk;rw [ab rfl];obtain ⟨h0,h1,h2,h3,h4,h5,h6⟩:=h;refine ⟨h0,h1,h2,h3,h4,h5,.inr ?_⟩;have hl:=ew (s:=d) (p:=2) (n:=8) (by omega) (by omega) (by omega);show (bH d 2 8).length=8;omega
theorem fU6 {c:bS} {d:Bs} (h:bA c):bA (iW c d).1:=by
 unfold iW;split
 ·exact h
 split
 ·exact h
 rename_i h2 hr;cases hk:(fM d (2+en (bt d 0))).1 with
 | false=>rw [ac (by simp)]; exact h
 | true=>
  have hl:=rj hk;rw [ab rfl];obtain ⟨h0,h1,h2,h3,h4,h5,h6⟩:=h;have hn:=EQ (bt d 0);have hc:=ew (s:=d) (p:=2) (n:=en (bt d 0)) (by omega) (by omega) (by omega);have hv:bt d 0=1\/bt d 0=2\/bt d 0=3:=by omega
  have hlong:bt d 0=3->(fc (bH d 2 (en (bt d 0)))).1.length=16:=fun e=>by
   have h8:en (bt d 0)=8:=by rw [e]; rfl
   rw [h8] at hc |-;unfold fc;rw [ab (by omega),List.length_append];show 8+(bH d 2 8).length=16;omega
  refine ⟨h0,h1,h2,h3,?_,?_,h6⟩
  ·show (if b9 (bt d 0)=0 then jv d else c.ax)=[]\/(if b9 (bt d 0)=0 then jv d else c.ax).length=4;rcases hv with e | e | e
   ·rw [ab (by rw [e]; rfl)]
    right
    unfold jv;rw [ac (by omega)];have:en (bt d 0)=4:=by rw [e]; rfl
    omega
   ·rw [ac (by rw [e]; decide)]; exact h4
   ·rw [ac (by rw [e]; decide)]; exact h4
  ·show (if b9 (bt d 0)=1 then jv d else c.ay)=[]\/(if b9 (bt d 0)=1 then jv d else c.ay).length=16;rcases hv with e | e | e
   ·rw [ac (by rw [e]; decide)]; exact h5
   ·rw [ab (by rw [e]; rfl)]
    right
    unfold jv;rw [ac (by omega)];have:en (bt d 0)=16:=by rw [e]; rfl
    omega
   ·rw [ab (by rw [e]; rfl)]
    right
    unfold jv;rw [ab e];exact hlong e
theorem SN {c:bS} {r:jf} (hc:bA c) (hr:pn r) (h:(dO c r).2=true) (h3:r.ae=3):df (dO c r).1=true:=by
 have hl:=hr.len;have ho:=hr.om;have hlow:=hr.low;have hbs:=lD r.ae;have s3:cA r.ae - cq r.ae=8:=by rw [h3]; rfl
 have hp:64<=r.af:=by rw [h3] at hlow; exact hlow
 unfold dO at h |-;by_cases h0:r.aE=0
 ·rw [ab h0,h3]; exact IG hp (by omega)
 ·rw [ac h0] at h |-;by_cases he:dl c r.ae=[]
  ·rw [ab he] at h; cases h
  ·rw [ac he];have hpl:=pq hc hr.ae he;have hcl:((bH (dl c r.ae) (cq r.ae) r.aE).length:Int)=r.aE:=ew (by omega) ho (by omega);rw [h3] at hcl |-;exact IG hp (by rw [List.length_append]; omega)
theorem WT {c:bS} {r:jf} {a:Bs} (h:bA c) (hr:pn r) (hl:(a.length:Int)=cA r.ae) (h3:r.ae=3->df a=true):bA (cS c r a):=by
 unfold cS;split
 ·exact h
 rename_i a0;have hae:=hr.ae;have hid:bA (eQ c (if r.flags / 64 % 2=1 then (cS.z4'++a).drop (a.length - 4) else c.id))/\((if r.flags / 64 % 2=1 then (cS.z4'++a).drop (a.length - 4) else c.id)=[]\/(if r.flags / 64 % 2=1 then (cS.z4'++a).drop (a.length - 4) else c.id).length=8):=by
  have h4:4<=a.length:=by
   rcases jq hae with e | e | e | e
   ·exact absurd e a0
   ·rw [e] at hl; have:cA 1=4:=rfl; omega
   ·rw [e] at hl; have:cA 2=16:=rfl; omega
   ·rw [e] at hl; have:cA 3=16:=rfl; omega
  have h8:(if r.flags / 64 % 2=1 then (cS.z4'++a).drop (a.length - 4) else c.id)=[]\/(if r.flags / 64 % 2=1 then (cS.z4'++a).drop (a.length - 4) else c.id).length=8:=by
   split
   ·right; rw [List.length_drop,List.length_append]; show 4+a.length - (a.length - 4)=8; omega
   ·exact h.2.2.2.2.2.2
  obtain ⟨h0,h1,h2,h3,h4,h5,h6⟩:=h;exact ⟨⟨h0,h1,h2,h3,h4,h5,h8⟩,h8⟩
 obtain ⟨h0,h1,h2,h3',h4,h5,h6⟩:=h;dsimp only;split
 ·refine ⟨?_,?_,?_,?_,h4,h5,hid.2⟩
  ·exact h0
  ·show (if r.ae=1 then a else c.ak)=[]\/(if r.ae=1 then a else c.ak).length=4;split
   ·rename_i e; rw [e] at hl; have:cA 1=4:=rfl; right; omega
   ·exact h1
  ·show (if r.ae=2 then a else c.am)=[]\/(if r.ae=2 then a else c.am).length=16;split
   ·rename_i e; rw [e] at hl; have:cA 2=16:=rfl; right; omega
   ·exact h2
  ·show (if r.ae=3 then a else c.aq)=[]\/df (if r.ae=3 then a else c.aq)=true;split
   ·rename_i e; exact .inr (h3 e)
   ·exact h3'
 ·exact hid.1
theorem YV {c:bS} {d:Bs} (h:bA c):bA (eT c d).1:=by
 unfold eT;split
 ·rename_i ht;obtain ⟨hr,_⟩:=Al ht;split
  ·rename_i ha;have:=WT h hr (BA h hr ha) (SN h hr ha);split <;> exact this
  ·exact h
 ·exact h
theorem Zs {c:bS} {ty:Int} {d:Bs} (h:bA c):bA (iz c ty d).1:=by
 unfold iz;split
 ·exact g04 h
 split
 ·exact fU6 h
 split
 ·exact YV h
 ·exact h
end Go.VP
namespace Go.VP
open Go Go.VI
def zZ (ty:Int) (d:Bs):bD:=⟨14,0,0,[],0,0,[],0,0,[],0,[],0,0,0,0,0,0,0,[],[],[],ty,d,[]⟩
def iO (c:bS) (x:bD × Bool × Int):bS × List bD × Int:=if x.2.2≠0 then (c,[],x.2.2) else if x.2.1 then (c,[x.1],0) else (c,[],0)
theorem kk (c:bS) (x:bD × Bool × Int):(if x.2.2 != 0 then (some ((c,[],x.2.2,()),()):Option ((bS × List bD × Int × Unit) × Unit)) else (if !x.2.1 then some ((c,[],x.2.2,()),()) else some ((c,[x.1],0,()),())))=some (((iO c x).1,(iO c x).2.1,(iO c x).2.2,()),()):=by
 obtain ⟨m,k,e⟩:=x;unfold iO;dsimp only;refine bZ (fun h=>by rw [ab h]) (fun h=>?_);rw [ac (show ¬e≠0 from fun q=>q h)];cases k with
 | false=>rw [cK,ac (by simp),h]
 | true=>rw [b7,ab rfl]
def dN (c:bS) (ty:Int) (d:Bs):bS × List bD × Int:=
 if ty=0\/ty=1 then (c,[],0) else if ty=6\/ty=7\/ty=8 then iz c ty d
 else if 2<=ty/\ty<=5 then iO c (je ty d) else if ty=9\/ty=10 then iO c (iE ty d) else (c,[zZ ty d],0)
theorem Z8 {c:bS} {ty at_:Int} {d:Bs} (hc:bA c) (hd:d.length<=1000):zr (c,⟨ty,at_,d⟩,())=some (((dN c ty d).1,(dN c ty d).2.1,(dN c ty d).2.2,()),()):=by
 have hcases:ty=0\/ty=1\/ty=2\/ty=3\/ty=4\/ty=5\/ty=6\/ty=7\/ty=8\/ty=9\/ty=10\/(ty≠0/\ty≠1/\ty≠2/\ty≠3/\ty≠4/\ty≠5/\ty≠6/\ty≠7/\ty≠8/\ty≠9/\ty≠10):=by omega
 rw [em7];dsimp only;rcases hcases with rfl | rfl | rfl | rfl | rfl | rfl | rfl | rfl | rfl | rfl | rfl | ⟨h0,h1,h2,h3,h4,h5,h6,h7,h8,h9,h10⟩
 ·rfl
 ·rfl
 ·simp only [Int.reduceBEq,Bool.false_eq_true,if_false,if_true];rw [wF hd (by decide),aa];exact kk c _
 ·simp only [Int.reduceBEq,Bool.false_eq_true,if_false,if_true];rw [wF hd (by decide),aa];exact kk c _
 ·simp only [Int.reduceBEq,Bool.false_eq_true,if_false,if_true];rw [wF hd (by decide),aa];exact kk c _
 ·simp only [Int.reduceBEq,Bool.false_eq_true,if_false,if_true];rw [wF hd (by decide),aa];exact kk c _
 ·simp only [Int.reduceBEq,Bool.false_eq_true,if_false,if_true];rw [Gm hc hd,aa]; rfl
 ·simp only [Int.reduceBEq,Bool.false_eq_true,if_false,if_true];rw [Gm hc hd,aa]; rfl
 ·simp only [Int.reduceBEq,Bool.false_eq_true,if_false,if_true];rw [Gm hc hd,aa]; rfl
 ·simp only [Int.reduceBEq,Bool.false_eq_true,if_false,if_true];rw [Te hd (by decide),aa];exact kk c _
 ·simp only [Int.reduceBEq,Bool.false_eq_true,if_false,if_true];rw [Te hd (by decide),aa];exact kk c _
 ·have e:∀ k:Int,ty≠k->(ty==k)=false:=fun k h=>by simpa using h
  simp only [e _ h0,e _ h1,e _ h2,e _ h3,e _ h4,e _ h5,e _ h6,e _ h7,e _ h8,e _ h9,e _ h10,Bool.false_eq_true,if_false];unfold dN;rw [ac (by omega),ac (by omega),ac (by omega),ac (by omega)]; rfl
theorem fU8 {c:bS} {ty at_:Int} {d:Bs} (hc:bA c) (hd:d.length<=1000):BM (c,⟨ty,at_,d⟩,())=some (((dN c ty d).1,(dN c ty d).2.1,(dN c ty d).2.2,()),()):=by
 have hcases:ty=0\/ty=1\/ty=2\/ty=3\/ty=4\/ty=5\/ty=6\/ty=7\/ty=8\/ty=9\/ty=10\/(ty≠0/\ty≠1/\ty≠2/\ty≠3/\ty≠4/\ty≠5/\ty≠6/\ty≠7/\ty≠8/\ty≠9/\ty≠10):=by omega
 rw [ZD];dsimp only;rcases hcases with rfl | rfl | rfl | rfl | rfl | rfl | rfl | rfl | rfl | rfl | rfl | ⟨h0,h1,h2,h3,h4,h5,h6,h7,h8,h9,h10⟩
 ·rfl
 ·rfl
 ·simp only [Int.reduceBEq,Bool.false_eq_true,if_false,if_true];rw [wH hd (by decide),aa];exact kk c _
 ·simp only [Int.reduceBEq,Bool.false_eq_true,if_false,if_true];rw [wH hd (by decide),aa];exact kk c _
 ·simp only [Int.reduceBEq,Bool.false_eq_true,if_false,if_true];rw [wH hd (by decide),aa];exact kk c _
 ·simp only [Int.reduceBEq,Bool.false_eq_true,if_false,if_true];rw [wH hd (by decide),aa];exact kk c _
 ·simp only [Int.reduceBEq,Bool.false_eq_true,if_false,if_true];rw [Hz hc hd (by decide),aa]; rfl
 ·simp only [Int.reduceBEq,Bool.false_eq_true,if_false,if_true];rw [Hz hc hd (by decide),aa]; rfl
 ·simp only [Int.reduceBEq,Bool.false_eq_true,if_false,if_true];rw [Hz hc hd (by decide),aa]; rfl
 ·simp only [Int.reduceBEq,Bool.false_eq_true,if_false,if_true];rw [Og hd (by decide),aa];exact kk c _
 ·simp only [Int.reduceBEq,Bool.false_eq_true,if_false,if_true];rw [Og hd (by decide),aa];exact kk c _
 ·have e:∀ k:Int,ty≠k->(ty==k)=false:=fun k h=>by simpa using h
  simp only [e _ h0,e _ h1,e _ h2,e _ h3,e _ h4,e _ h5,e _ h6,e _ h7,e _ h8,e _ h9,e _ h10,Bool.false_eq_true,if_false];unfold dN;rw [ac (by omega),ac (by omega),ac (by omega),ac (by omega)]; rfl
end Go.VP
