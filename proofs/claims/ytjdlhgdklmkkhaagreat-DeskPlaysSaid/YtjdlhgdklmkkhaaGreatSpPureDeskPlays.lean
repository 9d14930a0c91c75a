import Derived.Test.YtjdlhgdklmkkhaaGreatSpFQ14
import Derived.Test.YtjdlhgdklmkkhaaGreatSpFQ8
import Derived.Test.YtjdlhgdklmkkhaaGreatSpM0
import Derived.Test.YtjdlhgdklmkkhaaGreatSpM1
import Derived.Test.YtjdlhgdklmkkhaaGreatSpM2
import Derived.Test.YtjdlhgdklmkkhaaGreatSpM3
import Derived.Test.YtjdlhgdklmkkhaaGreatSpM4
import Derived.Test.YtjdlhgdklmkkhaaGreatSpM5
import Derived.Test.YtjdlhgdklmkkhaaGreatSpFGood
set_option linter.unusedVariables false
set_option linter.unusedSimpArgs false
set_option maxRecDepth 100000
namespace Go.VP
open Go Go.VI
theorem W7:kv<=1000000:=Nat.le_of_ble_eq_true (by kernel_rfl)
theorem fv0 {n m0:Nat} {l:List Act} {k:Int} {x:List pj} {a b c i:Int} {D:List Bs} {e1 e2:Int} (hl:D.length<=100000) (hb:∀ b∈D,b.length<=65535) (hx:x.length<=1000) :
  ∀ (d m j:Nat),j+d=D.length->d < m->sI n m0 m l k x a b c i D e1 e2 (gP (D.take j)) j=if e2 != 0 then (i6 n m0 l k (x++[⟨[],D,e1,e2⟩]) (IntKind.wrap .i64 (a+1)) (IntKind.wrap .i64 (b+1)) c (IntKind.wrap .i64 (i+1))) else (i6 n m0 l k (x++[⟨[],D,e1,e2⟩]) (IntKind.wrap .i64 (a+1)) b (IntKind.wrap .i64 (c+gP D)) (IntKind.wrap .i64 (i+1))):=by
 have hs:=qK hb;have hs':D.length * 65535<=100000 * 65535:=Nat.mul_le_mul_right _ hl;intro d
 induction d with
 | zero=>
  intro m j hd hm;obtain ⟨m,rfl⟩:∃ j,m=j+1:=⟨m - 1,by omega⟩;have hbo:=W7;have hr:(x.length+([(dF.mk [] D e1 e2)]).length) * kv<=35184372088832:=by
   have:(x.length+1) * kv<=1001 * 1000000:=Nat.mul_le_mul (by omega) hbo;show (x.length+1) * kv<=_;omega
  rw [Nf,bN (by omega),ab (d7 hr),List.take_of_length_le (by omega)]
 | succ d ih=>
  intro m j hd hm;obtain ⟨m,rfl⟩:∃ j,m=j+1:=⟨m - 1,by omega⟩;have hi:j < D.length:=by omega
  have:=ih m (j+1) (by omega) (by omega);have ht:=RZ hi;have hle:gP (D.take (j+1))<=100000 * 65535:=by
   have h1:=qK (k:=65535) (a:=D.take (j+1)) (fun b hb'=>hb b (List.mem_of_mem_take hb'));have h2:(D.take (j+1)).length * 65535<=100000 * 65535:=Nat.mul_le_mul_right _ (by rw [List.length_take]; omega);exact Nat.le_trans h1 h2
  rw [Nf,bP (by omega),ab (by omega),Int.toNat_natCast,ck hi,bL (by omega) (by omega),bL (by omega) (by omega)];rw [show ((j+1:Nat):Int)=(j:Int)+1 by omega,ht,Int.natCast_add] at this;exact this
theorem fv1 {n:Nat} {l:List Act} {k:Int} (hn:100000 < n) (hl:l.length<=12) (f:∀ y∈l,kL y) :
  ∀ (d m i:Nat),i+d=l.length->d < m->i6 n m l k (fQ k l i) (cZ k l i).1 (cZ k l i).2.1 (cZ k l i).2.2 i=some ((fQ k l l.length,⟨(cZ k l l.length).1,(cZ k l l.length).2.1,(cZ k l l.length).2.2⟩,()),()):=by
 intro d
 induction d with
 | zero=>
  intro m i hd hm;obtain ⟨m,rfl⟩:∃ j,m=j+1:=⟨m - 1,by omega⟩;obtain rfl:i=l.length:=by omega
  rw [Lt,bN (by omega)]
 | succ d ih=>
  intro m i hd hm;obtain ⟨m,rfl⟩:∃ j,m=j+1:=⟨m - 1,by omega⟩;have hi:i < l.length:=by omega
  have hp:0<=(i:Int):=by omega
  have fi:=f _ (List.getElem_mem hi);have hbo:=W7;have ih:=ih m (i+1) (by omega) (by omega);have rng:=CZ (k:=k) f i (by omega);have hsz:=Np fi;have hwl:(fQ k l i).length=i:=tX (by omega);have room:∀ t:pj,cE (((fQ k l i).length + [t].length) * kv)=true:=fun t=>by
   refine d7 ?_;have:((fQ k l i).length+1) * kv<=1001 * 1000000:=Nat.mul_le_mul (by omega) hbo;show ((fQ k l i).length+1) * kv<=_;omega
  rw [Gp hi,IH hi,show ((i+1:Nat):Int)=(i:Int)+1 by omega] at ih;have main:¬(0<=k/\k<=(i:Int))->(l[i]?.bind fun (y10:da)=>(if 0<=(i:Int) then (l[i]?.bind fun (y11:da)=>(if y11.bk then (if 0<=(i:Int) then (l[i]?.bind fun (y12:da)=>(if 0<=(i:Int) then (l[i]?.bind fun (y13:da)=>(if 0<=(i:Int) then (l[i]?.bind fun (y14:da)=>((tE (y12.p,y13.l,y14.most,())).bind fun r15=>(sI n m n l k (fQ k l i) (cZ k l i).1 (cZ k l i).2.1 (cZ k l i).2.2 i r15.1.1 r15.1.2.1 r15.1.2.2.1 0 0))) else none)) else none)) else none) else (if 0<=(i:Int) then (l[i]?.bind fun (y16:da)=>(if 0<=(i:Int) then (l[i]?.bind fun (y17:da)=>((rQ (y16.p,y17.b,())).bind fun r18=>(if cE (((fQ k l i).length+([(dF.mk r18.1.1 [] r18.1.2.1 r18.1.2.2.1)]).length) * kv)=true then (if r18.1.2.2.1 != 0 then (i6 n m l k ((fQ k l i)++([(dF.mk r18.1.1 [] r18.1.2.1 r18.1.2.2.1)])) (IntKind.wrap .i64 ((cZ k l i).1+1)) (IntKind.wrap .i64 ((cZ k l i).2.1+1)) (cZ k l i).2.2 (IntKind.wrap .i64 ((i:Int)+1))) else (i6 n m l k ((fQ k l i)++([(dF.mk r18.1.1 [] r18.1.2.1 r18.1.2.2.1)])) (IntKind.wrap .i64 ((cZ k l i).1+1)) (cZ k l i).2.1 (IntKind.wrap .i64 ((cZ k l i).2.2+(y10.b.length:Int))) (IntKind.wrap .i64 ((i:Int)+1)))) else none))) else none)) else none))) else none))=some ((fQ k l l.length,⟨(cZ k l l.length).1,(cZ k l l.length).2.1,(cZ k l l.length).2.2⟩,()),()):=by
   intro hk;rw [ac hk,ac hk] at ih;unfold kD tell at ih;unfold p5 at ih hsz;rw [ck hi,ab hp,ck hi];by_cases hpk:(l[i]).bk=true
   ·rw [ab hpk,ab hp,ck hi,ab hp,ck hi,ab hp,ck hi,fP5 (by have:=fi.l; omega) (fun m hm=>(fi.g m hm).p _),aa];rw [ab hpk,ab hpk] at ih;rw [ab hpk] at hsz;obtain ⟨q1,q2⟩:=sX (p:=(l[i]).p) (most:=(l[i]).most) (l:=(l[i]).l);have h5:=fv0 (n:=n) (m0:=m) (l:=l) (k:=k) (x:=fQ k l i) (a:=(cZ k l i).1) (b:=(cZ k l i).2.1) (c:=(cZ k l i).2.2) (i:=(i:Int)) (D:=(eU (l[i]).p (l[i]).most (l[i]).l).1) (e1:=(eU (l[i]).p (l[i]).most (l[i]).l).2.1) (e2:=(eU (l[i]).p (l[i]).most (l[i]).l).2.2) (by have:=fi.l; omega) q2 (by omega) (eU (l[i]).p (l[i]).most (l[i]).l).1.length n 0 (by omega) (by have:=fi.l; omega);refine Eq.trans h5 ?_;refine bZ (fun q=>?_) (fun q=>?_)
    ·rw [ab q] at ih;rw [bL (by omega) (by omega),bL (by omega) (by omega),bL (by omega) (by omega)];exact ih
    ·rw [ac (fun c=>c q)] at ih;rw [bL (by omega) (by omega),bL (by omega) (by omega),bL (by omega) (by omega)];exact ih
   ·rw [ac hpk,ab hp,ck hi,ab hp,ck hi,fu3 (by have:=fi.b; omega),aa];rw [ac hpk,ac hpk] at ih;rw [ac hpk] at hsz;rw [ab (room _)];refine bZ (fun q=>?_) (fun q=>?_)
    ·rw [ab q] at ih;rw [bL (by omega) (by omega),bL (by omega) (by omega),bL (by omega) (by omega)];exact ih
    ·rw [ac (fun c=>c q)] at ih;rw [bL (by omega) (by omega),bL (by omega) (by omega),bL (by omega) (by omega)];exact ih
  rw [Lt,bP (by omega)];by_cases h0:0<=k
  ·rw [bP h0];by_cases h1:k<=(i:Int)
   ·rw [bP h1,ab (room _),bL (by omega) (by omega)];rw [ab ⟨h0,h1⟩,ab ⟨h0,h1⟩] at ih;exact ih
   ·rw [bN h1,ab hp,Int.toNat_natCast];exact main (fun c=>h1 c.2)
  ·rw [bN h0,ab hp,Int.toNat_natCast];exact main (fun c=>h0 c.1)
theorem fQ2 {l:List Act} {k:Int} (hl:l.length<=12) (f:∀ y∈l,kL y):FJ (l,k,())=some ((fQ k l l.length,⟨(cZ k l l.length).1,(cZ k l l.length).2.1,(cZ k l l.length).2.2⟩,()),()):=by
 show Hq fuel _=_;rw [em5];exact fv1 (n:=fuel) (cn (by omega)) hl f l.length fuel 0 (by omega) (cn (by omega))
theorem fv2 {n:Nat} {l:List Act} {k:Int} {r:(List pj × mL × Unit) × Unit} (hr:r=((fQ k l l.length,⟨(cZ k l l.length).1,(cZ k l l.length).2.1,(cZ k l l.length).2.2⟩,()),())) (hl:l.length<=12) (f:∀ y∈l,kL y) :
  ∀ (d m i:Nat) (o1 o2 o3:Int),i+d=l.length->d < m->ri n m l r k i o1 o2 o3 (if 0<=k/\k < (i:Int) then 1 else 0) (cZ k l i).1 (cZ k l i).2.1 (cZ k l i).2.2=some ((true,()),()):=by
 intro d
 induction d with
 | zero=>
  intro m i o1 o2 o3 hd hm;obtain ⟨m,rfl⟩:∃ j,m=j+1:=⟨m - 1,by omega⟩;obtain rfl:i=l.length:=by omega
  subst hr;rw [WQ,bN (by omega),fP8,aa,R3];simp
 | succ d ih=>
  intro m i o1 o2 o3 hd hm;obtain ⟨m,rfl⟩:∃ j,m=j+1:=⟨m - 1,by omega⟩;have hi:i < l.length:=by omega
  have hp:0<=(i:Int):=by omega
  have fi:=f _ (List.getElem_mem hi);have rng:=CZ (k:=k) f i (by omega);have hw:r.1.1[i]?=some (if 0<=k/\k<=(i:Int) then ov else tell (l[i])):=by
   subst hr; exact M4 hi hi (Nat.le_refl _)
  have ih:=ih m (i+1);rw [IH hi,show ((i+1:Nat):Int)=(i:Int)+1 by omega] at ih;have tailOf:∀ (dk:jh),dk.aH=(if 0<=k/\k<=(i:Int) then 1 else 0)->dk.aW=(cZ k l i).1->dk.aT=(cZ k l i).2.1->dk.aU=(cZ k l i).2.2->
    ((sJ (dk,l[i],())).bind fun r6=>(if 0<=(i:Int) then (r.1.1[i]?.bind fun (y7:dF)=>((pC (r6.1.1,y7,())).bind fun r8=>(if !r8.1.1 then some ((false,()),()) else (ri n m l r k (IntKind.wrap .i64 ((i:Int)+1)) r6.2.1.aS r6.2.1.aF r6.2.1.aG r6.2.1.aH r6.2.1.aW r6.2.1.aT r6.2.1.aU)))) else none))=some ((true,()),()):=by
   intro dk e1 e2 e3 e4;have wk:Wk dk:=⟨by rw [e2]; omega,by rw [e3]; omega,by rw [e4]; omega⟩;rw [fY5 wk fi,aa,ab hp,hw,aa];by_cases hk:0<=k/\k<=(i:Int)
   ·rw [ab hk] at e1;have hc:dk.aH≠0:=by rw [e1]; decide
    have hs:=SZ (c:=dk.aH≠0) fi;unfold after;dsimp only;rw [ab hk];rw [ab hc] at hs |-;rw [hs,aa];dsimp only;rw [b7,bL (by omega) (by omega),ab hc,e1,e2,e3,e4];have:=ih dk.aS dk.aF dk.aG (by omega) (by omega);rw [ab hk,ab (show 0<=k/\k < (i:Int)+1 by omega)] at this;exact this
   ·rw [ac hk] at e1;have hc:¬dk.aH≠0:=by rw [e1]; decide
    have hs:=SZ (c:=dk.aH≠0) fi;unfold after;dsimp only;rw [ac hk];rw [ac hc] at hs |-;rw [hs,aa];dsimp only;rw [b7,bL (by omega) (by omega),ac hc];have:=ih dk.aS dk.aF dk.aG (by omega) (by omega);rw [ac hk,ac (show ¬(0<=k/\k < (i:Int)+1) by omega)] at this;unfold kD at this;unfold oF;by_cases he:(tell l[i]).e≠0
    ·rw [ab he] at this |-;dsimp only at this |-;rw [e1,e2,e3,e4];exact this
    ·rw [ac he] at this |-;dsimp only at this |-;rw [e1,e2,e3,e4];exact this
  rw [WQ,bP (by omega)];refine bR (fun hk=>?_) (fun hk=>?_)
  ·have hcl:¬(0<=k/\k < (i:Int)):=by omega
   obtain ⟨b,hb⟩:=fP9 ⟨o1,o2,o3,(),(if 0<=k/\k < (i:Int) then 1 else 0),(cZ k l i).1,(cZ k l i).2.1,(cZ k l i).2.2⟩;rw [hb,aa,ab hp,Int.toNat_natCast,ck hi];refine tailOf _ ?_ rfl rfl rfl;dsimp only;rw [ac hcl,ab rfl,ab (show 0<=k/\k<=(i:Int) by omega)]
  ·rw [ab hp,Int.toNat_natCast,ck hi];refine tailOf _ ?_ rfl rfl rfl;dsimp only;by_cases hc:0<=k/\k < (i:Int)
   ·rw [ab hc,ab (by omega)]
   ·rw [ac hc,ac (by omega)]
theorem deskPlays_pure (x0:List da) (g0:UM x0) (x1:Int) (g1:en1 x1):JO (x0,x1,())=some ((true,()),()):=by
 show EA fuel _=_;rw [dd1];obtain ⟨b,hb,hb'⟩:=fQ1 g0;rw [hb,aa];dsimp only;cases b with
 | false=>rw [cK]; exact R3 _
 | true=>
 obtain ⟨hl,hf⟩:=hb' rfl;generalize IntKind.wrap .i64 (IntKind.wrap .i64 (x1.tmod 24) - 12)=k;rw [b7,fQ2 hl hf,aa];have:=fv2 (n:=fuel) (k:=k) rfl hl hf x0.length fuel 0 0 0 0 (by omega) (cn (by omega));rw [ac (show ¬(0<=k/\k < ((0:Nat):Int)) by omega)] at this;exact this
end Go.VP
