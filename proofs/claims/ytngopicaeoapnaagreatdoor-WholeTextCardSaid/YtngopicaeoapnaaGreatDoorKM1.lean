import Derived.Test.YtngopicaeoapnaaGreatDoorKM0
import Derived.Test.YtngopicaeoapnaaGreatDoorKFQ2
import Derived.Test.YtngopicaeoapnaaGreatDoorKFH
import Derived.Test.YtngopicaeoapnaaGreatDoorKFQ6
import Derived.Test.YtngopicaeoapnaaGreatDoorKFQ1
import Derived.Test.YtngopicaeoapnaaGreatDoorKFQ3
set_option linter.unusedVariables false
set_option linter.unusedSimpArgs false
set_option maxRecDepth 100000
namespace Go.VP
open Go Go.VI
theorem dC6:∀ {l:List Tlv},dS6 l→bv7 (keep l)
 | [],_=>fun y hy=>by simp [keep] at hy
 | t::l,h=>by
  have ih:=dC6 (l:=l) (fun z hz=>h z (List.mem_cons_of_mem _ hz))
  intro y hy
  simp only [keep] at hy
  split at hy
  ·rcases List.mem_cons.1 hy with rfl | hy
   ·have:=h t (List.mem_cons_self ..); dsimp only; omega
   ·exact ih y hy
  ·exact ih y hy
theorem ee7 (s:Bs):∀ (p:Int) (l:List Tlv),spl p s=.ok l→ak4 (keep l)≤s.length:=by
 match s with
 | []=>intro p l h; rw [aW2] at h; injection h with h; subst h; simp [keep,ak4]
 | t::r=>
  intro p l h
  have go:∀ (q:Int) (x:Tlv) (r':Bs),r'.length < (t::r).length→(x.type_=0∨r'.length+2+x.data.length≤(t::r).length)→(spl q r').map (x::·)=.ok l→ak4 (keep l)≤((t::r).length:Nat):=by
   intro q x r' hr hx h
   cases hm:spl q r' with
   | error e=>rw [hm] at h; cases h
   | ok l'=>
    rw [hm] at h
    injection h with h
    subst h
    have:=ee7 r' q l' hm
    simp only [keep]
    split
    ·simp only [ak4]; omega
    ·omega
  by_cases ht:t=0
  ·subst ht
   rw [bV6] at h
   exact go _ _ _ (by simp) (.inl rfl) h
  ·match r with
   | []=>rw [cS8 ht] at h; cases h
   | n::d=>
    by_cases hn:d.length < n.toNat
    ·rw [cS9 ht hn] at h; cases h
    ·rw [bv6 ht (by omega)] at h
     exact go _ _ _ (by simp; omega) (.inr (by simp; omega)) h
termination_by s.length
theorem cv6 (s:Bs):(∃ l,az6 s=(l,true,0)∧bv7 l∧ak4 l≤200∧ak4 l≤s.length∧l.length≤s.length)∨(∃ l,az6 s=(l,false,0))∨(∃ e,az6 s=([],false,e)∧e≠0):=by
 unfold az6
 cases h:spl 0 s with
 | error e=>exact .inr (.inr ⟨2,rfl,by decide⟩)
 | ok l=>
  obtain ⟨h1,h2⟩:=dS7 s 0 l h
  have h3:=ee7 s 0 l h
  have h4:=db3 l
  dsimp only
  unfold ek4
  split
  ·exact .inr (.inr ⟨10,rfl,by decide⟩)
  ·cases hb:free l with
   | true=>exact .inl ⟨_,rfl,dC6 h1,by omega,h3,by omega⟩
   | false=>exact .inr (.inl ⟨_,rfl⟩)
theorem bM1 (F:List Sub→Msg) (s:Bs):(∃ l,cO4 F (az6 s)=(F l,true,0)∧bv7 l∧ak4 l≤200∧ak4 l≤s.length∧l.length≤s.length)∨(∃ e,cO4 F (az6 s)=(aX6,false,e)):=by
 rcases cv6 s with ⟨l,h,h2⟩ | ⟨l,h⟩ | ⟨e,h,h2⟩
 ·rw [h]; exact .inl ⟨l,rfl,h2⟩
 ·rw [h]; exact .inr ⟨_,rfl⟩
 ·rw [h]; refine .inr ⟨e,?_⟩
  unfold cO4
  rw [if_pos (by simpa using h2)]
theorem aT5 {l:List Sub} (h:bv7 l) (h2:ak4 l≤200):al9 l=true:=by
 unfold al9; rw [de1.2 h,decide_eq_true h2]; rfl
theorem bv7.few {l:List Sub} (h:bv7 l):∀ y∈l,y.data.length≤300:=fun y hy=>by have:=h y hy; omega
theorem ap0 {d:Bs} {p:Int} (h:0≤p) (h2:p+2≤d.length):0≤num (aa4 d p 2)∧num (aa4 d p 2) < 65536:=by
 have hl:=aj4 (s:=d) (p:=p) (n:=2) h (by omega) h2
 have:=bN1 (aa4 d p 2)
 rw [show (aa4 d p 2).length=2 by omega] at this
 exact this
theorem dr0 {l:List Sub}:(ab3 l).length=ak4 l:=aN3 l
theorem aN4:∀ {l:List Sub},(l.length:Int) * 2≤ak4 l
 | []=>by simp [ak4]
 | y::l=>by have:=aN4 (l:=l); simp only [ak4,List.length_cons]; omega
theorem dU5 {ty:Int} {d:Bs} (ht:2≤ty∧ty≤5) (hd:d.length≤300) :
  (∃ m,aZ7 ty d=(m,true,0)∧ay0 m∧bo3 m∧(ae8 m++ab3 m.subs).length≤d.length)∨(∃ e,aZ7 ty d=(aX6,false,e)):=by
 have hb:=ai5 d 0
 unfold aZ7
 have good:∀ m:Msg,de2 m→ay0 m→(0≤m.kind∧m.kind < 100)→(0≤m.flags∧m.flags < 100)→(0≤m.ae∧m.ae < 100)→(0≤m.plen∧m.plen < 100)→(0≤m.hops∧m.hops < 100)→bo3 m:=fun m hf r a b c d e=>⟨hf,has64.2 (by have:=r.nonce; omega),has64.2 (by have:=r.interval; omega),has64.2 (by have:=r.seq; omega),has64.2 (by have:=r.cost; omega),has64.2 (by omega),has64.2 (by omega),has64.2 (by omega),has64.2 (by omega),has64.2 (by omega)⟩
 have w0:(0:Int)≤0∧(0:Int) < 65536:=by decide
 have z0:(0:Int)≤0∧(0:Int) < 100:=by decide
 have z7:(0:Int)≤7∧(7:Int) < 100:=by decide
 have z8:(0:Int)≤8∧(8:Int) < 100:=by decide
 have z9:(0:Int)≤9∧(9:Int) < 100:=by decide
 have z10:(0:Int)≤10∧(10:Int) < 100:=by decide
 have n300:([]:List ci2).length≤1000:=by decide
 have bO2:∀ {m:Msg} {x:Msg × Bool × Int},x=(m,true,0)→ay0 m→(ay0 m→bo3 m)→(ae8 m++ab3 m.subs).length≤d.length→∃ m,x=(m,true,0)∧ay0 m∧bo3 m∧(ae8 m++ab3 m.subs).length≤d.length:=fun h r g l=>⟨_,h,r,g r,l⟩
 have bare:∀ m:Msg,bareOf m=some m→bareB m=true:=fun m h=>by rw [bareB,h]; exact aT0 m
 split
 ·split
  ·exact .inr ⟨_,rfl⟩
  ·have n2:=ap0 (d:=d) (p:=2) (by omega) (by omega)
   have n4:=ap0 (d:=d) (p:=4) (by omega) (by omega)
   refine (bM1 _ _).imp (fun ⟨l,h,h1,h2,h3,h4⟩=>bO2 h ⟨n2,n4,w0,w0,bare _ rfl,aT5 h1 h2,rfl⟩ (fun r=>good _ ⟨n300,?_,by simp,by simp,by simp,by simp,by simp,by simp,by simp,by simp,h1.few⟩ r z7 z0 z0 z0 z0) ?_) id
   ·have:=aN4 (l:=l); simp at h4; dsimp only; omega
   ·have:=dr0 (l:=l); simp [ae8,ab6] at h3 ⊢; omega
 ·split
  ·split
   ·exact .inr ⟨_,rfl⟩
   ·have n0:=ap0 (d:=d) (p:=0) (by omega) (by omega)
    refine (bM1 _ _).imp (fun ⟨l,h,h1,h2,h3,h4⟩=>bO2 h ⟨n0,w0,w0,w0,bare _ rfl,aT5 h1 h2,rfl⟩ (fun r=>good _ ⟨n300,?_,by simp,by simp,by simp,by simp,by simp,by simp,by simp,by simp,h1.few⟩ r z8 z0 z0 z0 z0) ?_) id
    ·have:=aN4 (l:=l); simp at h4; dsimp only; omega
    ·have:=dr0 (l:=l); simp [ae8,ab6] at h3 ⊢; omega
  ·split
   ·split
    ·exact .inr ⟨_,rfl⟩
    ·have n2:=ap0 (d:=d) (p:=2) (by omega) (by omega)
     have n4:=ap0 (d:=d) (p:=4) (by omega) (by omega)
     have hf:bt d 0 / 128=0∨bt d 0 / 128=1:=by omega
     refine (bM1 _ _).imp (fun ⟨l,h,h1,h2,h3,h4⟩=>bO2 h ⟨w0,n4,n2,w0,bare _ rfl,aT5 h1 h2,?_⟩ (fun r=>good _ ⟨n300,?_,by simp,by simp,by simp,by simp,by simp,by simp,by simp,by simp,h1.few⟩ r z9 (show 0≤bt d 0 / 128∧bt d 0 / 128 < 100 by omega) z0 z0 z0) ?_) id
     ·simp only [cu6]; rcases hf with e | e <;> rw [e] <;> rfl
     ·have:=aN4 (l:=l); simp at h4; dsimp only; omega
     ·have:=dr0 (l:=l); simp [ae8,ab6] at h3 ⊢; omega
   ·split
    ·exact .inr ⟨_,rfl⟩
    ·split
     ·exact .inr ⟨_,rfl⟩
     ·split
      ·exact .inr ⟨_,rfl⟩
      ·rename_i hx hl
       have n2:=ap0 (d:=d) (p:=2) (by omega) (by omega)
       have n4:=ap0 (d:=d) (p:=4) (by omega) (by omega)
       have hae:bt d 0=0∨bt d 0=1∨bt d 0=2∨bt d 0=3:=by omega
       have hA:∀ a,a=(if bt d 0=3 then az0++aa4 d 6 8 else aa4 d 6 (bd5 (bt d 0)))→bo2 (bt d 0) a=true∧a.length≤16∧(((if bt d 0=3 then a.drop 8 else a).length:Nat):Int)=bd5 (bt d 0):=by
        intro a ha
        have hc:∀ n:Int,0≤n→n=bd5 (bt d 0)→((aa4 d 6 n).length:Int)=n:=fun n h0 hn=>aj4 (by omega) h0 (by omega)
        rcases hae with e | e | e | e
        ·rw [e] at ha hc ⊢
         have:=hc 0 (by omega) rfl
         have e0:a=[]:=List.length_eq_zero_iff.1 (by rw [ha]; exact (by omega:(aa4 d 6 0).length=0))
         rw [e0]; exact ⟨rfl,by simp,rfl⟩
        ·rw [e] at ha hc ⊢
         have:=hc 4 (by omega) rfl
         have e0:(a.length:Int)=4:=by rw [ha]; exact this
         exact ⟨by simp [bo2]; omega,by omega,e0⟩
        ·rw [e] at ha hc ⊢
         have:=hc 16 (by omega) rfl
         have e0:(a.length:Int)=16:=by rw [ha]; exact this
         exact ⟨by simp [bo2]; omega,by omega,e0⟩
        ·rw [e] at ha hc ⊢
         have:=hc 8 (by omega) rfl
         rw [if_pos rfl] at ha
         have e1:ai0 a=true:=by rw [ha]; exact dC0 (by omega)
         have e0:=(aw8 e1).1
         rw [if_pos rfl]
         exact ⟨by simp [bo2,e1],by omega,by simp [e0,bd5]⟩
       obtain ⟨A1,A2,A3⟩:=hA _ rfl
       refine (bM1 _ _).imp (fun ⟨l,h,h1,h2,h3,h4⟩=>bO2 h ⟨w0,n4,w0,n2,bare _ rfl,aT5 h1 h2,A1⟩ (fun r=>good _ ⟨n300,?_,by simp,by simp,by simp,by simp,?_,by simp,by simp,by simp,h1.few⟩ r z10 z0 (show 0≤bt d 0∧bt d 0 < 100 by omega) z0 z0) ?_) id
       ·have:=aN4 (l:=l); simp at h4; dsimp only; omega
       ·dsimp only; omega
       ·have:=dr0 (l:=l)
        have hn:0≤bd5 (bt d 0):=by unfold bd5; split <;> (try split) <;> (try split) <;> omega
        generalize hq:(if bt d 0=3 then az0++aa4 d 6 8 else aa4 d 6 (bd5 (bt d 0)))=a at A3 ⊢
        simp only [List.length_drop] at h3
        simp only [ae8,List.length_append,ab6]
        rw [if_neg (by decide),if_neg (by decide),if_neg (by decide)]
        simp only [List.length_append,ab6]
        omega
theorem dU6:∀ {l:List Sub} (p:Int),bv7 l→∃ tl,spl p (ab3 l)=.ok tl∧keep tl=l∧free tl=true
 | [],p,_=>⟨[],aW2 p,rfl,rfl⟩
 | y::l,p,h=>by
  have hy:=h y (List.mem_cons_self ..)
  have h1:(aa1 y.type_).toNat=y.type_.toNat:=by have:=ah0 y.type_; rw [if_pos (by omega)] at this; omega
  have h2:(aa1 (y.data.length:Int)).toNat=y.data.length:=by have:=ah0 (y.data.length:Int); rw [if_pos (by omega)] at this; omega
  have h0:aa1 y.type_≠0:=fun e=>by rw [e] at h1; simp at h1; omega
  obtain ⟨tl,e1,e2,e3⟩:=dU6 (l:=l) (p+2+y.data.length) (fun z hz=>h z (List.mem_cons_of_mem _ hz))
  refine ⟨⟨y.type_,p,y.data⟩::tl,?_,?_,?_⟩
  ·rw [ab3,bv6 h0 (by rw [h2]; simp),h2,h1]
   simp only [List.drop_left,List.take_left]
   rw [e1,show ((y.type_.toNat:Nat):Int)=y.type_ by omega]; rfl
  ·rw [keep,if_pos ⟨hy.1,hy.2.1⟩,e2]
  ·rw [et2,e3,decide_eq_true hy.2.1]; rfl
theorem cP7 {l:List Sub} (h:bv7 l) (h2:ak4 l≤200):az6 (ab3 l)=(l,true,0):=by
 obtain ⟨tl,e1,e2,e3⟩:=dU6 0 h
 unfold az6
 rw [e1]
 dsimp only
 rw [e2,e3,ek4,if_neg (by omega)]
theorem aH5 {x y:Bs} {n:Int} (h:(x.length:Int)=n):aa4 (x++y) 0 n=x:=by
 unfold aa4
 rw [show ((0:Int)+n).toNat=x.length by omega]
 simp
theorem am1 {x y:Bs} {k:Nat} {p n:Int} (h:x.length=k) (hp:(k:Int)≤p) (hn:0≤n):aa4 (x++y) p n=aa4 y (p - k) n:=by
 unfold aa4
 obtain ⟨a,rfl⟩:∃ a:Nat,p=k+a:=⟨(p - k).toNat,by omega⟩
 obtain ⟨b,rfl⟩:∃ b:Nat,n=b:=⟨n.toNat,by omega⟩
 rw [show ((k:Int)+(a:Int)+(b:Int)).toNat=k+(a+b) by omega,show ((k:Int)+(a:Int)).toNat=k+a by omega,show ((k:Int)+(a:Int) - (k:Int)+(b:Int)).toNat=a+b by omega,show ((k:Int)+(a:Int) - (k:Int)).toNat=a by omega,← h,List.take_length_add_append,List.drop_length_add_append]
theorem ax2 {n:Int} (h:0≤n∧n < 65536):num (be 2 n)=n:=bV5 2 n h.1 h.2
theorem ea9 {m:Msg} (r:ay0 m):aZ7 (m.kind - 5) (ae8 m++ab3 m.subs)=(m,true,0):=by
 obtain ⟨hr,hs⟩:=aH1 r.subs
 have hg:=cP7 hr hs
 have hbare:=r.bare
 have l2:∀ n,(be 2 n).length=2:=ab6 2
 have cat:∀ (a b:Int) (x:Bs),(be 2 a++(be 2 b++x)).drop 4=x:=fun a b x=>by
  rw [← List.append_assoc,List.drop_left' (by simp [l2])]
 have fin:∀ F:List Sub→Msg,F m.subs=m→cO4 F (az6 (ab3 m.subs))=(m,true,0):=fun F h=>by rw [hg]; show (F m.subs,true,0)=_; rw [h]
 have eqm:∀ x,bareOf m=some x→x=m:=fun x h=>by rw [bareB,h] at hbare; exact eqB_true.1 hbare
 rcases r.kinds with hk | hk | ⟨hk,hf⟩ | ⟨hk,ha⟩
 ·have hx:=eqm _ (by unfold bareOf; rw [if_neg (by omega),if_neg (by omega),if_neg (by omega),if_neg (by omega),if_neg (by omega),if_neg (by omega),if_pos hk])
  have ef:ae8 m=be 2 0++(be 2 m.nonce++be 2 m.interval):=by unfold ae8; rw [if_pos hk]
  rw [ef,hk]
  have el:(be 2 0++(be 2 m.nonce++be 2 m.interval)++ab3 m.subs).length=6+(ab3 m.subs).length:=by simp [l2]; omega
  have e1:aa4 (be 2 0++(be 2 m.nonce++be 2 m.interval)++ab3 m.subs) 2 2=be 2 m.nonce:=by
   rw [List.append_assoc,am1 (l2 _) (by omega) (by omega),List.append_assoc]; exact aH5 (by simp [l2])
  have e2:aa4 (be 2 0++(be 2 m.nonce++be 2 m.interval)++ab3 m.subs) 4 2=be 2 m.interval:=by
   rw [List.append_assoc,am1 (l2 _) (by omega) (by omega),List.append_assoc,am1 (l2 _) (by omega) (by omega)]; exact aH5 (by simp [l2])
  have e3:(be 2 0++(be 2 m.nonce++be 2 m.interval)++ab3 m.subs).drop 6=ab3 m.subs:=List.drop_left' (by simp [l2])
  unfold aZ7
  rw [if_pos (by omega),if_neg (by omega),e1,e2,e3,ax2 r.nonce,ax2 r.interval]
  refine fin _ ?_
  rw [hk] at hx
  exact hx
 ·have hx:=eqm _ (by unfold bareOf; rw [if_neg (by omega),if_neg (by omega),if_neg (by omega),if_neg (by omega),if_neg (by omega),if_neg (by omega),if_neg (by omega),if_pos hk])
  have ef:ae8 m=be 2 m.nonce:=by unfold ae8; rw [if_neg (by omega),if_pos hk]
  rw [ef,hk]
  have el:(be 2 m.nonce++ab3 m.subs).length=2+(ab3 m.subs).length:=by simp [l2]
  have e1:aa4 (be 2 m.nonce++ab3 m.subs) 0 2=be 2 m.nonce:=aH5 (by simp [l2])
  have e3:(be 2 m.nonce++ab3 m.subs).drop 2=ab3 m.subs:=List.drop_left' (by simp [l2])
  unfold aZ7
  rw [if_neg (by omega),if_pos (by omega),if_neg (by omega),e1,e3,ax2 r.nonce]
  refine fin _ ?_
  rw [hk] at hx
  exact hx
 ·have hx:=eqm _ (by unfold bareOf; rw [if_neg (by omega),if_neg (by omega),if_neg (by omega),if_neg (by omega),if_neg (by omega),if_neg (by omega),if_neg (by omega),if_neg (by omega),if_pos hk])
  have ef:ae8 m=be 2 (32768 * m.flags)++(be 2 m.seq++be 2 m.interval):=by unfold ae8; rw [if_neg (by omega),if_neg (by omega),if_pos hk]
  rw [ef,hk]
  have el:(be 2 (32768 * m.flags)++(be 2 m.seq++be 2 m.interval)++ab3 m.subs).length=6+(ab3 m.subs).length:=by simp [l2]; omega
  have e0:bt (be 2 (32768 * m.flags)++(be 2 m.seq++be 2 m.interval)++ab3 m.subs) 0 / 128=m.flags:=by
   rw [← eU2 _ (by omega),List.append_assoc,aH5 (by simp [l2]),ax2 (by omega)]; omega
  have e1:aa4 (be 2 (32768 * m.flags)++(be 2 m.seq++be 2 m.interval)++ab3 m.subs) 2 2=be 2 m.seq:=by
   rw [List.append_assoc,am1 (l2 _) (by omega) (by omega),List.append_assoc]; exact aH5 (by simp [l2])
  have e2:aa4 (be 2 (32768 * m.flags)++(be 2 m.seq++be 2 m.interval)++ab3 m.subs) 4 2=be 2 m.interval:=by
   rw [List.append_assoc,am1 (l2 _) (by omega) (by omega),List.append_assoc,am1 (l2 _) (by omega) (by omega)]; exact aH5 (by simp [l2])
  have e3:(be 2 (32768 * m.flags)++(be 2 m.seq++be 2 m.interval)++ab3 m.subs).drop 6=ab3 m.subs:=List.drop_left' (by simp [l2])
  unfold aZ7
  rw [if_neg (by omega),if_neg (by omega),if_pos (by omega),if_neg (by omega),e0,e1,e2,e3,ax2 r.seq,ax2 r.interval]
  refine fin _ ?_
  rw [hk] at hx
  exact hx
 ·have hx:=eqm _ (by unfold bareOf; rw [if_neg (by omega),if_neg (by omega),if_neg (by omega),if_neg (by omega),if_neg (by omega),if_neg (by omega),if_neg (by omega),if_neg (by omega),if_neg (by omega),if_pos hk])
  obtain ⟨A,hA⟩:∃ A,A=(if m.ae=3 then m.addr.drop 8 else m.addr):=⟨_,rfl⟩
  have hc:=by7 ha
  have hae:0≤m.ae∧m.ae≤3:=by rcases hc with ⟨h,_⟩ | ⟨h,_⟩ | ⟨h,_⟩ | ⟨h,_⟩ <;> omega
  have ef:ae8 m=be 2 (256 * m.ae)++(be 2 m.cost++(be 2 m.interval++A)):=by unfold ae8; rw [if_neg (by omega),if_neg (by omega),if_neg (by omega),hA]
  have hAl:(A.length:Int)=bd5 m.ae∧(if m.ae=3 then az0++A else A)=m.addr:=by
   rcases hc with ⟨h,h2⟩ | ⟨h,h2⟩ | ⟨h,h2⟩ | ⟨h,h2⟩
   ·rw [h] at hA ⊢; rw [if_neg (by omega)] at hA ⊢; rw [hA,h2]; exact ⟨rfl,rfl⟩
   ·rw [h] at hA ⊢; rw [if_neg (by omega)] at hA ⊢; rw [hA]; exact ⟨by rw [h2]; rfl,rfl⟩
   ·rw [h] at hA ⊢; rw [if_neg (by omega)] at hA ⊢; rw [hA]; exact ⟨by rw [h2]; rfl,rfl⟩
   ·rw [h] at hA ⊢; rw [if_pos rfl] at hA ⊢; rw [hA]; exact ⟨by rw [List.length_drop,(aw8 h2).1]; rfl,dp0 h2⟩
  rw [ef,hk]
  have el:(be 2 (256 * m.ae)++(be 2 m.cost++(be 2 m.interval++A))++ab3 m.subs).length=6+A.length+(ab3 m.subs).length:=by simp [l2]; omega
  have e0:bt (be 2 (256 * m.ae)++(be 2 m.cost++(be 2 m.interval++A))++ab3 m.subs) 0=m.ae:=by
   rw [← eU1 _ (by omega),List.append_assoc,aH5 (by simp [l2]),ax2 (by omega)]; omega
  have e1:aa4 (be 2 (256 * m.ae)++(be 2 m.cost++(be 2 m.interval++A))++ab3 m.subs) 2 2=be 2 m.cost:=by
   rw [List.append_assoc,am1 (l2 _) (by omega) (by omega),List.append_assoc]; exact aH5 (by simp [l2])
  have e2:aa4 (be 2 (256 * m.ae)++(be 2 m.cost++(be 2 m.interval++A))++ab3 m.subs) 4 2=be 2 m.interval:=by
   rw [List.append_assoc,am1 (l2 _) (by omega) (by omega),List.append_assoc,am1 (l2 _) (by omega) (by omega),List.append_assoc]; exact aH5 (by simp [l2])
  have e4:aa4 (be 2 (256 * m.ae)++(be 2 m.cost++(be 2 m.interval++A))++ab3 m.subs) 6 (bd5 m.ae)=A:=by
   rw [List.append_assoc,am1 (l2 _) (by omega) (by omega),List.append_assoc,am1 (l2 _) (by omega) (by omega),List.append_assoc,am1 (l2 _) (by omega) (by omega)]; exact aH5 hAl.1
  have e3:(be 2 (256 * m.ae)++(be 2 m.cost++(be 2 m.interval++A))++ab3 m.subs).drop (6+bd5 m.ae).toNat=ab3 m.subs:=List.drop_left' (by simp [l2]; omega)
  unfold aZ7
  rw [if_neg (by omega),if_neg (by omega),if_neg (by omega),if_neg (by omega),e0,if_neg (by omega),if_neg (by omega),e1,e2,e3,ax2 r.cost,ax2 r.interval]
  refine fin _ ?_
  have e5:(if m.ae=3 then az0++aa4 (be 2 (256 * m.ae)++(be 2 m.cost++(be 2 m.interval++A))++ab3 m.subs) 6 8 else aa4 (be 2 (256 * m.ae)++(be 2 m.cost++(be 2 m.interval++A))++ab3 m.subs) 6 (bd5 m.ae))=m.addr:=by
   rw [e4]
   by_cases h3:m.ae=3
   ·have h8:bd5 m.ae=8:=by rw [h3]; rfl
    rw [h8] at e4
    rw [if_pos h3,e4]
    have:=hAl.2; rw [if_pos h3] at this; exact this
   ·have:=hAl.2; rw [if_neg h3] at this ⊢; exact this
  rw [e5]
  rw [hk] at hx
  exact hx
theorem ay0.small {m:Msg} (r:ay0 m):(ae8 m).length≤22:=by
 unfold ae8; split
 ·simp [ab6]
 ·split
  ·simp [ab6]
  ·split
   ·simp [ab6]
   ·rcases r.kinds with hk | hk | ⟨hk,_⟩ | ⟨hk,ha⟩ <;> first | omega | skip
    rcases by7 ha with ⟨h,h2⟩ | ⟨h,h2⟩ | ⟨h,h2⟩ | ⟨h,h2⟩
    ·simp [ab6,h,h2]
    ·simp [ab6,h,h2]
    ·simp [ab6,h,h2]
    ·have:=(aw8 h2).1
     simp [ab6,h,this]
theorem eb0 {m:Msg} (r:ay0 m):aD4 m=(aa1 (m.kind - 5)::aa1 (ae8 m++ab3 m.subs).length::(ae8 m++ab3 m.subs),true)∧(ae8 m++ab3 m.subs).length≤255∧2≤m.kind - 5∧m.kind - 5≤5:=by
 have h1:=r.small
 have h2:=aW3 r.subs
 have hk:2≤m.kind - 5∧m.kind - 5≤5:=by rcases r.kinds with h | h | ⟨h,_⟩ | ⟨h,_⟩ <;> omega
 have hl:(ae8 m++ab3 m.subs).length≤255:=by simp; omega
 refine ⟨?_,hl,hk⟩
 unfold aD4
 rw [if_pos (av7.2 r),as6,if_pos ⟨by omega,by omega,hl⟩]
theorem eE8 {t p:Int} {d:Bs} (ht:1≤t∧t≤255) (hd:d.length≤255):spl p (aa1 t::aa1 d.length::d)=.ok [⟨t,p,d⟩]:=by
 have h1:(aa1 t).toNat=t.toNat:=by have:=ah0 t; rw [if_pos (by omega)] at this; omega
 have h2:(aa1 (d.length:Int)).toNat=d.length:=by have:=ah0 (d.length:Int); rw [if_pos (by omega)] at this; omega
 have h0:aa1 t≠0:=fun e=>by rw [e] at h1; simp at h1; omega
 rw [bv6 h0 (by omega),h2,List.drop_length,aW2,List.take_length,h1]
 simp only [Except.map]
 rw [show ((t.toNat:Nat):Int)=t by omega]
theorem eE9:az6 []=([],true,0):=by unfold az6; rw [aW2]; rfl
end Go.VP
namespace Go.VP
open Go Go.VI
def szA (ae:Int):Int:=if ae=0 then 0 else (if ae=1 then 4 else (if ae=2 then 16 else 16))
def af7 (ae:Int):Int:=if ae=0 then 0 else (if ae=1 then 0 else (if ae=2 then 0 else 8))
def bo8 (ae:Int):Int:=if ae=0 then 0 else (if ae=1 then 0 else (if ae=2 then 0 else 64))
def aE8 (ae:Int):Int:=if ae=0 then 0 else (if ae=1 then 32 else (if ae=2 then 128 else 128))
theorem bw4 {ae:Int} (h:0≤ae∧ae < 4):ae=0∨ae=1∨ae=2∨ae=3:=by omega
def inB (ae:Int) (a:Bs) (plen:Int):Bool:=decide (0≤ae∧ae < 4) && (decide ((a.length:Int)=szA ae) && (decide (bo8 ae≤plen∧plen≤aE8 ae) && (bo1 a plen && (decide (ae≠3) || ai0 a))))
theorem eK0 {ae plen:Int} {a:Bs} (ha:a.length≤1000000000) (hp:IntKind.has .i64 plen):bk3 (ae,a,plen,())=some ((inB ae a plen,()),()):=by
 rw [dI4,bK0,Option.bind_some]
 dsimp only
 unfold inB
 by_cases h0:ae < 0
 ·rw [ifd h0,decide_eq_false (by omega)]; rfl
 by_cases h3:3 < ae
 ·rw [ifn h0,ifd h3,decide_eq_false (by omega)]; rfl
 have hae:0≤ae∧ae < 4:=by omega
 rw [ifn h0,ifn h3,if_pos hae,decide_eq_true hae,Bool.true_and]
 change (if ((a.length:Int)==szA ae)=true then (if decide (bo8 ae≤plen)=true then (if decide (plen≤aE8 ae)=true then _ else _) else _) else _)=_
 by_cases h1:(a.length:Int)=szA ae
 ·rw [if_pos (by simp [h1]),decide_eq_true h1,Bool.true_and]
  by_cases h2:bo8 ae≤plen
  ·rw [ifd h2]
   by_cases h4:plen≤aE8 ae
   ·rw [ifd h4,decide_eq_true ⟨h2,h4⟩,Bool.true_and,de3 ha hp,Option.bind_some,cT1]
    dsimp only
    cases bo1 a plen
    ·rfl
    ·rw [ift,Bool.true_and]
     by_cases h5:ae=3
     ·rw [if_neg (by simp [h5])]; simp [h5]
     ·rw [if_pos (by simp [h5])]; simp [h5]
   ·rw [ifn h4,decide_eq_false (by omega)]; rfl
  ·rw [ifn h2,decide_eq_false (by omega)]; rfl
 ·rw [if_neg (by simp [h1]),decide_eq_false h1]; rfl
def cT4 (m:Msg):Bool:=if m.kind=12 then true else if m.kind=13 then (decide (0 < m.ae) && (ac5 m.seq 2 && (decide (1≤m.hops∧m.hops≤255) && decide (m.id.length=8)))) else false
noncomputable def bC4 (m:Msg):Bool:=bareB m && (al9 m.subs && (inB m.ae m.prefix_ m.plen && cT4 m))
theorem eU6 (l:Bs):((l.length:Int)==8)=decide (l.length=8):=by rw [Bool.eq_iff_iff]; simp; omega
theorem dr1 {m:Msg} (g:bo3 m):aB0 (m,())=some ((bC4 m,()),()):=by
 have h2:ab1 (m.seq,2,())=some ((ac5 m.seq 2,()),()):=ap8 (k:=2) g.seq (by omega) (by omega)
 have h1:ab1 (m.hops,1,())=some ((ac5 m.hops 1,()),()):=ap8 (k:=1) g.hops (by omega) (by omega)
 rw [dd7,bare_is,Option.bind_some,cc0 g.few.fewS,Option.bind_some,eK0 (by have:=g.few.pre; omega) g.plen,Option.bind_some,h1,h2]
 dsimp only
 unfold bC4
 cases bareB m
 ·rfl
 rw [aj6,Bool.true_and]
 cases al9 m.subs
 ·rfl
 rw [aj6,Bool.true_and]
 cases inB m.ae m.prefix_ m.plen
 ·rfl
 rw [aj6,Bool.true_and]
 unfold cT4
 refine ac8 (fun h=>?_) (fun h=>?_)
 ·rw [if_pos h]
 rw [if_neg h]
 refine ac8 (fun h=>?_) (fun h=>?_)
 ·rw [if_pos h,Option.bind_some,Option.bind_some,eU6]
  by_cases ha:0 < m.ae
  ·rw [ifd ha,decide_eq_true ha,Bool.true_and]
   cases ac5 m.seq 2
   ·rfl
   rw [ift,Bool.true_and]
   by_cases hh:0 < m.hops
   ·rw [ifd hh]
    have:ac5 m.hops 1=decide (1≤m.hops∧m.hops≤255):=by unfold ac5; rw [Bool.eq_iff_iff]; simp; omega
    rw [this]
    cases decide (1≤m.hops∧m.hops≤255) <;> rfl
   ·rw [ifn hh,decide_eq_false (by omega)]; rfl
  ·rw [ifn ha,decide_eq_false ha]; rfl
 rw [if_neg h]
structure as7 (m:Msg):Prop where
 bare:bareB m=true
 subs:al9 m.subs=true
 ae:0≤m.ae∧m.ae < 4
 len:(m.prefix_.length:Int)=szA m.ae
 plen:bo8 m.ae≤m.plen∧m.plen≤aE8 m.ae
 clean:ag5 m.prefix_ m.plen=m.prefix_
 link:m.ae=3→ai0 m.prefix_=true
 kind:cT4 m=true
theorem cq1 {ae plen:Int} {a:Bs}:inB ae a plen=true↔(0≤ae∧ae < 4)∧(a.length:Int)=szA ae∧(bo8 ae≤plen∧plen≤aE8 ae)∧ag5 a plen=a∧(ae=3→ai0 a=true):=by
 unfold inB bo1
 simp only [Bool.and_eq_true,decide_eq_true_eq,beq_iff_eq,Bool.or_eq_true]
 constructor
 ·rintro ⟨a,b,c,d,e⟩; exact ⟨a,b,c,d,fun h=>e.resolve_left (fun h2=>h2 h)⟩
 ·rintro ⟨a,b,c,d,e⟩; exact ⟨a,b,c,d,by by_cases h:ae=3 <;> simp [h,e]⟩
theorem av8 {m:Msg}:bC4 m=true↔as7 m:=by
 unfold bC4
 simp only [Bool.and_eq_true,cq1]
 exact ⟨fun ⟨a,b,⟨c,d,e,f,g⟩,h⟩=>⟨a,b,c,d,e,f,g,h⟩,fun h=>⟨h.1,h.2,⟨h.3,h.4,h.5,h.6,h.7⟩,h.8⟩⟩
theorem as7.kinds {m:Msg} (h:as7 m):m.kind=12∨(m.kind=13∧0 < m.ae∧(0≤m.seq∧m.seq < 65536)∧(1≤m.hops∧m.hops≤255)∧m.id.length=8):=by
 have:=h.kind
 unfold cT4 at this
 split at this
 ·exact .inl (by assumption)
 ·split at this
  ·simp only [Bool.and_eq_true,decide_eq_true_eq,bV8] at this
   exact .inr ⟨by assumption,this⟩
  ·cases this
def ac2 (m:Msg):Bs:=(bV7 m.prefix_ m.plen).drop (af7 m.ae).toNat
theorem eb1 (a:Bs) (n:Int):(bV7 a n).length=min (ad9 n).toNat a.length:=by unfold bV7; rw [aT1,List.length_take]
theorem ar9 {ae plen:Int} (hae:0≤ae∧ae < 4) (hp:bo8 ae≤plen∧plen≤aE8 ae):0≤af7 ae∧af7 ae≤ad9 plen∧ad9 plen≤szA ae∧0≤plen∧plen≤128∧szA ae≤16:=by
 have h8:ad9 plen=if plen < 0 then 0 else (plen+7) / 8:=rfl
 rcases bw4 hae with rfl | rfl | rfl | rfl
 ·have:0≤plen∧plen≤0:=hp
  rw [h8]; show 0≤(0:Int)∧(0:Int)≤_∧_≤(0:Int)∧_∧_∧(0:Int)≤16; rw [if_neg (by omega)]; omega
 ·have:0≤plen∧plen≤32:=hp
  rw [h8]; show 0≤(0:Int)∧(0:Int)≤_∧_≤(4:Int)∧_∧_∧(4:Int)≤16; rw [if_neg (by omega)]; omega
 ·have:0≤plen∧plen≤128:=hp
  rw [h8]; show 0≤(0:Int)∧(0:Int)≤_∧_≤(16:Int)∧_∧_∧(16:Int)≤16; rw [if_neg (by omega)]; omega
 ·have:64≤plen∧plen≤128:=hp
  rw [h8]; show 0≤(8:Int)∧(8:Int)≤_∧_≤(16:Int)∧_∧_∧(16:Int)≤16; rw [if_neg (by omega)]; omega
theorem as7.cut {m:Msg} (h:as7 m):((bV7 m.prefix_ m.plen).length:Int)=ad9 m.plen∧((ac2 m).length:Int)=ad9 m.plen - af7 m.ae:=by
 obtain ⟨h1,h2,h3,h4,h5,h6⟩:=ar9 h.ae h.plen
 have:=h.len
 have hc:((bV7 m.prefix_ m.plen).length:Int)=ad9 m.plen:=by rw [eb1]; omega
 exact ⟨hc,by unfold ac2; rw [List.length_drop]; omega⟩
def az1 (m:Msg):Bs:=if m.kind=13 then aa1 m.ae::aa1 m.plen::(be 2 m.seq++(aa1 m.hops::0::(m.id++ac2 m))) else aa1 m.ae::aa1 m.plen::ac2 m
noncomputable def aD6 (m:Msg):Bs × Bool:=if bC4 m=true then as6 (if m.kind=13 then 10 else 9) (az1 m++ab3 m.subs) else ([],false)
theorem u8w {n:Int} (h:0≤n):aa1 (IntKind.wrap .u8 n)=aa1 n:=by rw [wu8,aB9 h]
theorem eY2 {n:Int} (h:0≤n∧n < 65536):be 2 n=[aa1 (IntKind.wrap .u8 (ae4 .i64 n 8)),aa1 (IntKind.wrap .u8 n)]:=(be2 h).symm
theorem ev3 {m:Msg} (g:bo3 m):aY6 (m,())=some (((aD6 m).1,(aD6 m).2,()),()):=by
 rw [dv4,dr1 g,Option.bind_some]
 unfold aD6
 dsimp only
 by_cases h:bC4 m=true
 ·have r:=av8.1 h
  have hs:=dw0 g.few.fewS (by have:=g.few.subs; omega)
  rw [dT2 r.subs] at hs
  have hz:=aW3 r.subs
  obtain ⟨c1,c2⟩:=r.cut
  obtain ⟨l1,l2,l3,l4,l5,l6⟩:=ar9 r.ae r.plen
  have hcut:=ee2 (a:=m.prefix_) (n:=m.plen) (by have:=g.few.pre; omega) g.plen (by omega)
  rw [if_neg (by simp [h]),if_pos h,hs,Option.bind_some,hcut,bK0,u8w r.ae.1,u8w l4]
  simp only [Option.bind_some]
  have hd:((bV7 m.prefix_ m.plen).drop (af7 m.ae).toNat)=ac2 m:=rfl
  have hae:0≤m.ae∧m.ae < 4:=r.ae
  rcases r.kinds with hk | ⟨hk,_,hq,hh,hi⟩
  ·rw [if_neg (show ¬(m.kind==13)=true by simp [hk]),if_pos hae]
   change (if 0≤af7 m.ae∧af7 m.ae≤((bV7 m.prefix_ m.plen).length:Int) then (if ag8 ([aa1 m.ae,aa1 m.plen].length+(ac2 m).length)=true then (if af1 (([aa1 m.ae,aa1 m.plen]++ac2 m).length+(ab3 m.subs).length)=true then ((af4 (9,(([aa1 m.ae,aa1 m.plen]++ac2 m)++ab3 m.subs),())).bind _) else none) else none) else none)=_
   rw [if_pos (by omega),if_pos (ah7 (by simp; omega)),if_pos (af6 (by simp; omega)),aW1,Option.bind_some,if_neg (show ¬m.kind=13 by omega)]
   unfold az1
   rw [if_neg (show ¬m.kind=13 by omega)]; rfl
  ·rw [if_pos (show (m.kind==13)=true by simp [hk]),if_pos (ah7 (by simp)),if_pos (ah7 (by simp; omega)),if_pos hae,u8w (n:=m.hops) (by omega)]
   change (if 0≤af7 m.ae∧af7 m.ae≤((bV7 m.prefix_ m.plen).length:Int) then (if ag8 ((([aa1 m.ae,aa1 m.plen]++[aa1 (IntKind.wrap .u8 (ae4 .i64 m.seq 8)),aa1 (IntKind.wrap .u8 m.seq),aa1 m.hops,0])++m.id).length+(ac2 m).length)=true then (if af1 (((([aa1 m.ae,aa1 m.plen]++[aa1 (IntKind.wrap .u8 (ae4 .i64 m.seq 8)),aa1 (IntKind.wrap .u8 m.seq),aa1 m.hops,0])++m.id)++ac2 m).length+(ab3 m.subs).length)=true then ((af4 (10,(((([aa1 m.ae,aa1 m.plen]++[aa1 (IntKind.wrap .u8 (ae4 .i64 m.seq 8)),aa1 (IntKind.wrap .u8 m.seq),aa1 m.hops,0])++m.id)++ac2 m)++ab3 m.subs),())).bind _) else none) else none) else none)=_
   rw [if_pos (by omega),if_pos (ah7 (by simp; omega)),if_pos (af6 (by simp; omega)),aW1,Option.bind_some,if_pos hk]
   unfold az1
   rw [if_pos hk,eY2 hq]
   simp
 ·rw [Bool.not_eq_true] at h
  rw [h,aS8,bd2]
end Go.VP
namespace Go.VP
open Go Go.VI
abbrev Raw:=aR0
abbrev el5:Raw:=⟨0,0,0,0,0,0,0,0,[],[]⟩
def as8 (ae plen:Int):Bool:=!decide (bo8 ae≤plen∧plen≤aE8 ae)
def ai3 (ae plen om:Int):Int:=ad9 plen - af7 ae - om
def au7 (d:Bs) (p ae plen om:Int):Bs × Int:=if as8 ae plen=true∨ai3 ae plen om < 0 then ([],6) else if (d.length:Int) < p+ai3 ae plen om then ([],2) else (aa4 d p (ai3 ae plen om),0)
theorem cP8 (ae:Int):0≤af7 ae∧af7 ae≤8:=by unfold af7; split <;> (try split) <;> (try split) <;> omega
def ap4 (ae:Int) (b:Bs) (plen:Int):Bs:=ag5 (if ae=3 then az0++cc2 b 8 else cc2 b (szA ae)) plen
theorem aT6 (s:Bs) (n:Int):(cc2 s n).length=max s.length n.toNat:=by unfold cc2; simp; omega
def bC5 (ty:Int) (d:Bs):Msg × Bool × Int:=
 if (d.length:Int) < (if ty=10 then 14 else 2) then (aX6,false,2)
 else if 3 < bt d 0 then (aX6,false,0)
 else
  let p:Int:=if ty=10 then 14 else 2
  let b:=au7 d p (bt d 0) (bt d 1) 0
  if b.2≠0 then (aX6,false,b.2)
  else
   let x:=az6 (d.drop (p+ai3 (bt d 0) (bt d 1) 0).toNat)
   if x.2.2≠0∨x.2.1=false then (aX6,false,x.2.2)
   else if ty=10 then (if bt d 0=0∨bt d 4=0 then (aX6,false,0) else (⟨13,0,0,[],0,bt d 0,ap4 (bt d 0) b.1 (bt d 1),bt d 1,0,[],0,aa4 d 6 8,num (aa4 d 2 2),0,0,0,bt d 4,0,0,[],[],[],0,[],x.1⟩,true,0))
   else (⟨12,0,0,[],0,bt d 0,ap4 (bt d 0) b.1 (bt d 1),bt d 1,0,[],0,[],0,0,0,0,0,0,0,[],[],[],0,[],x.1⟩,true,0)
theorem cP9 {ae plen:Int} (hae:0≤ae∧ae < 4) (hg:as8 ae plen=false):0≤ai3 ae plen 0∧ai3 ae plen 0≤16∧(ae=0→ai3 ae plen 0=0)∧(ae=3→ai3 ae plen 0≤8)∧(0≤plen∧plen≤128):=by
 unfold as8 at hg
 have hp:bo8 ae≤plen∧plen≤aE8 ae:=by simpa using hg
 obtain ⟨h1,h2,h3,h4,h5,h6⟩:=ar9 hae hp
 unfold ai3
 refine ⟨by omega,by omega,fun h=>?_,fun h=>?_,h4,h5⟩
 ·subst h; have:szA 0=0:=rfl; omega
 ·subst h; have:szA 3=16:=rfl; have:af7 3=8:=rfl; omega
theorem eO0 {d:Bs} {p ae plen:Int} (hae:0≤ae∧ae < 4) (h0:0≤p) (h:(au7 d p ae plen 0).2=0):(au7 d p ae plen 0).1=aa4 d p (ai3 ae plen 0)∧as8 ae plen=false∧p+ai3 ae plen 0≤d.length∧((au7 d p ae plen 0).1.length:Int)=ai3 ae plen 0:=by
 unfold au7 at h ⊢
 split at h
 ·cases h
 ·rename_i hg
  have hg':as8 ae plen=false:=by
   cases hx:as8 ae plen with
   | false=>rfl
   | true=>exact absurd (.inl hx) hg
  have:=cP9 hae hg'
  split at h
  ·cases h
  ·rename_i hl
   rw [if_neg hg,if_neg hl]
   exact ⟨rfl,hg',by omega,aj4 h0 (by omega) (by omega)⟩
theorem cQ0 {d:Bs} {p ae plen om:Int} (h:as8 ae plen=false) (h0:0≤ai3 ae plen om) (h2:¬(d.length:Int) < p+ai3 ae plen om):au7 d p ae plen om=(aa4 d p (ai3 ae plen om),0):=by
 unfold au7; rw [h,if_neg (by simp; omega),if_neg h2]
end Go.VP
namespace Go.VP
open Go Go.VI
def ae1 (d:Bs):Raw × Bool × Int:=
 if (d.length:Int) < 10 then (el5,false,2)
 else if 3 < bt d 0 then (el5,false,0)
 else
  let b:=au7 d 10 (bt d 0) (bt d 2) (bt d 3)
  if b.2≠0 then (el5,false,b.2)
  else
   let x:=az6 (d.drop (10+ai3 (bt d 0) (bt d 2) (bt d 3)).toNat)
   if x.2.2≠0 then (el5,false,x.2.2)
   else (⟨bt d 0,bt d 1,bt d 2,bt d 3,num (aa4 d 4 2),num (aa4 d 6 2),num (aa4 d 8 2),if x.2.1=true then 1 else 0,b.1,x.1⟩,true,0)
end Go.VP
namespace Go.VP
open Go Go.VI
theorem el6 (b k:Nat):by5 (by5 b k) k=by5 b k:=by
 unfold by5; rw [Nat.mul_div_cancel _ (Nat.pow_pos (by decide))]
theorem el7 (b:UInt8) (k:Int):by6 (by6 b k) k=by6 b k:=by
 apply UInt8.toNat.inj; rw [aZ6,aZ6,el6]
theorem bM2:∀ (s:Bs) (n:Int),ag5 (ag5 s n) n=ag5 s n
 | [],_=>rfl
 | b::r,n=>by simp only [ag5,el7,bM2 r]
theorem dC7:az0.length=8:=rfl
theorem ev4 {x:Bs} {n:Int} (h:64≤n) (hx:x.length=8):ai0 (ag5 (az0++x) n)=true:=by
 rw [bo0,cc1 (s:=az0) (by rw [dC7]; omega)]
 exact dC0 (by rw [aT1]; exact hx)
theorem cv7 {ae plen:Int} {b:Bs} (hae:0≤ae∧ae < 4) (hb:(b.length:Int)≤szA ae - af7 ae):((ap4 ae b plen).length:Int)=szA ae:=by
 unfold ap4
 rw [aT1]
 rcases bw4 hae with rfl | rfl | rfl | rfl
 ·have:(b.length:Int)≤0 - 0:=hb
  rw [if_neg (by decide),aT6]; show ((max b.length (0:Int).toNat:Nat):Int)=0; omega
 ·have:(b.length:Int)≤4 - 0:=hb
  rw [if_neg (by decide),aT6]; show ((max b.length (4:Int).toNat:Nat):Int)=4; omega
 ·have:(b.length:Int)≤16 - 0:=hb
  rw [if_neg (by decide),aT6]; show ((max b.length (16:Int).toNat:Nat):Int)=16; omega
 ·have:(b.length:Int)≤16 - 8:=hb
  rw [if_pos rfl,List.length_append,aT6,dC7]; show ((8+max b.length (8:Int).toNat:Nat):Int)=16; omega
theorem ci9 {plen:Int} {b:Bs} (h:64≤plen) (hb:b.length≤8):ai0 (ap4 3 b plen)=true:=by
 unfold ap4
 rw [if_pos rfl]
 exact ev4 h (by rw [aT6]; show max b.length 8=8; omega)
theorem eb2 {a:Bs} {n:Int} (h:ag5 a n=a) (h0:0≤n):a=a.take (ad9 n).toNat++List.replicate (a.length - (ad9 n).toNat) 0∧bV7 a n=a.take (ad9 n).toNat:=by
 have hl:8 * ad9 n ≥ n:=by unfold ad9; rw [if_neg (by omega)]; omega
 have hn:=dC1 n
 have e1:ag5 (a.take (ad9 n).toNat) n=a.take (ad9 n).toNat:=by rw [← el1,h]
 refine ⟨?_,e1⟩
 by_cases hs:(ad9 n).toNat≤a.length
 ·have e2:ag5 (a.drop (ad9 n).toNat) (n - 8 * (a.take (ad9 n).toNat).length)=a.drop (ad9 n).toNat:=by
   have:=h
   conv at this=>lhs; rw [← List.take_append_drop (ad9 n).toNat a]
   rw [bo0,e1] at this
   conv at this=>rhs; rw [← List.take_append_drop (ad9 n).toNat a]
   exact List.append_cancel_left this
  rw [bL9 (by rw [List.length_take]; omega),List.length_drop] at e2
  conv=>lhs; rw [← List.take_append_drop (ad9 n).toNat a,← e2]
 ·rw [List.take_of_length_le (by omega),show a.length - (ad9 n).toNat=0 by omega]; simp
theorem cj0 {m:Msg} (r:as7 m):ap4 m.ae (ac2 m) m.plen=m.prefix_:=by
 obtain ⟨l1,l2,l3,l4,l5,l6⟩:=ar9 r.ae r.plen
 obtain ⟨p1,p2⟩:=eb2 r.clean l4
 have hlen:=r.len
 have key:(if m.ae=3 then az0++cc2 (ac2 m) 8 else cc2 (ac2 m) (szA m.ae))=m.prefix_:=by
  unfold ac2
  rw [p2]
  by_cases h3:m.ae=3
  ·have hb:=r.link h3
   have h16:=aw8 hb
   have e8:af7 m.ae=8:=by rw [h3]; rfl
   rw [e8] at l2
   rw [if_pos h3,e8,← h16.2]
   have tl:(m.prefix_.take (ad9 m.plen).toNat).length=(ad9 m.plen).toNat:=by rw [List.length_take]; omega
   have e1:m.prefix_.take 8=(m.prefix_.take (ad9 m.plen).toNat).take 8:=by rw [List.take_take]; congr 1; omega
   unfold cc2
   rw [e1,← List.append_assoc]
   show List.take 8 (m.prefix_.take (ad9 m.plen).toNat)++List.drop 8 (m.prefix_.take (ad9 m.plen).toNat)++List.replicate ((8:Int).toNat - (List.drop 8 (m.prefix_.take (ad9 m.plen).toNat)).length) 0=_
   rw [List.take_append_drop,List.length_drop,tl]
   conv=>rhs; rw [p1]
   congr 2
   rw [h16.1]
   show 8 - ((ad9 m.plen).toNat - 8)=16 - (ad9 m.plen).toNat
   omega
  ·have e0:af7 m.ae=0:=by
    rcases bw4 r.ae with h | h | h | h
    ·rw [h]; rfl
    ·rw [h]; rfl
    ·rw [h]; rfl
    ·exact absurd h h3
   rw [if_neg h3,e0]
   unfold cc2
   have tl:(m.prefix_.take (ad9 m.plen).toNat).length=(ad9 m.plen).toNat:=by rw [List.length_take]; omega
   show List.drop 0 (m.prefix_.take (ad9 m.plen).toNat)++List.replicate ((szA m.ae).toNat - (List.drop 0 (m.prefix_.take (ad9 m.plen).toNat)).length) 0=_
   rw [List.drop_zero,tl]
   conv=>rhs; rw [p1]
   congr 2
   omega
 unfold ap4
 rw [key,r.clean]
theorem ee8 {m:Msg} (r:as7 m):as8 m.ae m.plen=false∧ai3 m.ae m.plen 0=(ac2 m).length:=by
 have:=r.cut.2
 refine ⟨by unfold as8; rw [decide_eq_true r.plen]; rfl,?_⟩
 unfold ai3; omega
theorem eb3 {m:Msg} (r:as7 m):bC5 (if m.kind=13 then 10 else 9) (az1 m++ab3 m.subs)=(m,true,0):=by
 obtain ⟨hr,hs⟩:=aH1 r.subs
 have hg:=cP7 hr hs
 have hbare:=r.bare
 obtain ⟨l1,l2,l3,l4,l5,l6⟩:=ar9 r.ae r.plen
 obtain ⟨q1,q2⟩:=ee8 r
 have eqm:∀ x,bareOf m=some x→x=m:=fun x h=>by rw [bareB,h] at hbare; exact eqB_true.1 hbare
 have uA:((aa1 m.ae).toNat:Int)=m.ae:=by rw [ah0,if_pos r.ae.1]; have:=r.ae; omega
 have uP:((aa1 m.plen).toNat:Int)=m.plen:=by rw [ah0,if_pos l4]; omega
 rcases r.kinds with hk | ⟨hk,ha,hq,hh,hi⟩
 ·have hx:=eqm _ (by unfold bareOf; rw [if_neg (by omega),if_neg (by omega),if_neg (by omega),if_neg (by omega),if_neg (by omega),if_neg (by omega),if_neg (by omega),if_neg (by omega),if_neg (by omega),if_neg (by omega),if_neg (by omega),if_pos hk])
  have eh:az1 m=aa1 m.ae::aa1 m.plen::ac2 m:=by unfold az1; rw [if_neg (by omega)]
  rw [if_neg (show ¬m.kind=13 by omega),eh]
  generalize hD:(aa1 m.ae::aa1 m.plen::ac2 m)++ab3 m.subs=D
  have hlen:D.length=2+(ac2 m).length+(ab3 m.subs).length:=by rw [← hD]; simp; omega
  have t0:bt D 0=m.ae:=by rw [← hD]; exact uA
  have t1:bt D 1=m.plen:=by rw [← hD]; exact uP
  have hp:au7 D 2 m.ae m.plen 0=(ac2 m,0):=by
   rw [cQ0 q1 (by omega) (by omega),q2]
   have:aa4 D 2 ((ac2 m).length:Int)=ac2 m:=by
    rw [← hD]
    show aa4 ([aa1 m.ae,aa1 m.plen]++(ac2 m++ab3 m.subs)) 2 _=_
    rw [am1 (k:=2) rfl (by omega) (by omega)]
    exact aH5 rfl
   rw [this]
  have hdr:D.drop (2+ai3 m.ae m.plen 0).toNat=ab3 m.subs:=by
   rw [← hD,q2]
   exact List.drop_left' (by simp; omega)
  unfold bC5
  rw [if_neg (show ¬(9:Int)=10 by decide),if_neg (by omega),t0,t1,if_neg (by have:=r.ae; omega)]
  dsimp only
  rw [hp,hdr,hg]
  dsimp only
  rw [if_neg (show ¬(0:Int)≠0 by decide),if_neg (show ¬((0:Int)≠0∨true=false) by decide),if_neg (show ¬(9:Int)=10 by decide),cj0 r]
  rw [hk] at hx
  rw [hx]
 ·have hx:=eqm _ (by unfold bareOf; rw [if_neg (by omega),if_neg (by omega),if_neg (by omega),if_neg (by omega),if_neg (by omega),if_neg (by omega),if_neg (by omega),if_neg (by omega),if_neg (by omega),if_neg (by omega),if_neg (by omega),if_neg (by omega),if_pos hk])
  have uH:((aa1 m.hops).toNat:Int)=m.hops:=by rw [ah0,if_pos (by omega)]; omega
  have eh:az1 m=aa1 m.ae::aa1 m.plen::(be 2 m.seq++(aa1 m.hops::0::(m.id++ac2 m))):=by unfold az1; rw [if_pos hk]
  rw [if_pos hk,eh]
  generalize hD:(aa1 m.ae::aa1 m.plen::(be 2 m.seq++(aa1 m.hops::0::(m.id++ac2 m))))++ab3 m.subs=D
  have hlen:D.length=14+(ac2 m).length+(ab3 m.subs).length:=by rw [← hD]; simp [ab6]; omega
  have t0:bt D 0=m.ae:=by rw [← hD]; exact uA
  have t1:bt D 1=m.plen:=by rw [← hD]; exact uP
  have t4:bt D 4=m.hops:=by rw [← hD]; exact uH
  have e6:D=[aa1 m.ae,aa1 m.plen]++(be 2 m.seq++([aa1 m.hops,0]++(m.id++(ac2 m++ab3 m.subs)))):=by rw [← hD]; simp
  have cs:aa4 D 2 2=be 2 m.seq:=by
   rw [e6,am1 (k:=2) rfl (by omega) (by omega)]; exact aH5 rfl
  have ci:aa4 D 6 8=m.id:=by
   rw [e6,am1 (k:=2) rfl (by omega) (by omega),am1 (k:=2) rfl (by omega) (by omega),am1 (k:=2) rfl (by omega) (by omega)]; exact aH5 (by omega)
  have hp:au7 D 14 m.ae m.plen 0=(ac2 m,0):=by
   rw [cQ0 q1 (by omega) (by omega),q2]
   have:aa4 D 14 ((ac2 m).length:Int)=ac2 m:=by
    rw [e6,am1 (k:=2) rfl (by omega) (by omega),am1 (k:=2) rfl (by omega) (by omega),am1 (k:=2) rfl (by omega) (by omega),am1 (k:=8) hi (by omega) (by omega)]; exact aH5 rfl
   rw [this]
  have hdr:D.drop (14+ai3 m.ae m.plen 0).toNat=ab3 m.subs:=by
   rw [← hD,q2]
   exact List.drop_left' (by simp [ab6]; omega)
  unfold bC5
  rw [if_pos (show (10:Int)=10 from rfl),if_neg (by omega),t0,t1,t4,if_neg (by have:=r.ae; omega)]
  dsimp only
  rw [hp,hdr,hg,cs,ci,ax2 hq]
  dsimp only
  rw [if_neg (show ¬(0:Int)≠0 by decide),if_neg (show ¬((0:Int)≠0∨true=false) by decide),if_pos (show (10:Int)=10 from rfl),if_neg (show ¬(m.ae=0∨m.hops=0) by omega),cj0 r]
  rw [hk] at hx
  rw [hx]
theorem dU7 {ty:Int} {d:Bs} (ht:ty=9∨ty=10) (hd:d.length≤300) :
  (∃ m,bC5 ty d=(m,true,0)∧as7 m∧bo3 m∧(az1 m++ab3 m.subs).length≤d.length∧m.kind=ty+3)∨(∃ e,bC5 ty d=(aX6,false,e)):=by
 have b0:=ai5 d 0
 have b1:=ai5 d 1
 have b4:=ai5 d 4
 unfold bC5
 by_cases hl:(d.length:Int) < (if ty=10 then 14 else 2)
 ·rw [if_pos hl]; exact .inr ⟨_,rfl⟩
 rw [if_neg hl]
 by_cases ha:3 < bt d 0
 ·rw [if_pos ha]; exact .inr ⟨_,rfl⟩
 rw [if_neg ha]
 have hae:0≤bt d 0∧bt d 0 < 4:=by omega
 dsimp only
 have hp0:(0:Int)≤(if ty=10 then 14 else 2)∧(if ty=10 then (14:Int) else 2)≤14:=by split <;> omega
 generalize hP:(if ty=10 then (14:Int) else 2)=P at *
 by_cases hb:(au7 d P (bt d 0) (bt d 1) 0).2≠0
 ·rw [if_pos hb]; exact .inr ⟨_,rfl⟩
 rw [if_neg hb]
 have hb:(au7 d P (bt d 0) (bt d 1) 0).2=0:=by simpa using hb
 obtain ⟨f1,f2,f3,f4⟩:=eO0 hae hp0.1 hb
 have f5:=cP9 hae f2
 have hpl:bo8 (bt d 0)≤bt d 1∧bt d 1≤aE8 (bt d 0):=by unfold as8 at f2; simpa using f2
 obtain ⟨l1,l2,l3,l4,l5,l6⟩:=ar9 hae hpl
 have hrn:ai3 (bt d 0) (bt d 1) 0=ad9 (bt d 1) - af7 (bt d 0):=by unfold ai3; omega
 rcases cv6 (d.drop (P+ai3 (bt d 0) (bt d 1) 0).toNat) with ⟨l,hg,hA,hS,hL,hN⟩ | ⟨l,hg⟩ | ⟨e,hg,_⟩
 ·rw [hg]
  dsimp only
  rw [if_neg (show ¬((0:Int)≠0∨true=false) by decide)]
  have wl:=cv7 (plen:=bt d 1) (b:=(au7 d P (bt d 0) (bt d 1) 0).1) hae (by omega)
  have wc:ag5 (ap4 (bt d 0) (au7 d P (bt d 0) (bt d 1) 0).1 (bt d 1)) (bt d 1)=ap4 (bt d 0) (au7 d P (bt d 0) (bt d 1) 0).1 (bt d 1):=bM2 _ _
  have wk:bt d 0=3→ai0 (ap4 (bt d 0) (au7 d P (bt d 0) (bt d 1) 0).1 (bt d 1))=true:=fun h=>by
   rw [h] at hpl ⊢
   have h8:=f5.2.2.2.1 h
   rw [h] at f4 h8
   exact ci9 hpl.1 (by omega)
  have bare:∀ m:Msg,bareOf m=some m→bareB m=true:=fun m h=>by rw [bareB,h]; exact aT0 m
  have sub2:=aN4 (l:=l)
  have hle:=aN3 l
  have n1000:([]:List ci2).length≤1000:=by decide
  have e0:([]:Bs).length≤400:=by decide
  have has0:IntKind.has .i64 0:=has64.2 (by omega)
  have drl:((d.drop (P+ai3 (bt d 0) (bt d 1) 0).toNat).length:Int)=d.length - (P+ai3 (bt d 0) (bt d 1) 0):=by rw [List.length_drop]; omega
  rcases ht with rfl | rfl
  ·rw [if_neg (show ¬(9:Int)=10 by decide)] at hP ⊢
   subst hP
   have r:as7 ⟨12,0,0,[],0,bt d 0,ap4 (bt d 0) (au7 d 2 (bt d 0) (bt d 1) 0).1 (bt d 1),bt d 1,0,[],0,[],0,0,0,0,0,0,0,[],[],[],0,[],l⟩:=⟨bare _ rfl,aT5 hA hS,hae,wl,hpl,wc,wk,rfl⟩
   refine .inl ⟨_,rfl,r,⟨⟨n1000,by dsimp only; omega,e0,by dsimp only; omega,e0,e0,e0,e0,e0,(fun d h=>by cases h),hA.few⟩,has0,has0,has0,has0,has64.2 (by dsimp only; omega),has0,has64.2 (by dsimp only; omega),has64.2 (by dsimp only; omega),has0⟩,?_,rfl⟩
   have hc:=r.cut.2
   dsimp only at hc ⊢
   unfold az1
   rw [if_neg (show ¬(12:Int)=13 by decide)]
   simp only [List.length_append,List.length_cons]
   omega
  ·rw [if_pos (show (10:Int)=10 from rfl)] at hP ⊢
   subst hP
   split
   ·exact .inr ⟨_,rfl⟩
   ·rename_i h04
    have hq:=ap0 (d:=d) (p:=2) (by omega) (by omega)
    have hi:=aj4 (s:=d) (p:=6) (n:=8) (by omega) (by omega) (by omega)
    have kr:cT4 ⟨13,0,0,[],0,bt d 0,ap4 (bt d 0) (au7 d 14 (bt d 0) (bt d 1) 0).1 (bt d 1),bt d 1,0,[],0,aa4 d 6 8,num (aa4 d 2 2),0,0,0,bt d 4,0,0,[],[],[],0,[],l⟩=true:=by
     unfold cT4
     rw [if_neg (show ¬(13:Int)=12 by decide),if_pos rfl]
     simp only [Bool.and_eq_true,decide_eq_true_eq,bV8]
     exact ⟨by omega,hq,by omega,by omega⟩
    have r:as7 ⟨13,0,0,[],0,bt d 0,ap4 (bt d 0) (au7 d 14 (bt d 0) (bt d 1) 0).1 (bt d 1),bt d 1,0,[],0,aa4 d 6 8,num (aa4 d 2 2),0,0,0,bt d 4,0,0,[],[],[],0,[],l⟩:=⟨bare _ rfl,aT5 hA hS,hae,wl,hpl,wc,wk,kr⟩
    refine .inl ⟨_,rfl,r,⟨⟨n1000,by dsimp only; omega,e0,by dsimp only; omega,e0,by dsimp only; omega,e0,e0,e0,(fun d h=>by cases h),hA.few⟩,has0,has0,has64.2 (by dsimp only; omega),has0,has64.2 (by dsimp only; omega),has0,has64.2 (by dsimp only; omega),has64.2 (by dsimp only; omega),has64.2 (by dsimp only; omega)⟩,?_,rfl⟩
    have hc:=r.cut.2
    dsimp only at hc ⊢
    unfold az1
    rw [if_pos rfl]
    simp only [List.length_append,List.length_cons,ab6]
    omega
 ·rw [hg]; exact .inr ⟨0,rfl⟩
 ·rw [hg]
  refine .inr ⟨e,?_⟩
  dsimp only
  rw [if_pos (.inr rfl)]
theorem eb4 {m:Msg} (r:as7 m):(az1 m).length≤30:=by
 obtain ⟨l1,l2,l3,l4,l5,l6⟩:=ar9 r.ae r.plen
 have:=r.cut.2
 unfold az1
 rcases r.kinds with hk | ⟨hk,_,_,_,hi⟩
 ·rw [if_neg (by omega)]; simp only [List.length_cons]; omega
 ·rw [if_pos hk]; simp only [List.length_cons,List.length_append,ab6]; omega
theorem eb5 {m:Msg} (r:as7 m):aD6 m=(aa1 (if m.kind=13 then 10 else 9)::aa1 (az1 m++ab3 m.subs).length::(az1 m++ab3 m.subs),true)∧(az1 m++ab3 m.subs).length≤255:=by
 have h1:=eb4 r
 have h2:=aW3 r.subs
 have hl:(az1 m++ab3 m.subs).length≤255:=by simp only [List.length_append]; omega
 refine ⟨?_,hl⟩
 unfold aD6
 have ht:1≤(if m.kind=13 then (10:Int) else 9)∧(if m.kind=13 then (10:Int) else 9)≤255:=by split <;> omega
 rw [if_pos (av8.2 r),as6,if_pos ⟨ht.1,ht.2,hl⟩]
end Go.VP
namespace Go.VP
open Go Go.VI
abbrev Ctx:=af0
def ad8 (ae:Int):Int:=if ae=1 then 0 else if ae=2 then 1 else if ae=3 then 1 else -1
theorem ee9 (ae:Int):aR8 (ae,())=some ((ad8 ae,()),()):=by
 rw [dn7]; unfold ad8
 by_cases h1:ae=1
 ·rw [if_pos (by simp [h1]),if_pos h1]
 rw [if_neg (by simp [h1]),if_neg h1]
 by_cases h2:ae=2
 ·rw [if_pos (by simp [h2]),if_pos (by simp [h2]),if_pos h2]
 rw [if_neg (by simp [h2]),if_neg h2]
 by_cases h3:ae=3
 ·rw [if_pos (by simp [h3]),if_pos h3]
 ·rw [if_neg (by simp [h3]),if_neg h3]
theorem dU8 {ae:Int} (h:1≤ae∧ae≤3):0≤ad8 ae∧ad8 ae < 2:=by
 unfold ad8; split
 ·omega
 split
 ·omega
 split <;> omega
theorem el8 {s:Bs} (h:(az6 s).2.1=true):(az6 s).2.2=0:=by
 unfold az6 at h ⊢
 split at h
 ·rename_i l e
  unfold ek4 at h ⊢
  split at h
  ·cases h
  ·rename_i h0; rw [if_neg h0]
 ·cases h
def aT7 (d:Bs) (n:Int):Bool × Int:=if (d.length:Int) < n then (false,2) else ((az6 (d.drop n.toNat)).2.1,(az6 (d.drop n.toNat)).2.2)
theorem cQ1 {d:Bs} {n:Int} (h:(aT7 d n).1=true):(aT7 d n).2=0∧n≤d.length:=by
 unfold aT7 at h ⊢
 split at h
 ·cases h
 ·rename_i h0; rw [if_neg h0]; exact ⟨el8 h,by omega⟩
def as0 (c:Ctx) (i:Bs):Ctx:=⟨c.prefix_c0,c.prefix_c1,c.prefix_c2,c.prefix_c3,c.next_c0,c.next_c1,i⟩
def bd7 (c:Ctx) (k:Int) (a:Bs):Ctx:=⟨c.prefix_c0,c.prefix_c1,c.prefix_c2,c.prefix_c3,(if k=0 then a else c.next_c0),(if k=1 then a else c.next_c1),c.id⟩
def idF (c:Ctx) (d:Bs):Ctx × Int:=if (aT7 d 10).1=true then (as0 c (aa4 d 2 8),0) else (c,(aT7 d 10).2)
def aX7 (ae:Int):Int:=if ae=0 then (0:Int) else (if ae=1 then (4:Int) else (if ae=2 then (16:Int) else (8:Int)))
theorem eF0 (ae:Int):0≤aX7 ae∧aX7 ae≤16:=by
 unfold aX7; split
 ·omega
 split
 ·omega
 split <;> omega
def bX2 (d:Bs):Bs:=if bt d 0=3 then (do9 (aa4 d 2 (aX7 (bt d 0)))).1 else aa4 d 2 (aX7 (bt d 0))
def cQ2 (c:Ctx) (d:Bs):Ctx × Int:=
 if (d.length:Int) < 2 then (c,2) else if bt d 0 < 1∨3 < bt d 0 then (c,0)
 else if (aT7 d (2+aX7 (bt d 0))).1=true then (bd7 c (ad8 (bt d 0)) (bX2 d),0)
 else (c,(aT7 d (2+aX7 (bt d 0))).2)
end Go.VP
namespace Go.VP
open Go Go.VI
theorem aK3 {R:Type} {p:Prop} [Decidable p] {t f r:R} (h:p→t=r) (h':¬p→f=r):(if decide p=true then t else f)=r:=by
 by_cases hp:p
 ·rw [ifd hp]; exact h hp
 ·rw [ifn hp]; exact h' hp
theorem dy1 {R:Type} {x y:Bs} {f t r:R} (heq:x=y→t=r) (hne:x≠y→f=r):(if (x==y)=true then t else f)=r:=by
 by_cases h:x=y
 ·rw [if_pos (by simp [h])]; exact heq h
 ·rw [if_neg (by simpa using h)]; exact hne h
def okC (c:Ctx):Prop:=c.prefix_c0=[]∧(c.prefix_c1=[]∨c.prefix_c1.length=4)∧(c.prefix_c2=[]∨c.prefix_c2.length=16)∧(c.prefix_c3=[]∨ai0 c.prefix_c3=true)∧(c.next_c0=[]∨c.next_c0.length=4)∧(c.next_c1=[]∨c.next_c1.length=16)∧(c.id=[]∨c.id.length=8)
structure dL6 (r:Raw):Prop where
 ae:0≤r.ae∧r.ae < 4
 om:0≤r.omitted
 plen:0≤r.plen∧r.plen≤128
 len:r.omitted+r.bytes.length≤szA r.ae - af7 r.ae
 flags:0≤r.flags∧r.flags≤255
 metric:0≤r.metric∧r.metric≤65535
 have_:r.have_=0∨r.have_=1
 low:bo8 r.ae≤r.plen
def aD7 (c:Ctx) (ae:Int):Bs:=if ae=0 then c.prefix_c0 else (if ae=1 then c.prefix_c1 else (if ae=2 then c.prefix_c2 else c.prefix_c3))
theorem dg1 {c:Ctx} (h:okC c) {ae:Int} (ha:0≤ae∧ae < 4) (hn:aD7 c ae≠[]):((aD7 c ae).length:Int)=szA ae:=by
 obtain ⟨h0,h1,h2,h3,_⟩:=h
 rcases bw4 ha with rfl | rfl | rfl | rfl
 ·exact absurd h0 hn
 ·rcases h1 with e | e
  ·exact absurd e hn
  ·show (c.prefix_c1.length:Int)=4; omega
 ·rcases h2 with e | e
  ·exact absurd e hn
  ·show (c.prefix_c2.length:Int)=16; omega
 ·rcases h3 with e | e
  ·exact absurd e hn
  ·have:=(aw8 e).1; show (c.prefix_c3.length:Int)=16; omega
def ap5 (c:Ctx) (r:Raw):Bs × Bool:=
 if r.omitted=0 then (ap4 r.ae r.bytes r.plen,true)
 else if aD7 c r.ae=[] then ([],false)
 else (ap4 r.ae (aa4 (aD7 c r.ae) (af7 r.ae) r.omitted++r.bytes) r.plen,true)
def aq7 (c:Ctx) (r:Raw) (a:Bs):Ctx:=
 if r.ae=0 then c else
  let i:=if r.flags / 64 % 2=1 then (z4'++a).drop (a.length - 4) else c.id
  if 128≤r.flags then ⟨(if r.ae=0 then a else c.prefix_c0),(if r.ae=1 then a else c.prefix_c1),(if r.ae=2 then a else c.prefix_c2),(if r.ae=3 then a else c.prefix_c3),c.next_c0,c.next_c1,i⟩ else as0 c i
 where z4':Bs:=[0,0,0,0]
def cT5 (c:Ctx) (r:Raw):Bool:=decide (r.have_=1) && (decide (r.metric=65535) || (decide (0 < r.ae) && !(c.id==[])))
end Go.VP
namespace Go.VP
open Go Go.VI
theorem dC8 {d:Bs} (h:(ae1 d).2.1=true):dL6 (ae1 d).1∧(ae1 d).2.2=0:=by
 have b0:=ai5 d 0
 have b1:=ai5 d 1
 have b2:=ai5 d 2
 have b3:=ai5 d 3
 unfold ae1 at h ⊢
 split at h
 ·cases h
 rename_i h1
 split at h
 ·cases h
 rename_i h2
 rw [if_neg h1,if_neg h2]
 dsimp only at h ⊢
 split at h
 ·cases h
 rename_i h3
 split at h
 ·cases h
 rename_i h4
 rw [if_neg h3,if_neg h4]
 have h3:(au7 d 10 (bt d 0) (bt d 2) (bt d 3)).2=0:=by simpa using h3
 have n8:=bN1 (aa4 d 8 2)
 have l8:((aa4 d 8 2).length:Int)=2:=aj4 (by omega) (by omega) (by omega)
 have l8':(aa4 d 8 2).length=2:=by omega
 rw [l8'] at n8
 unfold au7 at h3 ⊢
 split at h3
 ·cases h3
 rename_i hg
 split at h3
 ·cases h3
 rename_i hl
 rw [if_neg hg,if_neg hl]
 have hg1:as8 (bt d 0) (bt d 2)=false:=by
  cases e:as8 (bt d 0) (bt d 2) with
  | false=>rfl
  | true=>exact absurd (.inl e) hg
 have hg2:0≤ai3 (bt d 0) (bt d 2) (bt d 3):=by omega
 obtain ⟨q1,q2,q3,q4,q5⟩:=cP9 (ae:=bt d 0) (by omega) hg1
 have hcl:=aj4 (s:=d) (p:=10) (n:=ai3 (bt d 0) (bt d 2) (bt d 3)) (by omega) hg2 (by omega)
 have hp:bo8 (bt d 0)≤bt d 2∧bt d 2≤aE8 (bt d 0):=by unfold as8 at hg1; simpa using hg1
 obtain ⟨r1,r2,r3,r4,r5,r6⟩:=ar9 (ae:=bt d 0) (by omega) hp
 refine ⟨⟨by show 0≤bt d 0∧bt d 0 < 4; omega,b3.1,q5,?_,by show 0≤bt d 1∧bt d 1≤255; omega,by show 0≤num (aa4 d 8 2)∧num (aa4 d 8 2)≤65535; omega,?_,hp.1⟩,rfl⟩
 ·show bt d 3+((aa4 d 10 (ai3 (bt d 0) (bt d 2) (bt d 3))).length:Int)≤szA (bt d 0) - af7 (bt d 0)
  rw [hcl]
  unfold ai3
  omega
 ·show (if _=true then (1:Int) else 0)=0∨(if _=true then (1:Int) else 0)=1
  split
  ·exact .inr rfl
  ·exact .inl rfl
def cQ3 (c:Ctx) (r:Raw) (a:Bs):Msg:=⟨11,0,0,[],0,r.ae,a,r.plen,0,(if r.metric=65535 then [] else (if ad8 r.ae=0 then c.next_c0 else c.next_c1)),r.metric,(if r.metric=65535 then [] else c.id),r.seq,0,r.interval,0,0,0,0,[],[],[],0,[],r.subs⟩
def bo9 (c:Ctx) (d:Bs):Ctx × List Msg × Int:=
 if (ae1 d).2.1=true then
  (if (ap5 c (ae1 d).1).2=true then
   (if cT5 (aq7 c (ae1 d).1 (ap5 c (ae1 d).1).1) (ae1 d).1=true then (aq7 c (ae1 d).1 (ap5 c (ae1 d).1).1,[cQ3 (aq7 c (ae1 d).1 (ap5 c (ae1 d).1).1) (ae1 d).1 (ap5 c (ae1 d).1).1],0)
   else (aq7 c (ae1 d).1 (ap5 c (ae1 d).1).1,[],0))
  else (c,[],9))
 else (c,[],(ae1 d).2.2)
theorem dC9 {c:Ctx} {r:Raw} (hc:okC c) (hr:dL6 r) (h:(ap5 c r).2=true):((ap5 c r).1.length:Int)=szA r.ae:=by
 have hl:=hr.len
 have ho:=hr.om
 have hbs:=cP8 r.ae
 unfold ap5 at h ⊢
 by_cases h0:r.omitted=0
 ·rw [if_pos h0]; exact cv7 hr.ae (by omega)
 ·rw [if_neg h0] at h ⊢
  by_cases he:aD7 c r.ae=[]
  ·rw [if_pos he] at h; cases h
  ·rw [if_neg he]
   have hpl:=dg1 hc hr.ae he
   have hcl:((aa4 (aD7 c r.ae) (af7 r.ae) r.omitted).length:Int)=r.omitted:=aj4 (by omega) ho (by omega)
   exact cv7 hr.ae (by rw [List.length_append]; omega)
end Go.VP
namespace Go.VP
open Go Go.VI
theorem eO1 {c:Ctx} {d:Bs} (h:(ae1 d).2.1=true) (h2:(ap5 c (ae1 d).1).2=true):bo9 c d=(aq7 c (ae1 d).1 (ap5 c (ae1 d).1).1,(if cT5 (aq7 c (ae1 d).1 (ap5 c (ae1 d).1).1) (ae1 d).1=true then [cQ3 (aq7 c (ae1 d).1 (ap5 c (ae1 d).1).1) (ae1 d).1 (ap5 c (ae1 d).1).1] else []),0):=by
 unfold bo9
 rw [if_pos h,if_pos h2]
 split <;> rfl
def cd5 (c:Ctx) (ty:Int) (d:Bs):Ctx × List Msg × Int:=
 if ty=6 then ((idF c d).1,[],(idF c d).2) else if ty=7 then ((cQ2 c d).1,[],(cQ2 c d).2) else if ty=8 then bo9 c d else (c,[],0)
end Go.VP
namespace Go.VP
open Go Go.VI
theorem eF1:okC ⟨[],[],[],[],[],[],[]⟩:=⟨rfl,.inl rfl,.inl rfl,.inl rfl,.inl rfl,.inl rfl,.inl rfl⟩
theorem eU7 {c:Ctx} {d:Bs} (h:okC c):okC (idF c d).1:=by
 unfold idF
 cases hk:(aT7 d 10).1 with
 | false=>rw [if_neg (by simp)]; exact h
 | true=>
  have:=cQ1 hk
  rw [if_pos rfl]
  obtain ⟨h0,h1,h2,h3,h4,h5,h6⟩:=h
  refine ⟨h0,h1,h2,h3,h4,h5,.inr ?_⟩
  have hl:=aj4 (s:=d) (p:=2) (n:=8) (by omega) (by omega) (by omega)
  show (aa4 d 2 8).length=8
  omega
theorem eO2 {c:Ctx} {d:Bs} (h:okC c):okC (cQ2 c d).1:=by
 unfold cQ2
 split
 ·exact h
 split
 ·exact h
 rename_i h2 hr
 cases hk:(aT7 d (2+aX7 (bt d 0))).1 with
 | false=>rw [if_neg (by simp)]; exact h
 | true=>
  have hl:=cQ1 hk
  rw [if_pos rfl]
  obtain ⟨h0,h1,h2,h3,h4,h5,h6⟩:=h
  have hn:=eF0 (bt d 0)
  have hc:=aj4 (s:=d) (p:=2) (n:=aX7 (bt d 0)) (by omega) (by omega) (by omega)
  have hv:bt d 0=1∨bt d 0=2∨bt d 0=3:=by omega
  have hlong:bt d 0=3→(do9 (aa4 d 2 (aX7 (bt d 0)))).1.length=16:=fun e=>by
   have h8:aX7 (bt d 0)=8:=by rw [e]; rfl
   rw [h8] at hc ⊢
   unfold do9
   rw [if_pos (by omega),List.length_append]
   show 8+(aa4 d 2 8).length=16
   omega
  refine ⟨h0,h1,h2,h3,?_,?_,h6⟩
  ·show (if ad8 (bt d 0)=0 then bX2 d else c.next_c0)=[]∨(if ad8 (bt d 0)=0 then bX2 d else c.next_c0).length=4
   rcases hv with e | e | e
   ·rw [if_pos (by rw [e]; rfl)]
    right
    unfold bX2
    rw [if_neg (by omega)]
    have:aX7 (bt d 0)=4:=by rw [e]; rfl
    omega
   ·rw [if_neg (by rw [e]; decide)]; exact h4
   ·rw [if_neg (by rw [e]; decide)]; exact h4
  ·show (if ad8 (bt d 0)=1 then bX2 d else c.next_c1)=[]∨(if ad8 (bt d 0)=1 then bX2 d else c.next_c1).length=16
   rcases hv with e | e | e
   ·rw [if_neg (by rw [e]; decide)]; exact h5
   ·rw [if_pos (by rw [e]; rfl)]
    right
    unfold bX2
    rw [if_neg (by omega)]
    have:aX7 (bt d 0)=16:=by rw [e]; rfl
    omega
   ·rw [if_pos (by rw [e]; rfl)]
    right
    unfold bX2
    rw [if_pos e]
    exact hlong e
theorem dr2 {c:Ctx} {r:Raw} (hc:okC c) (hr:dL6 r) (h:(ap5 c r).2=true) (h3:r.ae=3):ai0 (ap5 c r).1=true:=by
 have hl:=hr.len
 have ho:=hr.om
 have hlow:=hr.low
 have hbs:=cP8 r.ae
 have s3:szA r.ae - af7 r.ae=8:=by rw [h3]; rfl
 have hp:64≤r.plen:=by rw [h3] at hlow; exact hlow
 unfold ap5 at h ⊢
 by_cases h0:r.omitted=0
 ·rw [if_pos h0,h3]; exact ci9 hp (by omega)
 ·rw [if_neg h0] at h ⊢
  by_cases he:aD7 c r.ae=[]
  ·rw [if_pos he] at h; cases h
  ·rw [if_neg he]
   have hpl:=dg1 hc hr.ae he
   have hcl:((aa4 (aD7 c r.ae) (af7 r.ae) r.omitted).length:Int)=r.omitted:=aj4 (by omega) ho (by omega)
   rw [h3] at hcl ⊢
   exact ci9 hp (by rw [List.length_append]; omega)
theorem dD0 {c:Ctx} {r:Raw} {a:Bs} (h:okC c) (hr:dL6 r) (hl:(a.length:Int)=szA r.ae) (h3:r.ae=3→ai0 a=true):okC (aq7 c r a):=by
 unfold aq7
 split
 ·exact h
 rename_i a0
 have hae:=hr.ae
 have hid:okC (as0 c (if r.flags / 64 % 2=1 then (aq7.z4'++a).drop (a.length - 4) else c.id))∧((if r.flags / 64 % 2=1 then (aq7.z4'++a).drop (a.length - 4) else c.id)=[]∨(if r.flags / 64 % 2=1 then (aq7.z4'++a).drop (a.length - 4) else c.id).length=8):=by
  have h4:4≤a.length:=by
   rcases bw4 hae with e | e | e | e
   ·exact absurd e a0
   ·rw [e] at hl; have:szA 1=4:=rfl; omega
   ·rw [e] at hl; have:szA 2=16:=rfl; omega
   ·rw [e] at hl; have:szA 3=16:=rfl; omega
  have h8:(if r.flags / 64 % 2=1 then (aq7.z4'++a).drop (a.length - 4) else c.id)=[]∨(if r.flags / 64 % 2=1 then (aq7.z4'++a).drop (a.length - 4) else c.id).length=8:=by
   split
   ·right; rw [List.length_drop,List.length_append]; show 4+a.length - (a.length - 4)=8; omega
   ·exact h.2.2.2.2.2.2
  obtain ⟨h0,h1,h2,h3,h4,h5,h6⟩:=h
  exact ⟨⟨h0,h1,h2,h3,h4,h5,h8⟩,h8⟩
 obtain ⟨h0,h1,h2,h3',h4,h5,h6⟩:=h
 dsimp only
 split
 ·refine ⟨?_,?_,?_,?_,h4,h5,hid.2⟩
  ·exact h0
  ·show (if r.ae=1 then a else c.prefix_c1)=[]∨(if r.ae=1 then a else c.prefix_c1).length=4
   split
   ·rename_i e; rw [e] at hl; have:szA 1=4:=rfl; right; omega
   ·exact h1
  ·show (if r.ae=2 then a else c.prefix_c2)=[]∨(if r.ae=2 then a else c.prefix_c2).length=16
   split
   ·rename_i e; rw [e] at hl; have:szA 2=16:=rfl; right; omega
   ·exact h2
  ·show (if r.ae=3 then a else c.prefix_c3)=[]∨ai0 (if r.ae=3 then a else c.prefix_c3)=true
   split
   ·rename_i e; exact .inr (h3 e)
   ·exact h3'
 ·exact hid.1
theorem eO3 {c:Ctx} {d:Bs} (h:okC c):okC (bo9 c d).1:=by
 unfold bo9
 split
 ·rename_i ht
  obtain ⟨hr,_⟩:=dC8 ht
  split
  ·rename_i ha
   have:=dD0 h hr (dC9 h hr ha) (dr2 h hr ha)
   split <;> exact this
  ·exact h
 ·exact h
theorem eF2 {c:Ctx} {ty:Int} {d:Bs} (h:okC c):okC (cd5 c ty d).1:=by
 unfold cd5
 split
 ·exact eU7 h
 split
 ·exact eO2 h
 split
 ·exact eO3 h
 ·exact h
end Go.VP
namespace Go.VP
open Go Go.VI
def cT6 (ty:Int) (d:Bs):Msg:=⟨14,0,0,[],0,0,[],0,0,[],0,[],0,0,0,0,0,0,0,[],[],[],ty,d,[]⟩
def bX3 (c:Ctx) (x:Msg × Bool × Int):Ctx × List Msg × Int:=if x.2.2≠0 then (c,[],x.2.2) else if x.2.1=true then (c,[x.1],0) else (c,[],0)
def ay3 (c:Ctx) (ty:Int) (d:Bs):Ctx × List Msg × Int:=
 if ty=0∨ty=1 then (c,[],0) else if ty=6∨ty=7∨ty=8 then cd5 c ty d
 else if 2≤ty∧ty≤5 then bX3 c (aZ7 ty d) else if ty=9∨ty=10 then bX3 c (bC5 ty d) else (c,[cT6 ty d],0)
end Go.VP
namespace Go.VP
open Go Go.VI
theorem ef0 (c:Ctx) (x:Msg × Bool × Int):(bX3 c x).1=c∧(bX3 c x).2.1.length≤1:=by
 unfold bX3; split
 ·exact ⟨rfl,by simp⟩
 split <;> exact ⟨rfl,by simp⟩
theorem eF3 (c:Ctx) (d:Bs):(bo9 c d).2.1.length≤1:=by
 unfold bo9; split
 ·split
  ·split <;> simp
  ·simp
 ·simp
theorem ef1 {c:Ctx} {ty:Int} {d:Bs} (h:okC c):okC (ay3 c ty d).1∧(ay3 c ty d).2.1.length≤1:=by
 unfold ay3
 split
 ·exact ⟨h,by simp⟩
 split
 ·refine ⟨eF2 h,?_⟩
  unfold cd5
  split
  ·simp
  split
  ·simp
  split
  ·exact eF3 c d
  ·simp
 split
 ·have:=ef0 c (aZ7 ty d); exact ⟨by rw [this.1]; exact h,this.2⟩
 split
 ·have:=ef0 c (bC5 ty d); exact ⟨by rw [this.1]; exact h,this.2⟩
 ·exact ⟨h,by simp⟩
def c0:Ctx:=⟨[],[],[],[],[],[],[]⟩
def aj1:Ctx→List Tlv→List Msg→List Msg × Ctx × Int × Int
 | c,[],acc=>(acc,c,0,0)
 | c,t::r,acc=>if (ay3 c t.type_ t.data).2.2≠0 then ([],c0,t.at_,(ay3 c t.type_ t.data).2.2) else aj1 (ay3 c t.type_ t.data).1 r (acc++(ay3 c t.type_ t.data).2.1)
theorem cQ4:okC c0:=eF1
end Go.VP
namespace Go.VP
open Go Go.VI
theorem dD1:∀ (a b:List Tlv) (c:Ctx) (acc:List Msg),(aj1 c a acc).2.2.2=0→aj1 c (a++b) acc=aj1 (aj1 c a acc).2.1 b (aj1 c a acc).1
 | [],b,c,acc,_=>rfl
 | t::r,b,c,acc,h=>by
  rw [List.cons_append,aj1,aj1]
  rw [aj1] at h
  by_cases he:(ay3 c t.type_ t.data).2.2≠0
  ·rw [if_pos he] at h; exact absurd h he
  ·rw [if_neg he] at h ⊢
   rw [if_neg he]
   exact dD1 r b _ _ h
theorem dD2:∀ (a:List Tlv) (c:Ctx) (acc:List Msg),(aj1 c a acc).2.2.2≠0→(aj1 c a acc).1=[]∧(aj1 c a acc).2.1=c0
 | [],c,acc,h=>absurd rfl h
 | t::r,c,acc,h=>by
  rw [aj1] at h ⊢
  by_cases he:(ay3 c t.type_ t.data).2.2≠0
  ·rw [if_pos he]; exact ⟨rfl,rfl⟩
  ·rw [if_neg he] at h ⊢
   exact dD2 r _ _ h
theorem dr3:∀ (a:List Tlv) (c:Ctx) (acc:List Msg),(aj1 c a acc).2.2.2=0→(aj1 c a acc).2.2.1=0
 | [],c,acc,h=>rfl
 | t::r,c,acc,h=>by
  rw [aj1] at h ⊢
  by_cases he:(ay3 c t.type_ t.data).2.2≠0
  ·rw [if_pos he] at h; exact absurd h he
  ·rw [if_neg he] at h ⊢
   exact dr3 r _ _ h
theorem dD3:∀ (a:List Tlv) (c:Ctx) (acc:List Msg),okC c→(aj1 c a acc).1.length≤acc.length+a.length∧okC (aj1 c a acc).2.1
 | [],c,acc,hc=>⟨by show acc.length≤_; omega,hc⟩
 | t::r,c,acc,hc=>by
  rw [aj1]
  obtain ⟨h1,h2⟩:=ef1 (ty:=t.type_) (d:=t.data) hc
  by_cases he:(ay3 c t.type_ t.data).2.2≠0
  ·rw [if_pos he]; exact ⟨by simp,cQ4⟩
  ·rw [if_neg he]
   obtain ⟨h3,h4⟩:=dD3 r _ (acc++(ay3 c t.type_ t.data).2.1) h1
   exact ⟨by simp only [List.length_append,List.length_cons] at h3 ⊢; omega,h4⟩
theorem dD4 {P:Msg→Prop} {Q:Tlv→Prop} (hP:∀ c t,okC c→Q t→∀ m∈(ay3 c t.type_ t.data).2.1,P m):∀ (a:List Tlv) (c:Ctx) (acc:List Msg),okC c→(∀ t∈a,Q t)→(∀ m∈acc,P m)→∀ m∈(aj1 c a acc).1,P m
 | [],c,acc,hc,hq,h=>h
 | t::r,c,acc,hc,hq,h=>by
  rw [aj1]
  obtain ⟨h1,h2⟩:=ef1 (ty:=t.type_) (d:=t.data) hc
  by_cases he:(ay3 c t.type_ t.data).2.2≠0
  ·rw [if_pos he]; intro m hm; cases hm
  ·rw [if_neg he]
   refine dD4 hP r _ _ h1 (fun x hx=>hq x (List.mem_cons_of_mem _ hx)) (fun m hm=>?_)
   rcases List.mem_append.1 hm with hm | hm
   ·exact h m hm
   ·exact hP _ _ hc (hq t (List.mem_cons_self ..)) m hm
def Except.app (x:Except Int (List Tlv)) (a:List Tlv):Except Int (List Tlv):=x.map (a++·)
theorem el9:∀ (a:Bs) (p:Int) (la:List Tlv),spl p a=.ok la→∀ b,spl p (a++b)=(spl (p+a.length) b).map (la++·):=by
 intro a
 induction h:a.length using Nat.strongRecOn generalizing a with
 | ind n ih=>
  intro p la hs b
  subst h
  match a,hs with
  | [],hs=>
   rw [aW2] at hs
   cases hs
   rw [List.nil_append,show p+((([]:Bs).length:Nat):Int)=p by simp]
   cases spl p b <;> rfl
  | t::r,hs=>
   by_cases ht:t=0
   ·subst ht
    rw [bV6] at hs
    cases hr:spl (p+1) r with
    | error q=>rw [hr] at hs; cases hs
    | ok lr=>
     rw [hr] at hs
     cases hs
     have:=ih r.length (by simp) r rfl (p+1) lr hr b
     rw [List.cons_append,bV6,this,show p+1+(r.length:Int)=p+((((0:UInt8)::r).length:Nat):Int) by simp; omega]
     cases spl (p+((((0:UInt8)::r).length:Nat):Int)) b <;> rfl
   ·match r,hs with
    | [],hs=>rw [cS8 ht] at hs; cases hs
    | n::d,hs=>
     by_cases hn:d.length < n.toNat
     ·rw [cS9 ht hn] at hs; cases hs
     ·rw [bv6 ht (by omega)] at hs
      cases hr:spl (p+2+n.toNat) (d.drop n.toNat) with
      | error q=>rw [hr] at hs; cases hs
      | ok lr=>
       rw [hr] at hs
       cases hs
       have:=ih (d.drop n.toNat).length (by simp; omega) (d.drop n.toNat) rfl _ lr hr b
       rw [List.cons_append,List.cons_append,bv6 ht (by rw [List.length_append]; omega),List.drop_append_of_le_length (by omega),this,List.take_append_of_le_length (by omega),show p+2+(n.toNat:Int)+((d.drop n.toNat).length:Int)=p+(((t::n::d).length:Nat):Int) by simp; omega]
       cases spl (p+(((t::n::d).length:Nat):Int)) b <;> rfl
end Go.VP
namespace Go.VP
open Go Go.VI
structure ay4 (m:Msg):Prop where
 kind:m.kind=11
 bare:bareB m=true
 subs:al9 m.subs=true
 inn:inB m.ae m.prefix_ m.plen=true
 iv:0≤m.interval∧m.interval < 65536
 sq:0≤m.seq∧m.seq < 65536
 me:0≤m.metric∧m.metric < 65536
 far:m.metric=65535→m.id=[]∧m.next=[]
 near:m.metric≠65535→0 < m.ae∧m.id.length=8∧(m.next=[]∨bn9 m.next=ad8 m.ae)
def em0 (m:Msg):Bool:=if m.metric=65535 then (m.id==[] && m.next==[]) else decide (0 < m.ae) && (decide (m.id.length=8) && (m.next==[] || decide (bn9 m.next=ad8 m.ae)))
noncomputable def dU9 (m:Msg):Bool:=decide (m.kind=11) && (bareB m && (al9 m.subs && (inB m.ae m.prefix_ m.plen && (ac5 m.interval 2 && (ac5 m.seq 2 && (ac5 m.metric 2 && em0 m))))))
theorem dV0 {m:Msg}:dU9 m=true↔ay4 m:=by
 unfold dU9 em0
 simp only [Bool.and_eq_true,decide_eq_true_eq,bV8]
 constructor
 ·rintro ⟨a,b,c,d,e,f,g,h⟩
  refine ⟨a,b,c,d,e,f,g,fun hm=>?_,fun hm=>?_⟩
  ·rw [if_pos hm] at h; simpa using h
  ·rw [if_neg hm] at h; simpa using h
 ·intro h
  refine ⟨h.1,h.2,h.3,h.4,h.5,h.6,h.7,?_⟩
  by_cases hm:m.metric=65535
  ·rw [if_pos hm]; simpa using h.far hm
  ·rw [if_neg hm]; simpa using h.near hm
def dV1 (ae:Int) (a:Bs) (plen:Int):Msg:=⟨12,0,0,[],0,ae,a,plen,0,[],0,[],0,0,0,0,0,0,0,[],[],[],0,[],[]⟩
theorem ay4.asR {m:Msg} (h:ay4 m):as7 (dV1 m.ae m.prefix_ m.plen):=by
 obtain ⟨a,b,c,d,e⟩:=cq1.1 h.inn
 have hb:bareOf (dV1 m.ae m.prefix_ m.plen)=some (dV1 m.ae m.prefix_ m.plen):=rfl
 exact ⟨by rw [bareB,hb]; exact aT0 _,rfl,a,b,c,d,e,rfl⟩
def aC3:Bs→Bs→Nat
 | a::x,b::y=>if a=b then aC3 x y+1 else 0
 | _,_=>0
theorem dV2:∀ x y:Bs,aC3 x y≤x.length∧aC3 x y≤y.length
 | [],y=>by simp [aC3]
 | a::x,[]=>by simp [aC3]
 | a::x,b::y=>by
  have:=dV2 x y
  rw [aC3]; split <;> simp <;> omega
theorem dr4:∀ x y:Bs,x.take (aC3 x y)=y.take (aC3 x y)
 | [],y=>by simp [aC3]
 | a::x,[]=>by simp [aC3]
 | a::x,b::y=>by
  rw [aC3]; split
  ·rename_i h; rw [List.take_succ_cons,List.take_succ_cons,dr4 x y,h]
  ·rfl
def bM3 (ae:Int):Int:=if ae=0 then 0 else 128
def bX4 (m:Msg) (n:Nat):Bs:=[aa1 m.ae,aa1 (bM3 m.ae),aa1 m.plen,aa1 n]++(be 2 m.interval++(be 2 m.seq++(be 2 m.metric++((ac2 m).drop n++ab3 m.subs))))
theorem ay4.pre {m:Msg} (h:ay4 m):(0≤m.ae∧m.ae < 4)∧(0≤m.plen∧m.plen≤128)∧((ac2 m).length:Int)=ad9 m.plen - af7 m.ae∧(ac2 m).length≤16∧(0≤af7 m.ae∧af7 m.ae≤8)∧m.prefix_.length≤16:=by
 have r:=h.asR
 have hc:((ac2 m).length:Int)=ad9 m.plen - af7 m.ae:=r.cut.2
 obtain ⟨l1,l2,l3,l4,l5,l6⟩:=ar9 r.ae r.plen
 have hl:(m.prefix_.length:Int)=szA m.ae:=r.len
 have hb:=cP8 m.ae
 dsimp only [dV1] at l1 l2 l3 l4 l5 l6
 exact ⟨r.ae,⟨l4,l5⟩,hc,by omega,hb,by omega⟩
theorem dV3 {m:Msg} (h:ay4 m) (n:Nat):(bX4 m n).length=10+((ac2 m).length - n)+(ab3 m.subs).length:=by
 unfold bX4
 simp [ab6]; omega
theorem ev5 {m:Msg} (h:ay4 m) {n:Nat} (hn:n≤(ac2 m).length):ae1 (bX4 m n)=(⟨m.ae,bM3 m.ae,m.plen,n,m.interval,m.seq,m.metric,1,(ac2 m).drop n,m.subs⟩,true,0):=by
 obtain ⟨hae,hpl,hbl,h16,hbs,_⟩:=h.pre
 obtain ⟨hr,hs⟩:=aH1 h.subs
 have hg:=cP7 hr hs
 have q1:as8 m.ae m.plen=false:=(ee8 h.asR).1
 have hlen:=dV3 h n
 have uA:((aa1 m.ae).toNat:Int)=m.ae:=by rw [ah0,if_pos hae.1]; omega
 have uF:((aa1 (bM3 m.ae)).toNat:Int)=bM3 m.ae:=by unfold bM3; split <;> rfl
 have uP:((aa1 m.plen).toNat:Int)=m.plen:=by rw [ah0,if_pos hpl.1]; omega
 have uN:((aa1 (n:Int)).toNat:Int)=n:=by rw [ah0,if_pos (by omega)]; omega
 generalize hD:bX4 m n=D at *
 have e:D=[aa1 m.ae,aa1 (bM3 m.ae),aa1 m.plen,aa1 n]++(be 2 m.interval++(be 2 m.seq++(be 2 m.metric++((ac2 m).drop n++ab3 m.subs)))):=by rw [← hD]; rfl
 have t0:bt D 0=m.ae:=by rw [e]; exact uA
 have t1:bt D 1=bM3 m.ae:=by rw [e]; exact uF
 have t2:bt D 2=m.plen:=by rw [e]; exact uP
 have t3:bt D 3=n:=by rw [e]; exact uN
 have c4:aa4 D 4 2=be 2 m.interval:=by
  rw [e,am1 (k:=4) rfl (by omega) (by omega)]; exact aH5 rfl
 have c6:aa4 D 6 2=be 2 m.seq:=by
  rw [e,am1 (k:=4) rfl (by omega) (by omega),am1 (k:=2) rfl (by omega) (by omega)]; exact aH5 rfl
 have c8:aa4 D 8 2=be 2 m.metric:=by
  rw [e,am1 (k:=4) rfl (by omega) (by omega),am1 (k:=2) rfl (by omega) (by omega),am1 (k:=2) rfl (by omega) (by omega)]; exact aH5 rfl
 have hrn:ai3 m.ae m.plen n=(((ac2 m).drop n).length:Nat):=by unfold ai3; rw [List.length_drop]; omega
 have c10:aa4 D 10 (((ac2 m).drop n).length:Nat)=(ac2 m).drop n:=by
  rw [e,am1 (k:=4) rfl (by omega) (by omega),am1 (k:=2) rfl (by omega) (by omega),am1 (k:=2) rfl (by omega) (by omega),am1 (k:=2) rfl (by omega) (by omega)]; exact aH5 rfl
 have hp:au7 D 10 m.ae m.plen n=((ac2 m).drop n,0):=by
  rw [cQ0 q1 (by omega) (by rw [hrn,List.length_drop]; omega),hrn,c10]
 have hdr:D.drop (10+ai3 m.ae m.plen n).toNat=ab3 m.subs:=by
  rw [hrn,e,← List.append_assoc,← List.append_assoc,← List.append_assoc,← List.append_assoc]
  exact List.drop_left' (by simp [ab6]; omega)
 unfold ae1
 rw [if_neg (by omega),t0,if_neg (by omega)]
 dsimp only
 rw [t2,t3,t1,hp,hdr,hg]
 dsimp only
 rw [if_neg (show ¬(0:Int)≠0 by decide),if_neg (show ¬(0:Int)≠0 by decide),c4,c6,c8,ax2 h.iv,ax2 h.sq,ax2 h.me,if_pos rfl]
def ah5 (c:Ctx) (f:Int):Bs:=if f=0 then c.next_c0 else c.next_c1
def aD8 (c:Ctx) (ae:Int) (a:Bs):Ctx:=if ae=0 then c else ⟨c.prefix_c0,(if ae=1 then a else c.prefix_c1),(if ae=2 then a else c.prefix_c2),(if ae=3 then a else c.prefix_c3),c.next_c0,c.next_c1,c.id⟩
theorem ef2 (c:Ctx) (ae:Int) (a:Bs):(aD8 c ae a).id=c.id:=by unfold aD8; split <;> rfl
theorem ev6 (c:Ctx) (ae:Int) (a:Bs) (f:Int):ah5 (aD8 c ae a) f=ah5 c f:=by unfold aD8; split <;> rfl
theorem eU8 {m:Msg} (hk:m.kind=11) (hb:bareB m=true):(⟨11,0,0,[],0,m.ae,m.prefix_,m.plen,0,m.next,m.metric,m.id,m.seq,0,m.interval,0,0,0,0,[],[],[],0,[],m.subs⟩:Msg)=m:=by
 have hx:bareOf m=some ⟨m.kind,0,0,[],0,m.ae,m.prefix_,m.plen,0,m.next,m.metric,m.id,m.seq,0,m.interval,0,0,0,0,[],[],[],0,[],m.subs⟩:=by
  unfold bareOf; rw [if_neg (by omega),if_neg (by omega),if_neg (by omega),if_neg (by omega),if_neg (by omega),if_neg (by omega),if_neg (by omega),if_neg (by omega),if_neg (by omega),if_neg (by omega),if_pos hk]
 rw [bareB,hx] at hb
 have:=eqB_true.1 hb
 rw [hk] at this
 exact this
theorem eF4 {c:Ctx} {m:Msg} {n:Nat} (hc:okC c) (h:ay4 m) (hn:n≤(ac2 m).length)
  (hk:n≠0→aD7 c m.ae≠[]∧((aD7 c m.ae).drop (af7 m.ae).toNat).take n=(ac2 m).take n)
  (hf:m.metric≠65535→c.id=m.id∧ah5 c (ad8 m.ae)=m.next):bo9 c (bX4 m n)=(aD8 c m.ae m.prefix_,[m],0):=by
 obtain ⟨hae,hpl,hbl,h16,hbs,_⟩:=h.pre
 have hw:ap4 m.ae (ac2 m) m.plen=m.prefix_:=cj0 (m:=dV1 m.ae m.prefix_ m.plen) h.asR
 have ht:=ev5 h hn
 have ha:ap5 c (ae1 (bX4 m n)).1=(m.prefix_,true):=by
  rw [ht]; unfold ap5
  dsimp only
  by_cases h0:n=0
  ·rw [if_pos (by omega),h0,List.drop_zero,hw]
  ·obtain ⟨k1,k2⟩:=hk h0
   have hcut:aa4 (aD7 c m.ae) (af7 m.ae) (n:Int)=(ac2 m).take n:=by
    rw [← k2]; unfold aa4
    rw [List.drop_take,show (af7 m.ae+(n:Int)).toNat - (af7 m.ae).toNat=n by omega]
   rw [if_neg (by omega),if_neg k1,hcut,List.take_append_drop,hw]
 have hfl:aq7 c (ae1 (bX4 m n)).1 m.prefix_=aD8 c m.ae m.prefix_:=by
  rw [ht]; unfold aq7 aD8 bM3
  dsimp only
  by_cases a0:m.ae=0
  ·rw [if_pos a0,if_pos a0]
  ·simp only [if_neg a0]
   rw [if_pos (show (128:Int)≤128 by decide),if_neg (show ¬((128:Int) / 64 % 2=1) by decide)]
 have hto:cT5 (aD8 c m.ae m.prefix_) (ae1 (bX4 m n)).1=true:=by
  rw [ht]; unfold cT5
  dsimp only
  rw [ef2]
  by_cases hm:m.metric=65535
  ·simp [hm]
  ·have hn:=h.near hm
   have hi:c.id≠[]:=by
    rw [(hf hm).1]; intro e; rw [e] at hn; exact absurd hn.2.1 (by decide)
   simp [hi]; omega
 have hu:cQ3 (aD8 c m.ae m.prefix_) (ae1 (bX4 m n)).1 m.prefix_=m:=by
  rw [ht]; unfold cQ3
  dsimp only
  have hx:=eU8 h.kind h.bare
  by_cases hm:m.metric=65535
  ·obtain ⟨f1,f2⟩:=h.far hm
   rw [if_pos hm,if_pos hm]
   rw [f1,f2] at hx
   exact hx
  ·obtain ⟨f1,f2⟩:=hf hm
   rw [if_neg hm,if_neg hm,ef2,f1]
   have:(if ad8 m.ae=0 then (aD8 c m.ae m.prefix_).next_c0 else (aD8 c m.ae m.prefix_).next_c1)=m.next:=by
    rw [← f2]; exact ev6 c m.ae m.prefix_ (ad8 m.ae)
   rw [this]
   exact hx
 rw [eO1 (by rw [ht]) (by rw [ha]),ha,hfl,if_pos hto,hu]
def idD (s:Bs):Bs:=0::0::s
def dy2 (a:Bs):Bs:=if ai0 a=true then 3::0::a.drop 8 else if a.length=4 then 1::0::a else 2::0::a
theorem bM4 {d:Bs} {n:Int} (h:(d.length:Int)=n):aT7 d n=(true,0):=by
 unfold aT7
 rw [if_neg (by omega),List.drop_eq_nil_of_le (by omega),eE9]
theorem eF5 {c:Ctx} {s:Bs} (h:s.length=8):idF c (idD s)=(as0 c s,0):=by
 unfold idF idD
 rw [bM4 (by simp [h]),if_pos rfl]
 have:aa4 (0::0::s) 2 8=s:=by
  show aa4 ([0,0]++s) 2 8=s
  rw [am1 (k:=2) rfl (by omega) (by omega)]
  have:=aH5 (x:=s) (y:=[]) (n:=8) (by omega)
  rwa [List.append_nil] at this
 rw [this]
theorem em1 {a:Bs} {f:Int} (hf:bn9 a=f) (h:f=0∨f=1):(f=0∧a.length=4)∨(f=1∧a.length=16):=by
 unfold bn9 at hf
 split at hf
 ·exact .inl ⟨hf.symm,by assumption⟩
 split at hf
 ·exact .inr ⟨hf.symm,by assumption⟩
 ·omega
theorem ev7 {c:Ctx} {a:Bs} {f:Int} (h:(f=0∧a.length=4)∨(f=1∧a.length=16)):cQ2 c (dy2 a)=(bd7 c f a,0):=by
 have ca:∀ (x y:UInt8) (s:Bs) (n:Int),(s.length:Int)=n→aa4 (x::y::s) 2 n=s:=fun x y s n hs=>by
  show aa4 ([x,y]++s) 2 n=s
  rw [am1 (k:=2) rfl (by omega) (by omega)]
  have:=aH5 (x:=s) (y:=[]) (n:=n) hs
  rwa [List.append_nil] at this
 unfold dy2
 by_cases hl:ai0 a=true
 ·have h16:=aw8 hl
  have h8:(a.drop 8).length=8:=by rw [List.length_drop]; omega
  have b0:bt (3::0::a.drop 8) 0=3:=rfl
  have n3:aX7 3=8:=rfl
  have f3:ad8 3=1:=rfl
  rw [if_pos hl]
  unfold cQ2 bX2
  rw [b0,n3,if_neg (by simp; omega),if_neg (by omega),bM4 (by simp [h8]),if_pos rfl,if_pos rfl,ca _ _ _ 8 (by omega),f3]
  have:(do9 (a.drop 8)).1=a:=by unfold do9; rw [if_pos h8]; exact dp0 hl
  rw [this]
  rcases h with ⟨rfl,h⟩ | ⟨rfl,h⟩
  ·omega
  ·rfl
 ·rw [if_neg hl]
  rcases h with ⟨rfl,h⟩ | ⟨rfl,h⟩
  ·have b0:bt (1::0::a) 0=1:=rfl
   have n3:aX7 1=4:=rfl
   have f3:ad8 1=0:=rfl
   rw [if_pos h]
   unfold cQ2 bX2
   rw [b0,n3,if_neg (by simp; omega),if_neg (by omega),bM4 (by simp [h]),if_pos rfl,if_neg (by omega),ca _ _ _ 4 (by omega),f3]
  ·have b0:bt (2::0::a) 0=2:=rfl
   have n3:aX7 2=16:=rfl
   have f3:ad8 2=1:=rfl
   rw [if_neg (by omega)]
   unfold cQ2 bX2
   rw [b0,n3,if_neg (by simp; omega),if_neg (by omega),bM4 (by simp [h]),if_pos rfl,if_neg (by omega),ca _ _ _ 16 (by omega),f3]
end Go.VP
namespace Go.VP
open Go Go.VI
structure dV4 (m:Msg):Prop where
 kind:m.kind=14
 bare:bareB m=true
 ty:10 < m.type_∧m.type_ < 256
 len:m.data.length < 256
inductive bc0 (m:Msg):Prop
 | field (h:ay0 m)
 | route (h:as7 m)
 | upd (h:ay4 m)
 | opq (h:dV4 m)
structure aC4 (m:Msg):Prop where
 good:bo3 m
 ty:IntKind.has .i64 m.type_
 metric:IntKind.has .i64 m.metric
theorem em2 {d:Bs} (h:(ae1 d).1.have_=1) (hk:(ae1 d).2.1=true):bv7 (ae1 d).1.subs∧ak4 (ae1 d).1.subs≤200∧(ae1 d).1.subs.length≤d.length∧10+ak4 (ae1 d).1.subs≤d.length∧(0≤(ae1 d).1.interval∧(ae1 d).1.interval < 65536)∧(0≤(ae1 d).1.seq∧(ae1 d).1.seq < 65536)∧(0≤(ae1 d).1.plen∧(ae1 d).1.plen≤aE8 (ae1 d).1.ae):=by
 have b0:=ai5 d 0
 have b2:=ai5 d 2
 unfold ae1 at h hk ⊢
 split at hk
 ·cases hk
 rename_i h1
 split at hk
 ·cases hk
 rename_i h2
 rw [if_neg h1,if_neg h2] at h ⊢
 dsimp only at h hk ⊢
 split at hk
 ·cases hk
 rename_i h3
 split at hk
 ·cases hk
 rename_i h4
 rw [if_neg h3,if_neg h4] at h ⊢
 dsimp only at h ⊢
 have h3':(au7 d 10 (bt d 0) (bt d 2) (bt d 3)).2=0:=by simpa using h3
 have hrest:0≤ai3 (bt d 0) (bt d 2) (bt d 3):=by
  unfold au7 at h3'
  split at h3'
  ·cases h3'
  ·omega
 have hg:as8 (bt d 0) (bt d 2)=false:=by
  unfold au7 at h3'
  split at h3'
  ·cases h3'
  ·rename_i q; cases e:as8 (bt d 0) (bt d 2) with
   | false=>rfl
   | true=>exact absurd (.inl e) q
 have hp:bo8 (bt d 0)≤bt d 2∧bt d 2≤aE8 (bt d 0):=by unfold as8 at hg; simpa using hg
 rcases cv6 (d.drop (10+ai3 (bt d 0) (bt d 2) (bt d 3)).toNat) with ⟨l,e,q1,q2,q3,q4⟩ | ⟨l,e⟩ | ⟨x,e,q⟩
 ·rw [e] at h ⊢
  rw [List.length_drop] at q3 q4
  exact ⟨q1,q2,by dsimp only; omega,by dsimp only; omega,ap0 (by omega) (by omega),ap0 (by omega) (by omega),by omega,hp.2⟩
 ·rw [e] at h; cases h
 ·rw [e] at h4; exact absurd q h4
theorem em3 {c:Ctx} {d:Bs} (hc:okC c) (hd:d.length≤900):(bo9 c d).2.1=[]∨∃ m,(bo9 c d).2.1=[m]∧ay4 m∧aC4 m∧ak4 m.subs+10≤d.length∧(bo9 c d).2.2=0∧(m.metric≠65535→(bo9 c d).1.id=m.id∧ah5 (bo9 c d).1 (ad8 m.ae)=m.next):=by
 unfold bo9
 split
 rotate_left
 ·exact .inl rfl
 rename_i ht
 split
 rotate_left
 ·exact .inl rfl
 rename_i ha
 split
 rotate_left
 ·exact .inl rfl
 rename_i hto
 obtain ⟨hr,h0⟩:=dC8 ht
 have hl:=dC9 hc hr ha
 have hk:=dr2 hc hr ha
 have h1:(ae1 d).1.have_=1:=by
  unfold cT5 at hto; simp at hto; exact hto.1
 obtain ⟨s1,s2,s3,s4,s5,s6,s7⟩:=em2 h1 ht
 have hclean:ag5 (ap5 c (ae1 d).1).1 (ae1 d).1.plen=(ap5 c (ae1 d).1).1:=by
  unfold ap5 at ha ⊢
  split
  ·unfold ap4; exact bM2 _ _
  ·rename_i q; rw [if_neg q] at ha
   split
   ·rename_i q2; rw [if_pos q2] at ha; cases ha
   ·unfold ap4; exact bM2 _ _
 have hok:=dD0 hc hr hl hk
 have hlow:=hr.low
 have hsub2:=aN4 (l:=(ae1 d).1.subs)
 generalize (ae1 d).1=r at *
 generalize (ap5 c r).1=a at *
 have hae:=hr.ae
 have hme:=hr.metric
 have hsz:szA r.ae≤16:=by unfold szA; split <;> (try split) <;> (try split) <;> omega
 have hmu:(cQ3 (aq7 c r a) r a).metric=r.metric:=rfl
 have hhi:aE8 r.ae≤128:=by unfold aE8; split <;> (try split) <;> (try split) <;> omega
 generalize hfc:aq7 c r a=F at *
 have hFid:r.metric≠65535→F.id.length=8∧0 < r.ae:=fun hm=>by
  unfold cT5 at hto
  simp [h1,hm] at hto
  rcases hok.2.2.2.2.2.2 with q | q
  ·exact absurd q hto.2
  ·exact ⟨q,hto.1⟩
 have hFn:r.metric≠65535→ah5 F (ad8 r.ae)=[]∨bn9 (ah5 F (ad8 r.ae))=ad8 r.ae:=fun hm=>by
  have hp:=(hFid hm).2
  have hf:=dU8 (ae:=r.ae) (by omega)
  unfold ah5
  by_cases f0:ad8 r.ae=0
  ·rw [if_pos f0,f0]
   rcases hok.2.2.2.2.1 with q | q
   ·exact .inl q
   ·right; unfold bn9; rw [if_pos q]
  ·rw [if_neg f0,show ad8 r.ae=1 by omega]
   rcases hok.2.2.2.2.2.1 with q | q
   ·exact .inl q
   ·right; unfold bn9; rw [if_neg (by omega),if_pos q]
 have e0:([]:Bs).length≤400:=by decide
 have n0:([]:List ci2).length≤1000:=by decide
 have has0:IntKind.has .i64 0:=has64.2 (by omega)
 have hnl:(if r.metric=65535 then ([]:Bs) else (if ad8 r.ae=0 then F.next_c0 else F.next_c1)).length≤400:=by
  split
  ·exact e0
  ·have:=hok.2.2.2.2.1; have:=hok.2.2.2.2.2.1
   split
   ·rcases hok.2.2.2.2.1 with q | q
    ·rw [q]; exact e0
    ·omega
   ·rcases hok.2.2.2.2.2.1 with q | q
    ·rw [q]; exact e0
    ·omega
 have hil:(if r.metric=65535 then ([]:Bs) else F.id).length≤400:=by
  split
  ·exact e0
  ·rcases hok.2.2.2.2.2.2 with q | q
   ·rw [q]; exact e0
   ·omega
 refine .inr ⟨cQ3 F r a,rfl,⟨rfl,?_,aT5 s1 s2,?_,s5,s6,by rw [hmu]; omega,fun hm=>?_,fun hm=>?_⟩,⟨⟨⟨n0,by show r.subs.length≤1000; omega,e0,by show a.length≤400; omega,hnl,hil,e0,e0,e0,(fun d h=>by cases h),s1.few⟩,has0,has64.2 (by show _≤r.interval∧r.interval≤_; omega),has64.2 (by show _≤r.seq∧r.seq≤_; omega),has0,has64.2 (by show _≤(11:Int)∧(11:Int)≤_; omega),has0,has64.2 (by show _≤r.ae∧r.ae≤_; omega),has64.2 (by show _≤r.plen∧r.plen≤_; omega),has0⟩,has0,has64.2 (by rw [hmu]; omega)⟩,by show ak4 r.subs+10≤_; omega,rfl,fun hm=>?_⟩
 ·have:bareOf (cQ3 F r a)=some (cQ3 F r a):=rfl
  rw [bareB,this]; exact aT0 _
 ·exact cq1.2 ⟨hae,hl,⟨hlow,s7.2⟩,hclean,hk⟩
 ·have hm':r.metric=65535:=hm
  show (if r.metric=65535 then [] else F.id)=[]∧(if r.metric=65535 then [] else _)=[]
  rw [if_pos hm',if_pos hm']; exact ⟨rfl,rfl⟩
 ·have hm':r.metric≠65535:=hm
  show 0 < r.ae∧(if r.metric=65535 then [] else F.id).length=8∧((if r.metric=65535 then [] else ah5 F (ad8 r.ae))=[]∨bn9 (if r.metric=65535 then [] else ah5 F (ad8 r.ae))=ad8 r.ae)
  rw [if_neg hm',if_neg hm']
  exact ⟨(hFid hm').2,(hFid hm').1,hFn hm'⟩
 ·have hm':r.metric≠65535:=hm
  show F.id=(if r.metric=65535 then [] else F.id)∧ah5 F (ad8 r.ae)=(if r.metric=65535 then [] else ah5 F (ad8 r.ae))
  rw [if_neg hm',if_neg hm']
  exact ⟨rfl,rfl⟩
end Go.VP
namespace Go.VP
open Go Go.VI
def bp0 (b:Bs):Int:=bt b 2 * 256+bt b 3
def aC5 (b:Bs):Bs × Int × Int:=
 if 65535 < (b.length:Int) then ([],65535,10) else if (b.length:Int) < 4 then ([],b.length,2)
 else if bt b 0≠42 then ([],0,4) else if bt b 1≠2 then ([],1,4)
 else if (b.length:Int) < 4+bp0 b then ([],b.length,2) else (aa4 b 4 (bp0 b),0,0)
theorem dD5 (b:Bs):0≤bp0 b∧bp0 b≤65535:=by
 have h2:=ai5 b 2
 have h3:=ai5 b 3
 unfold bp0; omega
theorem eF6 {b:Bs} (h:(aC5 b).2.2=0):4≤b.length∧b.length≤65535∧bt b 0=42∧bt b 1=2∧4+bp0 b≤b.length∧aC5 b=(aa4 b 4 (bp0 b),0,0)∧((aC5 b).1.length:Int)=bp0 b:=by
 have hr:=dD5 b
 unfold aC5 at h ⊢
 split at h
 ·cases h
 split at h
 ·cases h
 split at h
 ·cases h
 split at h
 ·cases h
 split at h
 ·cases h
 rename_i h1 h2 h3 h4 h5
 rw [if_neg h1,if_neg h2,if_neg h3,if_neg h4,if_neg h5]
 exact ⟨by omega,by omega,by simpa using h3,by simpa using h4,by omega,rfl,aj4 (by omega) (by omega) (by omega)⟩
def dV5 (b:Bs):Bs:=b.drop (4+bp0 b).toNat
def aE9 (s:Bs):Bs × Bool:=if 65531 < (s.length:Int) then ([],false) else (42::2::(be 2 s.length++s),true)
theorem dD6 {s t:Bs} (h:s.length≤65531) (ht:t.length+s.length≤65531):aC5 ((aE9 s).1++t)=(s,0,0)∧dV5 ((aE9 s).1++t)=t∧(aE9 s).1.length=4+s.length∧(aE9 s).2=true:=by
 have e:aE9 s=(42::2::(be 2 s.length++s),true):=by unfold aE9; rw [if_neg (by omega)]
 rw [e]
 dsimp only
 have hL:((42::2::(be 2 (s.length:Int)++s)):Bs).length=4+s.length:=by simp [ab6]; omega
 have hb:(42::2::(be 2 (s.length:Int)++s))++t=([42,2]:Bs)++(be 2 (s.length:Int)++(s++t)):=by simp
 have n2:num (be 2 (s.length:Int))=s.length:=bV5 2 _ (by omega) (by omega)
 generalize hB:(42::2::(be 2 (s.length:Int)++s))++t=B at *
 have hBl:B.length=4+s.length+t.length:=by rw [hb]; simp [ab6]; omega
 have b0:bt B 0=42:=by rw [hb]; rfl
 have b1:bt B 1=2:=by rw [hb]; rfl
 have sz:bp0 B=s.length:=by
  unfold bp0
  rw [← eS8 (s:=B) (p:=2) (by omega)]
  have:aa4 B ((2:Nat):Int) 2=be 2 (s.length:Int):=by
   rw [hb]
   show aa4 (([42,2]:Bs)++(be 2 (s.length:Int)++(s++t))) 2 2=_
   unfold aa4
   show List.drop 2 (List.take 4 (([42,2]:Bs)++(be 2 (s.length:Int)++(s++t))))=_
   rw [show 4=([42,2]:Bs).length+2 from rfl,List.take_length_add_append,List.drop_left' (by rfl),List.take_left' (ab6 2 _)]
  rw [this,n2]
 have ct:aa4 B 4 (s.length:Int)=s:=by
  unfold aa4
  rw [hb,show ((4:Int)+(s.length:Int)).toNat=4+s.length by omega,show (4:Int).toNat=4 from rfl,← List.append_assoc,← List.append_assoc,List.take_left' (by simp [ab6]; omega),List.drop_left' (by simp [ab6])]
 refine ⟨?_,?_,hL,rfl⟩
 ·unfold aC5
  rw [if_neg (by omega),if_neg (by omega),if_neg (by rw [b0]; simp),if_neg (by rw [b1]; simp),sz,if_neg (by omega),ct]
 ·unfold dV5
  rw [sz,hb,← List.append_assoc,← List.append_assoc,List.drop_left' (by simp [ab6]; omega)]
end Go.VP
namespace Go.VP
open Go Go.VI
theorem eU9 {x:Int} (h:0≤x):ae4 .i64 x 8=x / 256:=by
 unfold ae4
 rw [show (2:Int) ^ (min (8:Int).toNat IntKind.i64.bits)=256 by decide]
 exact Int.fdiv_eq_ediv_of_nonneg _ (by decide)
theorem dD7 {c:Nat}:∀ (i m:Nat) (x:Int) (acc:Bs),i≤acc.length→acc.length≤100→i < m→0≤x→aL8 c m x ((i:Int) - 1) acc=some ((be i x++acc.drop i,true,()),())
 | 0,m,x,acc,h1,h2,hm,hx=>by
  obtain ⟨m,rfl⟩:∃ k,m=k+1:=⟨m - 1,by omega⟩
  rw [aK0,ifn (by omega)]; simp [be]
 | i+1,m,x,acc,h1,h2,hm,hx=>by
  obtain ⟨m,rfl⟩:∃ k,m=k+1:=⟨m - 1,by omega⟩
  have e:(((i+1:Nat):Int) - 1)=(i:Int):=by omega
  rw [aK0,e,ifd (by omega),if_pos (by omega),Int.toNat_natCast,if_pos (by omega),w64 (by omega) (by omega),eU9 hx,dD7 i m (x / 256) _ (by simp; omega) (by simp; omega) (by omega) (by omega),wu8,be]
  have:(acc.set i (aa1 (x % 256))).drop i=aa1 (x % 256)::acc.drop (i+1):=by
   rw [List.drop_eq_getElem_cons (by simp; omega),List.getElem_set_self,List.drop_set_of_lt (by omega)]
  rw [this]; simp
theorem eO4 {n:Int} {k:Nat} (hn:IntKind.has .i64 n) (h1:1≤k) (h7:k≤7):ak1 (n,(k:Int),())=some (((cN6 n k).1,(cN6 n k).2,()),()):=by
 show bx5 fuel (n,(k:Int),())=_
 rw [co6,ap8 hn h1 h7,Option.bind_some]
 unfold cN6
 cases hf:ac5 n k with
 | false=>rfl
 | true=>
  have h0:0≤n:=by unfold ac5 at hf; rw [decide_eq_true_eq] at hf; exact hf.1
  have hr:(k:Int)≤ah8:=by unfold ah8; omega
  dsimp only
  rw [aj6,if_pos ⟨by omega,hr⟩,w64 (by omega) (by omega),Int.toNat_natCast,dD7 k fuel n _ (by simp) (by simp; omega) (ag7 (by omega)) h0]
  simp
theorem eX1 {n:Int} (hn:IntKind.has .i64 n):ak1 (n,2,())=some (((cN6 n 2).1,(cN6 n 2).2,()),()):=eO4 (k:=2) hn (by omega) (by omega)
theorem ev8 {s:Bs} (h:s.length≤65531):cN6 (s.length:Int) 2=(be 2 s.length,true):=by
 unfold cN6; rw [if_pos (by unfold ac5; rw [decide_eq_true_eq]; omega)]
theorem em4 {s:Bs} (h:65531 < (s.length:Int)):aE9 s=([],false):=by unfold aE9; rw [if_pos h]
theorem ev9 {s:Bs} (h:¬65531 < (s.length:Int)):aE9 s=(42::2::(be 2 s.length++s),true):=by unfold aE9; rw [if_neg h]
theorem eO5 {s:Bs} (h:s.length≤100000000):bk8 (s,())=some (((aE9 s).1,(aE9 s).2,()),()):=by
 rw [dm7,eX1 (has64.2 (by omega)),Option.bind_some]
 by_cases hs:65531 < (s.length:Int)
 ·rw [em4 hs]
  cases hb:(cN6 (s.length:Int) 2).2 with
  | false=>rfl
  | true=>dsimp only; rw [aj6,ifd hs]
 ·have h2:(be 2 (s.length:Int)).length=2:=ab6 2 _
  rw [ev9 hs,ev8 (by omega)]
  generalize be 2 (s.length:Int)=B at *
  dsimp only
  rw [aj6,ifn hs,if_pos (af6 (by omega)),if_pos (af6 (by simp; omega))]; rfl
end Go.VP
namespace Go.VP
open Go Go.VI
def Tg (t:Tlv):Prop:=(0≤t.type_∧t.type_≤255)∧t.data.length≤255
theorem aC4.small {m:Msg} (g:aC4 m):Small m:=by
 have:=g.good.few.list; have:=g.good.few.subs; exact ⟨by omega,by omega⟩
theorem ew0 {c:Ctx} {t:Tlv} (hc:okC c) (ht:Tg t):∀ m∈(ay3 c t.type_ t.data).2.1,bc0 m∧aC4 m:=by
 obtain ⟨ty,at_,d⟩:=t
 obtain ⟨ht,hd⟩:=ht
 have hd:d.length≤255:=hd
 have ht:0≤ty∧ty≤255:=ht
 have has0:IntKind.has .i64 0:=has64.2 (by omega)
 have mt:∀ m:Msg,ay0 m∨as7 m→m.type_=0∧m.metric=0:=fun m h=>by
  have key:∀ x,bareB m=true→bareOf m=some x→x.type_=0∧x.metric=0→m.type_=0∧m.metric=0:=fun x hb hx h0=>by
   rw [bareB,hx] at hb
   have:=eqB_true.1 hb
   rw [← this]; exact h0
  rcases h with h | h
  ·rcases h.kinds with hk | hk | ⟨hk,_⟩ | ⟨hk,_⟩
   ·exact key _ h.bare (by unfold bareOf; rw [hk]; rfl) ⟨rfl,rfl⟩
   ·exact key _ h.bare (by unfold bareOf; rw [hk]; rfl) ⟨rfl,rfl⟩
   ·exact key _ h.bare (by unfold bareOf; rw [hk]; rfl) ⟨rfl,rfl⟩
   ·exact key _ h.bare (by unfold bareOf; rw [hk]; rfl) ⟨rfl,rfl⟩
  ·rcases h.kinds with hk | ⟨hk,_⟩
   ·exact key _ h.bare (by unfold bareOf; rw [hk]; rfl) ⟨rfl,rfl⟩
   ·exact key _ h.bare (by unfold bareOf; rw [hk]; rfl) ⟨rfl,rfl⟩
 intro m hm
 dsimp only at hm
 unfold ay3 at hm
 split at hm
 ·cases hm
 split at hm
 ·unfold cd5 at hm
  split at hm
  ·cases hm
  split at hm
  ·cases hm
  split at hm
  ·rcases em3 (d:=d) hc (by omega) with h | ⟨x,h,hu,hg,_⟩
   ·rw [h] at hm; cases hm
   ·rw [h,List.mem_singleton] at hm; subst hm; exact ⟨.upd hu,hg⟩
  ·cases hm
 split at hm
 ·rename_i h25
  rcases dU5 (ty:=ty) (d:=d) h25 (by omega) with ⟨x,h,hr,hg,_⟩ | ⟨e,h⟩
  ·rw [h] at hm
   have:m=x:=by unfold bX3 at hm; simpa using hm
   subst this
   have:=mt m (.inl hr)
   exact ⟨.field hr,⟨hg,by rw [this.1]; exact has0,by rw [this.2]; exact has0⟩⟩
  ·rw [h] at hm
   unfold bX3 at hm
   split at hm
   ·cases hm
   ·cases hm
 split at hm
 ·rename_i h910
  rcases dU7 (ty:=ty) (d:=d) h910 (by omega) with ⟨x,h,hr,hg,_⟩ | ⟨e,h⟩
  ·rw [h] at hm
   have:m=x:=by unfold bX3 at hm; simpa using hm
   subst this
   have:=mt m (.inr hr)
   exact ⟨.route hr,⟨hg,by rw [this.1]; exact has0,by rw [this.2]; exact has0⟩⟩
  ·rw [h] at hm
   unfold bX3 at hm
   split at hm
   ·cases hm
   ·cases hm
 ·rw [List.mem_singleton] at hm
  subst hm
  have e0:([]:Bs).length≤400:=by decide
  have n0:([]:List ci2).length≤1000:=by decide
  have hb:bareOf (cT6 ty d)=some (cT6 ty d):=rfl
  refine ⟨.opq ⟨rfl,by rw [bareB,hb]; exact aT0 _,by show 10 < ty∧ty < 256; omega,by show d.length < 256; omega⟩,⟨⟨⟨n0,by show 0≤1000; omega,e0,e0,e0,e0,e0,e0,by show d.length≤400; omega,(fun d h=>by cases h),(fun d h=>by cases h)⟩,has0,has0,has0,has0,has64.2 (by show _≤(14:Int)∧(14:Int)≤_; omega),has0,has0,has0,has0⟩,has64.2 (by show _≤ty∧ty≤_; omega),has0⟩⟩
theorem em5 {l:List Tlv} {c:Ctx} (hc:okC c) (hl:∀ t∈l,Tg t):∀ m∈(aj1 c l []).1,bc0 m∧aC4 m:=
 dD4 (P:=fun m=>bc0 m∧aC4 m) (Q:=Tg) (fun c t hc ht=>ew0 hc ht) l c [] hc hl (fun m hm=>by cases hm)
theorem eV0 (s:Bs):∀ (p:Int) (l:List Tlv),spl p s=.ok l→∀ t∈l,Tg t:=by
 induction h:s.length using Nat.strongRecOn generalizing s with
 | ind n ih=>
  intro p l hs
  subst h
  match s,hs with
  | [],hs=>rw [aW2] at hs; cases hs; intro t ht; cases ht
  | t::r,hs=>
   by_cases ht:t=0
   ·subst ht
    rw [bV6] at hs
    cases hr:spl (p+1) r with
    | error q=>rw [hr] at hs; cases hs
    | ok lr=>
     rw [hr] at hs; cases hs
     intro x hx
     rcases List.mem_cons.1 hx with rfl | hx
     ·exact ⟨by show (0:Int)≤0∧(0:Int)≤255; omega,by show 0≤255; omega⟩
     ·exact ih r.length (by simp) r rfl _ lr hr x hx
   ·match r,hs with
    | [],hs=>rw [cS8 ht] at hs; cases hs
    | n::d,hs=>
     by_cases hn:d.length < n.toNat
     ·rw [cS9 ht hn] at hs; cases hs
     ·rw [bv6 ht (by omega)] at hs
      cases hr:spl (p+2+n.toNat) (d.drop n.toNat) with
      | error q=>rw [hr] at hs; cases hs
      | ok lr=>
       rw [hr] at hs; cases hs
       intro x hx
       rcases List.mem_cons.1 hx with rfl | hx
       ·have h1:=t.toNat_lt
        have h2:=n.toNat_lt
        refine ⟨by show (0:Int)≤(t.toNat:Int)∧(t.toNat:Int)≤255; omega,?_⟩
        show (d.take n.toNat).length≤255
        rw [List.length_take]; omega
       ·exact ih (d.drop n.toNat).length (by simp; omega) (d.drop n.toNat) rfl _ lr hr x hx
def bp1 (b:Bs):List Msg × Int × Int:=
 if (aC5 b).2.2≠0 then ([],(aC5 b).2.1,(aC5 b).2.2)
 else match spl 4 (aC5 b).1 with
  | .error q=>([],q,2)
  | .ok l=>match spl (4+((aC5 b).1.length:Int)) (dV5 b) with
   | .error q=>([],q,2)
   | .ok _=>((aj1 c0 l []).1,(aj1 c0 l []).2.2.1,(aj1 c0 l []).2.2.2)
theorem cQ5 (b:Bs):((bp1 b).2.2≠0∧(bp1 b).1=[])∨∃ l,(aC5 b).2.2=0∧spl 4 (aC5 b).1=.ok l∧(∃ k,spl (4+((aC5 b).1.length:Int)) (dV5 b)=.ok k)∧(aj1 c0 l []).2.2.2=0∧bp1 b=((aj1 c0 l []).1,0,0):=by
 unfold bp1
 by_cases h:(aC5 b).2.2≠0
 ·rw [if_pos h]; exact .inl ⟨h,rfl⟩
 rw [if_neg h]
 cases h1:spl 4 (aC5 b).1 with
 | error q=>exact .inl ⟨by simp,rfl⟩
 | ok l=>
  cases h2:spl (4+((aC5 b).1.length:Int)) (dV5 b) with
  | error q=>exact .inl ⟨by simp,rfl⟩
  | ok k=>
   dsimp only
   by_cases h3:(aj1 c0 l []).2.2.2=0
   ·exact .inr ⟨l,by simpa using h,rfl,⟨k,rfl⟩,h3,by rw [dr3 l c0 [] h3,h3]⟩
   ·exact .inl ⟨h3,(dD2 l c0 [] h3).1⟩
theorem dV6 (b:Bs):(∀ m∈(bp1 b).1,bc0 m∧aC4 m)∧(bp1 b).1.length≤65535:=by
 rcases cQ5 b with ⟨_,h⟩ | ⟨l,h0,h1,_,_,h4⟩
 ·rw [h]; exact ⟨fun m hm=>(by cases hm),by simp⟩
 ·rw [h4]
  have hb:=(eF6 h0)
  have hr:=dD5 b
  have:=(dD3 l c0 [] cQ4).1
  have hk:=(dS7 _ _ _ h1).2
  exact ⟨em5 cQ4 (eV0 _ _ _ h1),by dsimp only; simp at this; omega⟩
end Go.VP
namespace Go.VP
open Go Go.VI
theorem ew1 (s:Bs) (g:Bool):bk4 (s,g,())=some ((decide (s=[]) || g,()),()):=by
 rw [dn8]
 refine dy1 (fun h=>by simp [h]) (fun h=>by simp [h])
theorem cq2 {R:Type} {b S:Bool} {t:Option R} {f:Bool→Option R} (h:b=true→t=f S):(if (!b)=true then f false else t)=f (b && S):=by
 cases b with
 | true=>rw [aj6,Bool.true_and]; exact h rfl
 | false=>rw [aS8,Bool.false_and]
theorem em6 {n:Int} (hn:IntKind.has .i64 n):ab1 (n,2,())=some ((ac5 n 2,()),()):=ap8 (k:=2) hn (by omega) (by omega)
theorem ef3 {m:Msg} (g:bo3 m):az5 m.subs:=g.few.fewS
theorem ew2 {m:Msg} (g:aC4 m):by1 (m,())=some ((dU9 m,()),()):=by
 have hl:=g.good.few
 have:=hl.id; have:=hl.next; have:=hl.pre
 rw [dv2]
 unfold dU9
 refine ah3 (fun h=>by rw [decide_eq_false h,Bool.false_and]) (fun h=>?_)
 rw [decide_eq_true h,Bool.true_and,bare_is,Option.bind_some]
 dsimp only
 refine cq2 (f:=fun b=>some ((b,()),())) (fun _=>?_)
 rw [cc0 (ef3 g.good),Option.bind_some]
 refine cq2 (f:=fun b=>some ((b,()),())) (fun _=>?_)
 rw [eK0 (by omega) g.good.plen,Option.bind_some]
 refine cq2 (f:=fun b=>some ((b,()),())) (fun _=>?_)
 rw [em6 g.good.interval,Option.bind_some]
 refine cq2 (f:=fun b=>some ((b,()),())) (fun _=>?_)
 rw [em6 g.good.seq,Option.bind_some]
 refine cq2 (f:=fun b=>some ((b,()),())) (fun _=>?_)
 rw [em6 g.metric,Option.bind_some]
 refine cq2 (f:=fun b=>some ((b,()),())) (fun _=>?_)
 unfold em0
 refine ac8 (fun h=>?_) (fun h=>?_)
 ·rw [if_pos h,if_pos (af6 (by omega))]
  have:(m.id++m.next==([]:Bs))=(m.id==[] && m.next==[]):=by
   rw [Bool.eq_iff_iff]; simp
  rw [this]
 ·rw [if_neg h]
  by_cases ha:0 < m.ae
  ·rw [ifd ha,decide_eq_true ha,Bool.true_and,eU6]
   cases h8:decide (m.id.length=8) with
   | false=>rw [bd2,Bool.false_and]
   | true=>
    rw [ift,eu1,Option.bind_some,ee9,Option.bind_some,ew1,Option.bind_some,Bool.true_and]
    have e1:(m.next==([]:Bs))=decide (m.next=[]):=by rw [Bool.eq_iff_iff]; simp
    have e2:(bn9 m.next==ad8 m.ae)=decide (bn9 m.next=ad8 m.ae):=by rw [Bool.eq_iff_iff]; simp
    rw [e1]
    dsimp only
    rw [e2]
  ·rw [ifn ha,decide_eq_false ha,Bool.false_and]
theorem eX2 {m:Msg} (g:ax8 m) (h:de2 m):aC4 m:=by
 obtain ⟨g1,g2,g3,g4,g5,g6,g7,g8,g9,g10,g11,g12,g13,g14,g15,g16,g17,g18,g19,g20,g21,g22,g23,_⟩:=g
 exact ⟨⟨h,g18,g15,g13,g19,g1,g16,g6,g8,g17⟩,g23,g11⟩
end Go.VP
namespace Go.VP
open Go Go.VI
def cv8:List UInt8:=[0]++List.replicate 1 1++List.replicate 2 2++List.replicate 4 3++List.replicate 8 4++List.replicate 16 5++List.replicate 32 6++List.replicate 64 7++List.replicate 128 8
theorem eF7:∀ x:Fin 256,x.val≠0→∃ y,cv8[x.val]?=some y∧1≤y.toNat∧y.toNat≤8:=by
 have h:∀ x:Fin 256,x.val≠0→1≤(cv8[x.val]?.getD 0).toNat∧(cv8[x.val]?.getD 0).toNat≤8:=by decide +kernel
 have hl:cv8.length=256:=by decide +kernel
 intro x hx
 refine ⟨cv8[x.val]?.getD 0,eS7 (by omega),h x hx⟩
theorem eO6 (a0:Int):aJ0 (a0,())=if 0≤a0 then cv8[a0.toNat]?.bind fun (y1:UInt8)=>some (((IntKind.wrap .i64 (y1.toNat:Int)),()),()) else none:=cE2 a0
theorem eV1 {n:Nat} (h0:n≠0) (h:n < 256):∃ z:Int,ao7 ((n:Int),())=some ((z,()),())∧0≤z∧z≤7:=by
 obtain ⟨y,h1,h2,h3⟩:=eF7 ⟨n,h⟩ h0
 have h1:cv8[n]?=some y:=h1
 rw [bv4,eO6,if_pos (by omega),Int.toNat_natCast,h1,Option.bind_some,Option.bind_some]
 dsimp only
 rw [eX8,w64 (by omega) (by omega)]
 exact ⟨_,rfl,by omega,by omega⟩
theorem ew3 {a b:UInt8}:(an0 .xor .u8 (a.toNat:Int) (b.toNat:Int)≠0)↔a≠b:=by
 rw [ec9 a.toNat_lt b.toNat_lt]
 constructor
 ·intro h e; subst e; simp at h
 ·intro h e
  have h0:a.toNat ^^^ b.toNat=0:=by omega
  exact h (UInt8.toNat.inj (by
   have:=congrArg (· ^^^ b.toNat) h0
   simpa [Nat.xor_assoc] using this))
theorem ew4 {x y:Bs} (h:x=[]∨y=[]):aC3 x y=0:=by
 rcases h with rfl | rfl
 ·cases y <;> rfl
 ·cases x <;> rfl
theorem em7 {a b:Bs} {n:Nat} (ha:a.length≤100000) (hb:b.length≤100000):∀ (d m i:Nat),i+d=min a.length b.length→d < m→∃ A:Int,aV7 n m a b (if (b.length:Int) < (a.length:Int) then (b.length:Int) else (a.length:Int)) i=some ((A,()),())∧A / 8=i+aC3 (a.drop i) (b.drop i)∧0≤A∧A≤10000000:=by
 have hmin:(if (b.length:Int) < (a.length:Int) then (b.length:Int) else (a.length:Int))=((min a.length b.length:Nat):Int):=by split <;> omega
 rw [hmin]
 intro d
 induction d with
 | zero=>
  intro m i hd hm
  obtain ⟨m,rfl⟩:∃ k,m=k+1:=⟨m - 1,by omega⟩
  rw [bJ3,ifn (by omega),hmin,w64 (by omega) (by omega)]
  refine ⟨_,rfl,?_,by omega,by omega⟩
  rw [ew4 (by
   by_cases h:a.length≤b.length
   ·exact .inl (List.drop_eq_nil_of_le (by omega))
   ·exact .inr (List.drop_eq_nil_of_le (by omega)))]
  omega
 | succ d ih=>
  intro m i hd hm
  obtain ⟨m,rfl⟩:∃ k,m=k+1:=⟨m - 1,by omega⟩
  have hp:0≤(i:Int):=by omega
  have hi:i < a.length:=by omega
  have hib:i < b.length:=by omega
  rw [bJ3,ifd (by omega)]
  simp only [if_pos hp,Int.toNat_natCast,List.getElem?_eq_getElem hi,List.getElem?_eq_getElem hib,Option.bind_some]
  rw [List.drop_eq_getElem_cons hi,List.drop_eq_getElem_cons hib,aC3]
  by_cases he:a[i]=b[i]
  ·obtain ⟨A,h1,h2,h3,h4⟩:=ih m (i+1) (by omega) (by omega)
   rw [show ((i+1:Nat):Int)=(i:Int)+1 by omega] at h1 h2
   have hz:an0 .xor .u8 ((a[i]).toNat:Int) ((b[i]).toNat:Int)=0:=Classical.byContradiction fun h=>ew3.1 h he
   rw [if_pos he,hz,if_neg (by decide),w64 (by omega) (by omega)]
   exact ⟨A,h1,by omega,h3,h4⟩
  ·have hz:=ew3.2 he
   rw [if_neg he,if_pos (by simpa using hz)]
   rw [ec9 (a[i]).toNat_lt (b[i]).toNat_lt] at hz ⊢
   have hx:(a[i]).toNat ^^^ (b[i]).toNat < 256:=Nat.xor_lt_two_pow (n:=8) (a[i]).toNat_lt (b[i]).toNat_lt
   obtain ⟨z,k1,k2,k3⟩:=eV1 (n:=(a[i]).toNat ^^^ (b[i]).toNat) (by omega) hx
   rw [k1,Option.bind_some]
   dsimp only
   rw [w64 (x:=8 * (i:Int)) (by omega) (by omega),w64 (by omega) (by omega)]
   exact ⟨_,rfl,by omega,by omega,by omega⟩
theorem eO7 {a b:Bs} (ha:a.length≤100000) (hb:b.length≤100000):bb1 (a,b,())=some ((((aC3 a b:Nat):Int),()),()):=by
 have hA:∃ A:Int,bS1 (a,b,())=some ((A,()),())∧A / 8=aC3 a b∧0≤A:=by
  show ∃ A:Int,bS0 fuel (a,b,())=_∧_
  rw [dm6]
  obtain ⟨A,h1,h2,h3,_⟩:=em7 (n:=fuel) ha hb (min a.length b.length) fuel 0 (by omega) (ag7 (by omega))
  exact ⟨A,h1,by simpa using h2,h3⟩
 obtain ⟨A,h1,h2,h3⟩:=hA
 rw [dd2,h1,Option.bind_some]
 dsimp only
 rw [el0 h3,h2]
end Go.VP
namespace Go.VP
open Go Go.VI
noncomputable def dV7 (m:Msg):Bool:=bareB m && (decide (10 < m.type_) && (decide (m.type_ < 256) && decide (m.data.length < 256)))
noncomputable def aQ3 (m:Msg):Bool:=if m.kind=11 then dU9 m else if m.kind=12∨m.kind=13 then bC4 m else if m.kind=14 then dV7 m else bC2 m
noncomputable def bX5 (m:Msg):Bs:=if m.kind=12∨m.kind=13 then (aD6 m).1 else if m.kind=14 then (as6 m.type_ m.data).1 else (aD4 m).1
theorem by8 {m:Msg} (h:bC2 m=true):7≤m.kind∧m.kind≤10:=by
 rcases (av7.1 h).kinds with h | h | ⟨h,_⟩ | ⟨h,_⟩ <;> omega
theorem by9 {m:Msg} (h:bC4 m=true):m.kind=12∨m.kind=13:=by
 rcases (av8.1 h).kinds with h | ⟨h,_⟩
 ·exact .inl h
 ·exact .inr h
theorem dV8 {m:Msg} (hk:m.kind=14):dV7 m=true↔dV4 m:=by
 unfold dV7
 simp only [Bool.and_eq_true,decide_eq_true_eq]
 exact ⟨fun ⟨a,b,c,d⟩=>⟨hk,a,⟨b,c⟩,d⟩,fun h=>⟨h.bare,h.ty.1,h.ty.2,h.len⟩⟩
theorem bg7 {m:Msg}:aQ3 m=true↔bc0 m:=by
 unfold aQ3
 constructor
 ·intro h
  split at h
  ·exact .upd (dV0.1 h)
  split at h
  ·exact .route (av8.1 h)
  split at h
  ·rename_i hk; exact .opq ((dV8 hk).1 h)
  ·exact .field (av7.1 h)
 ·intro h
  cases h with
  | field h=>
   have hb:=av7.2 h
   have:=by8 hb
   rw [if_neg (by omega),if_neg (by omega),if_neg (by omega)]; exact hb
  | route h=>
   have hb:=av8.2 h
   have:=by9 hb
   rw [if_neg (by omega),if_pos this]; exact hb
  | upd h=>rw [if_pos h.kind]; exact dV0.2 h
  | opq h=>rw [if_neg (by have:=h.kind; omega),if_neg (by have:=h.kind; omega),if_pos h.kind]; exact (dV8 h.kind).2 h
theorem dD8 {m:Msg} (g:aC4 m):aS0 (m,())=some ((aQ3 m,()),()):=by
 have op:(if bareB m=true then (if (decide (10 < m.type_))=true then (if (decide (m.type_ < 256))=true then some (((decide ((m.data.length:Int) < 256)),()),()) else some ((false,()),())) else some ((false,()),())) else some ((false,()),()))=(some ((dV7 m,()),()):Option ((Bool × Unit) × Unit)):=by
  unfold dV7
  have e:decide ((m.data.length:Int) < 256)=decide (m.data.length < 256):=by rw [Bool.eq_iff_iff]; simp; omega
  rw [e]
  cases bareB m
  ·rfl
  cases decide (10 < m.type_)
  ·rfl
  cases decide (m.type_ < 256)
  ·rfl
  ·rfl
 rw [dn9,ew2 g,dr1 g.good,bare_is,dT1 g.good]
 simp only [Option.bind_some,op]
 unfold aQ3
 refine ac8 (fun h=>by rw [if_pos h]) (fun h=>?_)
 rw [if_neg h]
 refine ac8 (fun h2=>?_) (fun h2=>?_)
 ·rw [if_pos (by simp [h2]),if_pos (.inl h2)]
 ·refine ac8 (fun h3=>by rw [if_pos (.inr h3)]) (fun h3=>?_)
  rw [if_neg (show ¬(m.kind=12∨m.kind=13) by omega)]
  exact ac8 (fun h4=>by rw [if_pos h4]) (fun h4=>by rw [if_neg h4])
theorem eF8 {m:Msg} (g:aC4 m):bk6 (m,())=some ((bX5 m,()),()):=by
 rw [do2,ev3 g.good,aW1,eU0 g.good]
 simp only [Option.bind_some]
 unfold bX5
 refine ac8 (fun h2=>?_) (fun h2=>?_)
 ·rw [if_pos (by simp [h2]),if_pos (.inl h2)]
 ·refine ac8 (fun h3=>by rw [if_pos (.inr h3)]) (fun h3=>?_)
  rw [if_neg (show ¬(m.kind=12∨m.kind=13) by omega)]
  exact ac8 (fun h4=>by rw [if_pos h4]) (fun h4=>by rw [if_neg h4])
def idT (s:Bs):Bs:=(as6 6 (idD s)).1
def cQ6 (a:Bs):Bs:=(as6 7 (dy2 a)).1
def cj1 (m:Msg) (n:Nat):Bs:=(as6 8 (bX4 m n)).1
theorem bd8 (t:Int) (d:Bs):(as6 t d).1.length≤257:=by unfold as6; split <;> simp; omega
abbrev mkW (b:Bs) (c:Ctx):ab0:=⟨b,c.prefix_c0,c.prefix_c1,c.prefix_c2,c.prefix_c3,c.next_c0,c.next_c1,c.id⟩
theorem cq3 {b d:Bs} {c:Ctx} {t:Int} (hb:b.length≤10000):ai8 (mkW b c,t,d,())=some ((),(mkW (b++(as6 t d).1) c,())):=by
 have:=bd8 t d
 rw [cu2,aW1,Option.bind_some]
 dsimp only
 rw [if_pos (ah7 (by omega))]
theorem ew5 {b s:Bs} {c:Ctx} (hb:b.length≤10000) (hs:s.length≤10000):ax4 (mkW b c,s,())=some ((),(mkW (b++idT s) (as0 c s),())):=by
 rw [cE3,if_pos (af6 (by omega)),cq3 hb,Option.bind_some]; rfl
theorem eO8 {b a:Bs} {c:Ctx} {f:Int} (hb:b.length≤10000) (h:(f=0∧a.length=4)∨(f=1∧a.length=16)):ak3 (mkW b c,f,a,())=some ((),(mkW (b++cQ6 a) (bd7 c f a),())):=by
 have hf:0≤f∧f < 2:=by omega
 have hal:a.length≤16:=by omega
 rw [cu3,dT0,Option.bind_some]
 unfold cQ6 dy2 cO3
 by_cases hl:ai0 a=true
 ·rw [if_pos hl,if_pos hl]
  dsimp only
  rw [ift,if_pos (af6 (by simp; omega)),cq3 hb,Option.bind_some,if_pos hf]; rfl
 ·rw [if_neg hl,if_neg hl]
  dsimp only
  rw [bd2]
  rcases h with ⟨rfl,h⟩ | ⟨rfl,h⟩
  ·rw [if_pos (by decide),if_pos (af6 (by omega)),cq3 hb,Option.bind_some,if_pos hf,if_pos h]; rfl
  ·rw [if_neg (by decide),if_pos (af6 (by omega)),cq3 hb,Option.bind_some,if_pos hf,if_neg (show ¬a.length=4 by omega)]; rfl
theorem dV9 {ae:Int} (h:0≤ae∧ae < 4):aY8 (ae,())=some ((af7 ae,()),()):=by
 rw [dv6]
 rcases bw4 h with rfl | rfl | rfl | rfl <;> rfl
theorem ay4.cutl {m:Msg} (h:ay4 m):((bV7 m.prefix_ m.plen).length:Int)=ad9 m.plen∧af7 m.ae≤ad9 m.plen∧0≤af7 m.ae:=by
 have r:=h.asR
 obtain ⟨l1,l2,l3,l4,l5,l6⟩:=ar9 r.ae r.plen
 exact ⟨r.cut.1,l2,l1⟩
theorem dD9 {m:Msg} (h:ay4 m):ax5 (m,())=some ((ac2 m,()),()):=by
 obtain ⟨hae,hpl,hbl,h16,hbs,hp16⟩:=h.pre
 obtain ⟨c1,c2,c3⟩:=h.cutl
 rw [do3,ee2 (by omega) (has64.2 (by omega)) (by omega),Option.bind_some,dV9 hae,Option.bind_some]
 dsimp only
 rw [if_pos (by omega)]; rfl
def aq4 (c:Ctx) (m:Msg):Nat:=if aD7 c m.ae=[] then 0 else aC3 ((aD7 c m.ae).drop (af7 m.ae).toNat) (ac2 m)
theorem dW0 (c:Ctx) (m:Msg):aq4 c m≤(ac2 m).length:=by
 unfold aq4; split
 ·omega
 ·exact (dV2 _ _).2
theorem eV2 {b:Bs} {c:Ctx} {m:Msg} (hc:okC c) (h:ay4 m):ac7 (mkW b c,m,())=some ((((aq4 c m:Nat):Int),()),(mkW b c,())):=by
 obtain ⟨hae,hpl,hbl,h16,hbs,hp16⟩:=h.pre
 have hpre:(if m.ae=0 then c.prefix_c0 else (if m.ae=1 then c.prefix_c1 else (if m.ae=2 then c.prefix_c2 else c.prefix_c3)))=aD7 c m.ae:=rfl
 rw [bU9,if_pos hae]
 dsimp only
 rw [hpre]
 unfold aq4
 refine dy1 (fun hq=>by rw [if_pos hq]; rfl) (fun hq=>?_)
 have hl:=dg1 hc hae hq
 have hsz:szA m.ae≤16∧af7 m.ae≤szA m.ae:=by unfold szA af7; refine ⟨?_,?_⟩ <;> (split <;> (try split) <;> (try split) <;> omega)
 rw [if_neg hq,dV9 hae,Option.bind_some]
 dsimp only
 rw [if_pos (by omega),dD9 h,Option.bind_some]
 dsimp only
 rw [eO7 (by simp; omega) (by omega),Option.bind_some]
theorem eV3 {m:Msg} {n k:Nat} {N:Nat} {x0 x1 x2:Int} {w:ab0} {p0 p1 p2 p3 x6:Bs} (hx:x6.length≤100) (hs:al9 m.subs=true) (hfs:az5 m.subs) (hB:ax5 (m,())=some ((ac2 m,()),())) (hBl:(ac2 m).length≤16) (hN:N≤(ac2 m).length) (hw:w.b.length≤10000) :
  ah6 n (k+1) N m [x0,x1,x2] 3 w p0 p1 p2 p3 x6 3=some ((),(mkW (w.b++(as6 8 ((x6++(ac2 m).drop N)++ab3 m.subs)).1) ⟨p0,p1,p2,p3,w.c_Next_c0,w.c_Next_c1,w.c_Id⟩,())):=by
 have hsl:=aW3 hs
 rw [av6,ifn (by omega),dw0 hfs (by have:=hfs.1; have:=(aH1 hs).2; have:=aN4 (l:=m.subs); omega),Option.bind_some,dT2 hs,hB,Option.bind_some]
 dsimp only
 rw [if_pos (by omega),Int.toNat_natCast,if_pos (af6 (by simp; omega)),if_pos (af6 (by simp; omega))]
 have:=cq3 (b:=w.b) (d:=(x6++(ac2 m).drop N)++ab3 m.subs) (c:=⟨p0,p1,p2,p3,w.c_Next_c0,w.c_Next_c1,w.c_Id⟩) (t:=8) hw
 rw [this]; rfl
theorem dE0 {m:Msg} {n k:Nat} {N:Nat} {w:ab0} {p0 p1 p2 p3 x6:Bs} (h:ay4 m) (hx:x6.length≤50) (hfs:az5 m.subs) (hN:N≤(ac2 m).length) (hw:w.b.length≤10000) :
  ar8 n (k+4) N m w x6 [m.interval,m.seq,m.metric] 3 0 p0 p1 p2 p3=some ((),(mkW (w.b++(as6 8 (x6++(be 2 m.interval++(be 2 m.seq++(be 2 m.metric++((ac2 m).drop N++ab3 m.subs)))))).1) ⟨p0,p1,p2,p3,w.c_Next_c0,w.c_Next_c1,w.c_Id⟩,())):=by
 obtain ⟨hae,hpl,hbl,h16,hbs,hp16⟩:=h.pre
 have b2:∀ x,(be 2 x).length=2:=fun x=>ab6 2 x
 rw [bL5,ifd (by omega),if_pos (by omega)]
 show (if ag8 _=true then ah6 n (k+3) N m [m.interval,m.seq,m.metric] 3 w p0 p1 p2 p3 (x6++([aa1 (IntKind.wrap .u8 (ae4 .i64 m.interval 8)),aa1 (IntKind.wrap .u8 m.interval)])) 1 else none)=_
 rw [if_pos (ah7 (by simp; omega)),be2 h.iv,av6,ifd (by omega),if_pos (by omega)]
 show (if ag8 _=true then ah6 n (k+2) N m [m.interval,m.seq,m.metric] 3 w p0 p1 p2 p3 ((x6++be 2 m.interval)++([aa1 (IntKind.wrap .u8 (ae4 .i64 m.seq 8)),aa1 (IntKind.wrap .u8 m.seq)])) 2 else none)=_
 rw [if_pos (ah7 (by simp [b2]; omega)),be2 h.sq,av6,ifd (by omega),if_pos (by omega)]
 show (if ag8 _=true then ah6 n (k+1) N m [m.interval,m.seq,m.metric] 3 w p0 p1 p2 p3 (((x6++be 2 m.interval)++be 2 m.seq)++([aa1 (IntKind.wrap .u8 (ae4 .i64 m.metric 8)),aa1 (IntKind.wrap .u8 m.metric)])) 3 else none)=_
 rw [if_pos (ah7 (by simp [b2]; omega)),be2 h.me,eV3 (by simp [b2]; omega) h.subs hfs (dD9 h) h16 hN hw]
 simp only [List.append_assoc]
theorem eO9 {b:Bs} {c:Ctx} {m:Msg} {N:Nat} (h:ay4 m) (hfs:az5 m.subs) (hN:N≤(ac2 m).length) (hb:b.length≤10000):ad2 (mkW b c,m,(N:Int),())=some ((),(mkW (b++cj1 m N) (aD8 c m.ae m.prefix_),())):=by
 obtain ⟨hae,hpl,hbl,h16,hbs,hp16⟩:=h.pre
 obtain ⟨k,hk⟩:∃ k,fuel=k+4:=by obtain ⟨q,e⟩:=dR6; exact ⟨q+999999999996,e⟩
 have u1:aa1 (IntKind.wrap .u8 m.ae)=aa1 m.ae:=u8w hae.1
 have u2:aa1 (IntKind.wrap .u8 m.plen)=aa1 m.plen:=u8w hpl.1
 have u3:aa1 (IntKind.wrap .u8 (N:Int))=aa1 N:=u8w (by omega)
 show aJ1 fuel (mkW b c,m,(N:Int),())=_
 rw [bY0,u1,u2,u3]
 generalize hf:(fuel:Nat)=F
 rw [hf] at hk
 unfold cj1 bX4 aD8 bM3
 have hx:([aa1 m.ae,128,aa1 m.plen,aa1 N]:Bs).length≤50:=by simp
 refine ac8 (fun h0=>?_) (fun h0=>?_)
 ·rw [if_pos (by simp),if_pos (by simp),if_pos h0,if_pos h0]
  have:=dE0 (n:=F) (k:=k) (N:=N) (w:=mkW b c) (p0:=c.prefix_c0) (p1:=c.prefix_c1) (p2:=c.prefix_c2) (p3:=c.prefix_c3) (x6:=([aa1 m.ae,128,aa1 m.plen,aa1 N]:Bs).set 1 (aa1 0)) h (by simp) hfs hN hb
  rw [← hk] at this
  exact this
 ·rw [if_pos hae,if_neg h0,if_neg h0]
  have:=dE0 (n:=F) (k:=k) (N:=N) (w:=mkW b c) (p0:=if m.ae=0 then m.prefix_ else c.prefix_c0) (p1:=if m.ae=1 then m.prefix_ else c.prefix_c1) (p2:=if m.ae=2 then m.prefix_ else c.prefix_c2) (p3:=if m.ae=3 then m.prefix_ else c.prefix_c3) (x6:=[aa1 m.ae,128,aa1 m.plen,aa1 N]) h hx hfs hN hb
  rw [← hk,if_neg h0] at this
  rw [if_neg h0]
  exact this
def dr5 (c:Ctx) (m:Msg):Bs:=if m.metric=65535 then [] else (if m.id=c.id then [] else idT m.id)++(if m.next=ah5 c (ad8 m.ae) then [] else cQ6 m.next)
def cq4 (c:Ctx) (m:Msg):Ctx:=if m.metric=65535 then c else bd7 (as0 c m.id) (ad8 m.ae) m.next
noncomputable def as9 (c:Ctx) (m:Msg):Bs × Ctx × Int:=
 if aQ3 m=false then ([],c,1) else if m.kind≠11 then (bX5 m,c,0)
 else if m.metric≠65535∧m.next=[]∧ah5 c (ad8 m.ae)≠[] then ([],c,9)
 else (dr5 c m++cj1 m (aq4 c m),aD8 (cq4 c m) m.ae m.prefix_,0)
theorem cv9 {c:Ctx} {i:Bs} (h:i=c.id):as0 c i=c:=by subst h; rfl
theorem cQ7 {c:Ctx} {f:Int} {a:Bs} (hf:f=0∨f=1) (h:a=ah5 c f):bd7 c f a=c:=by
 subst h
 rcases hf with rfl | rfl <;> rfl
theorem ay4.fam {m:Msg} (h:ay4 m) (hm:m.metric≠65535):(ad8 m.ae=0∨ad8 m.ae=1)∧(m.next≠[]→(ad8 m.ae=0∧m.next.length=4)∨(ad8 m.ae=1∧m.next.length=16)):=by
 have hn:=h.near hm
 have hf:=dU8 (ae:=m.ae) (by have:=h.pre.1; omega)
 refine ⟨by omega,fun hne=>?_⟩
 exact em1 (by rcases hn.2.2 with q | q; exact absurd q hne; exact q) (by omega)
theorem em8 {b:Bs} {c:Ctx} {m:Msg} (hc:okC c) (h:ay4 m) (hfs:az5 m.subs) (hb:b.length≤1000) :
  ((ac7 (mkW b c,m,())).bind fun r6=>((ad2 (r6.2.1,m,r6.1.1,())).bind fun r7=>(some ((r7.2.1.b,(af0.mk r7.2.1.c_Prefix_c0 r7.2.1.c_Prefix_c1 r7.2.1.c_Prefix_c2 r7.2.1.c_Prefix_c3 r7.2.1.c_Next_c0 r7.2.1.c_Next_c1 r7.2.1.c_Id),0,()),()):Option ((Bs × Ctx × Int × Unit) × Unit))))=some ((b++cj1 m (aq4 c m),aD8 c m.ae m.prefix_,0,()),()):=by
 rw [eV2 hc h,Option.bind_some]
 dsimp only
 rw [eO9 h hfs (dW0 c m) (by omega),Option.bind_some]
theorem bC6 {c:Ctx} {i:Bs} (hc:okC c) (h:i.length=8):okC (as0 c i):=⟨hc.1,hc.2.1,hc.2.2.1,hc.2.2.2.1,hc.2.2.2.2.1,hc.2.2.2.2.2.1,.inr h⟩
theorem dg2 {c:Ctx} {f:Int} {a:Bs} (hc:okC c) (h:(f=0∧a.length=4)∨(f=1∧a.length=16)):okC (bd7 c f a):=by
 obtain ⟨h0,h1,h2,h3,h4,h5,h6⟩:=hc
 rcases h with ⟨rfl,h⟩ | ⟨rfl,h⟩
 ·exact ⟨h0,h1,h2,h3,.inr h,h5,h6⟩
 ·exact ⟨h0,h1,h2,h3,h4,.inr h,h6⟩
theorem ef4 (s:Bs):(idT s).length≤257:=bd8 _ _
theorem dW1 (s:Bs):(cQ6 s).length≤257:=bd8 _ _
theorem ew6 {c:Ctx} {m:Msg} (hc:okC c) (g:aC4 m):bL3 (c,m,())=some (((as9 c m).1,(as9 c m).2.1,(as9 c m).2.2,()),()):=by
 rw [dH5,dD8 g,Option.bind_some]
 unfold as9
 dsimp only
 cases hl:aQ3 m with
 | false=>rw [aS8,if_pos rfl]
 | true=>
 have hR:=bg7.1 hl
 rw [aj6,if_neg (show ¬(true=false) by simp)]
 refine ah3 (fun hk=>?_) (fun hk=>?_)
 ·rw [eF8 g,Option.bind_some,if_pos hk]
 rw [if_neg (show ¬(m.kind≠11) from fun q=>q hk)]
 have h:ay4 m:=by
  cases hR with
  | field h=>have:=by8 (av7.2 h); omega
  | route h=>have:=by9 (av8.2 h); omega
  | upd h=>exact h
  | opq h=>have:=h.kind; omega
 have hfs:=ef3 g.good
 unfold dr5 cq4
 refine ah3 (fun hm=>?_) (fun hm=>?_)
 rotate_left
 ·rw [if_neg (show ¬(m.metric≠65535∧m.next=[]∧ah5 c (ad8 m.ae)≠[]) from fun q=>q.1 hm),if_pos hm,if_pos hm]
  exact em8 hc h hfs (by simp)
 have hn:=h.near hm
 obtain ⟨hf,hop⟩:=h.fam hm
 have hf2:0≤ad8 m.ae∧ad8 m.ae < 2:=by omega
 have hnx:(if ad8 m.ae=0 then c.next_c0 else c.next_c1)=ah5 c (ad8 m.ae):=rfl
 rw [ee9,Option.bind_some]
 dsimp only
 rw [hnx,if_neg hm,if_neg hm]
 simp only [if_pos hf2]
 have hil:m.id.length≤10000:=by omega
 have nohop:∀ (b:Bs) (k:Ctx),okC k→b.length≤300→ah5 k (ad8 m.ae)=ah5 c (ad8 m.ae)→m.next=ah5 c (ad8 m.ae)→aq4 k m=aq4 c m→
   ((ac7 (mkW b k,m,())).bind fun r6=>((ad2 (r6.2.1,m,r6.1.1,())).bind fun r7=>(some ((r7.2.1.b,(af0.mk r7.2.1.c_Prefix_c0 r7.2.1.c_Prefix_c1 r7.2.1.c_Prefix_c2 r7.2.1.c_Prefix_c3 r7.2.1.c_Next_c0 r7.2.1.c_Next_c1 r7.2.1.c_Id),0,()),()):Option ((Bs × Ctx × Int × Unit) × Unit))))=some ((((b++[])++cj1 m (aq4 c m)),aD8 (bd7 k (ad8 m.ae) m.next) m.ae m.prefix_,0,()),()):=fun b k hk hb e1 e2 e3=>by
  rw [em8 hk h hfs (by omega),cQ7 hf (by rw [e1]; exact e2),e3,List.append_nil]
 have wihop:∀ (b:Bs) (k:Ctx),okC k→b.length≤300→m.next≠[]→aq4 k m=aq4 c m→
   ((ak3 (mkW b k,ad8 m.ae,m.next,())).bind fun r5=>((ac7 (r5.2.1,m,())).bind fun r6=>((ad2 (r6.2.1,m,r6.1.1,())).bind fun r7=>(some ((r7.2.1.b,(af0.mk r7.2.1.c_Prefix_c0 r7.2.1.c_Prefix_c1 r7.2.1.c_Prefix_c2 r7.2.1.c_Prefix_c3 r7.2.1.c_Next_c0 r7.2.1.c_Next_c1 r7.2.1.c_Id),0,()),()):Option ((Bs × Ctx × Int × Unit) × Unit)))))=some ((((b++cQ6 m.next)++cj1 m (aq4 c m)),aD8 (bd7 k (ad8 m.ae) m.next) m.ae m.prefix_,0,()),()):=fun b k hk hb hne e3=>by
  have hl:=dW1 m.next
  rw [eO8 (by omega) (hop hne),Option.bind_some]
  dsimp only
  rw [em8 (dg2 hk (hop hne)) h hfs (by simp; omega)]
  have:aq4 (bd7 k (ad8 m.ae) m.next) m=aq4 k m:=rfl
  rw [this,e3]
 have hl0:aq4 (as0 c m.id) m=aq4 c m:=rfl
 have hidl:=ef4 m.id
 by_cases hne:m.next=[]
 ·rw [if_pos (by simp [hne])]
  by_cases hq:ah5 c (ad8 m.ae)=[]
  ·rw [if_neg (by simp [hq]),if_neg (show ¬(m.metric≠65535∧m.next=[]∧ah5 c (ad8 m.ae)≠[]) from fun q=>q.2.2 hq)]
   have e2:m.next=ah5 c (ad8 m.ae):=by rw [hne,hq]
   by_cases hi:m.id=c.id
   ·rw [if_neg (by simp [hi]),if_neg (by simp [e2]),if_pos hi,if_pos e2,cv9 hi]
    exact nohop [] c hc (by simp) rfl e2 rfl
   ·rw [if_pos (by simp [hi]),if_neg hi,if_pos e2,ew5 (by simp) hil,Option.bind_some]
    dsimp only
    rw [if_neg (by simp [e2])]
    exact nohop (idT m.id) (as0 c m.id) (bC6 hc hn.2.1) (by omega) rfl e2 hl0
  ·rw [if_pos (by simp [hq]),if_pos ⟨hm,hne,hq⟩]
 ·rw [if_neg (by simpa using hne),if_neg (show ¬(m.metric≠65535∧m.next=[]∧ah5 c (ad8 m.ae)≠[]) from fun q=>hne q.2.1)]
  by_cases hi:m.id=c.id
  ·rw [if_neg (by simp [hi]),if_pos hi,cv9 hi]
   by_cases e2:m.next=ah5 c (ad8 m.ae)
   ·rw [if_neg (by simp [e2]),if_pos e2]
    exact nohop [] c hc (by simp) rfl e2 rfl
   ·rw [if_pos (by simpa using e2),if_neg e2]
    exact wihop [] c hc (by simp) hne rfl
  ·rw [if_pos (by simp [hi]),if_neg hi,ew5 (by simp) hil,Option.bind_some]
   dsimp only
   by_cases e2:m.next=ah5 c (ad8 m.ae)
   ·rw [if_neg (by simp [e2]),if_pos e2]
    exact nohop (idT m.id) (as0 c m.id) (bC6 hc hn.2.1) (by omega) rfl e2 hl0
   ·rw [if_pos (by simpa using e2),if_neg e2]
    exact wihop (idT m.id) (as0 c m.id) (bC6 hc hn.2.1) (by omega) hne hl0
end Go.VP
namespace Go.VP
open Go Go.VI
def Tg' (t:Tlv):Prop:=((0≤t.type_∧t.type_≤255)∧t.data.length≤255)∧t.type_≠0∧t.type_≠1
def aH6 (c:Ctx) (s:Bs) (M:List Msg) (d:Ctx):Prop:=∀ p,∃ l,spl p s=.ok l∧(∀ t∈l,Tg' t)∧∀ acc,aj1 c l acc=(acc++M,d,0,0)
theorem dg3 (c:Ctx):aH6 c [] [] c:=fun p=>⟨[],aW2 p,(fun t ht=>by cases ht),fun acc=>by rw [aj1,List.append_nil]⟩
theorem dg4 {c d e:Ctx} {s t:Bs} {M N:List Msg} (h:aH6 c s M d) (h2:aH6 d t N e):aH6 c (s++t) (M++N) e:=fun p=>by
 obtain ⟨l,l1,l2,l3⟩:=h p
 obtain ⟨k,k1,k2,k3⟩:=h2 (p+s.length)
 refine ⟨l++k,by rw [el9 s p l l1,k1]; rfl,fun x hx=>?_,fun acc=>?_⟩
 ·rcases List.mem_append.1 hx with hx | hx
  ·exact l2 x hx
  ·exact k2 x hx
 ·rw [dD1 l k c acc (by rw [l3]),l3,k3,List.append_assoc]
theorem bw5 {c d:Ctx} {t:Int} {b:Bs} {M:List Msg} (ht:2≤t∧t≤255) (hb:b.length≤255) (h:ay3 c t b=(d,M,0)):aH6 c (as6 t b).1 M d:=fun p=>by
 have e:(as6 t b).1=aa1 t::aa1 b.length::b:=by unfold as6; rw [if_pos ⟨by omega,ht.2,hb⟩]
 refine ⟨[⟨t,p,b⟩],by rw [e]; exact eE8 ⟨by omega,ht.2⟩ hb,fun x hx=>?_,fun acc=>?_⟩
 ·rw [List.mem_singleton] at hx; subst hx
  exact ⟨⟨⟨by show 0≤t; omega,ht.2⟩,hb⟩,by show t≠0; omega,by show t≠1; omega⟩
 ·rw [aj1]
  dsimp only
  rw [h,if_neg (by simp),aj1]
theorem dW2 {c:Ctx} {m:Msg}:bX3 c (m,true,0)=(c,[m],0):=by unfold bX3; rw [if_neg (by simp),if_pos rfl]
theorem em9 {c:Ctx} {m:Msg} (h:ay0 m):aH6 c (aD4 m).1 [m] c:=by
 obtain ⟨h1,h2,h3⟩:=eb0 h
 have e:(aD4 m).1=(as6 (m.kind - 5) (ae8 m++ab3 m.subs)).1:=by unfold aD4; rw [if_pos (av7.2 h)]
 rw [e]
 refine bw5 (by omega) h2 ?_
 unfold ay3
 rw [if_neg (by omega),if_neg (by omega),if_pos (by omega),ea9 h,dW2]
theorem en0 {c:Ctx} {m:Msg} (h:as7 m):aH6 c (aD6 m).1 [m] c:=by
 obtain ⟨h1,h2⟩:=eb5 h
 have e:(aD6 m).1=(as6 (if m.kind=13 then 10 else 9) (az1 m++ab3 m.subs)).1:=by unfold aD6; rw [if_pos (av8.2 h)]
 have ht:(if m.kind=13 then (10:Int) else 9)=9∨(if m.kind=13 then (10:Int) else 9)=10:=by split <;> omega
 have hb:=eb3 h
 rw [e]
 generalize (if m.kind=13 then (10:Int) else 9)=t at *
 refine bw5 (by omega) h2 ?_
 unfold ay3
 rw [if_neg (by omega),if_neg (by omega),if_neg (by omega),if_pos (by omega),hb,dW2]
theorem dV4.eq {m:Msg} (h:dV4 m):cT6 m.type_ m.data=m:=by
 have hx:bareOf m=some ⟨m.kind,0,0,[],0,0,[],0,0,[],0,[],0,0,0,0,0,0,0,[],[],[],m.type_,m.data,[]⟩:=by
  have hk:=h.kind
  unfold bareOf; rw [if_neg (by omega),if_neg (by omega),if_neg (by omega),if_neg (by omega),if_neg (by omega),if_neg (by omega),if_neg (by omega),if_neg (by omega),if_neg (by omega),if_neg (by omega),if_neg (by omega),if_neg (by omega),if_neg (by omega),if_pos hk]
 have hb:=h.bare
 rw [bareB,hx] at hb
 have:=eqB_true.1 hb
 rw [h.kind] at this
 exact this
theorem eF9 {c:Ctx} {m:Msg} (h:dV4 m):aH6 c (as6 m.type_ m.data).1 [m] c:=by
 refine bw5 (by have:=h.ty; omega) (by have:=h.len; omega) ?_
 have:=h.ty
 unfold ay3
 rw [if_neg (by omega),if_neg (by omega),if_neg (by omega),if_neg (by omega),h.eq]
theorem en1 {c:Ctx} {m:Msg} (h:bc0 m) (hk:m.kind≠11):aH6 c (bX5 m) [m] c:=by
 unfold bX5
 cases h with
 | field h=>
  have:=by8 (av7.2 h)
  rw [if_neg (by omega),if_neg (by omega)]; exact em9 h
 | route h=>
  have:=by9 (av8.2 h)
  rw [if_pos this]; exact en0 h
 | upd h=>exact absurd h.kind hk
 | opq h=>
  have:=h.kind
  rw [if_neg (by omega),if_pos this]; exact eF9 h
theorem eP0 {c:Ctx} {s:Bs} (h:s.length=8):aH6 c (idT s) [] (as0 c s):=by
 refine bw5 (by omega) (by unfold idD; simp; omega) ?_
 unfold ay3
 rw [if_neg (by omega),if_pos (by omega)]
 unfold cd5
 rw [if_pos rfl,eF5 h]
theorem eG0 {a:Bs} (h:a.length≤16):(dy2 a).length≤255:=by
 unfold dy2; split
 ·simp; omega
 split <;> simp <;> omega
theorem eG1 {c:Ctx} {a:Bs} {f:Int} (h:(f=0∧a.length=4)∨(f=1∧a.length=16)):aH6 c (cQ6 a) [] (bd7 c f a):=by
 refine bw5 (by omega) (eG0 (by omega)) ?_
 unfold ay3
 rw [if_neg (by omega),if_pos (by omega)]
 unfold cd5
 rw [if_neg (by omega),if_pos rfl,ev7 h]
theorem dW3 {c:Ctx} {m:Msg} {n:Nat} (hc:okC c) (h:ay4 m) (hn:n≤(ac2 m).length)
  (hk:n≠0→aD7 c m.ae≠[]∧((aD7 c m.ae).drop (af7 m.ae).toNat).take n=(ac2 m).take n)
  (hf:m.metric≠65535→c.id=m.id∧ah5 c (ad8 m.ae)=m.next):aH6 c (cj1 m n) [m] (aD8 c m.ae m.prefix_):=by
 have hl:=dV3 h n
 have hs:=aW3 h.subs
 obtain ⟨_,_,_,h16,_,_⟩:=h.pre
 refine bw5 (by omega) (by omega) ?_
 unfold ay3
 rw [if_neg (by omega),if_pos (by omega)]
 unfold cd5
 rw [if_neg (by omega),if_neg (by omega),if_pos rfl,eF4 hc h hn hk hf]
theorem eG2 (c:Ctx) (m:Msg):aq4 c m≠0→aD7 c m.ae≠[]∧((aD7 c m.ae).drop (af7 m.ae).toNat).take (aq4 c m)=(ac2 m).take (aq4 c m):=by
 intro h
 by_cases hq:aD7 c m.ae=[]
 ·unfold aq4 at h; rw [if_pos hq] at h; exact absurd rfl h
 ·refine ⟨hq,?_⟩
  unfold aq4; rw [if_neg hq]; exact dr4 _ _
theorem en2 {c:Ctx} {f:Int} {a:Bs} (hf:f=0∨f=1):ah5 (bd7 c f a) f=a:=by rcases hf with rfl | rfl <;> rfl
theorem bc0.upd_of {m:Msg} (h:bc0 m) (hk:m.kind=11):ay4 m:=by
 cases h with
 | field h=>have:=by8 (av7.2 h); omega
 | route h=>have:=by9 (av8.2 h); omega
 | upd h=>exact h
 | opq h=>have:=h.kind; omega
theorem eb6 {c:Ctx} {m:Msg} {n:Nat} {i h:Bs} (hc:okC c) (hu:ay4 m) (hm:m.metric≠65535) (hn:n≤(ac2 m).length)
  (hk:n≠0→aD7 c m.ae≠[]∧((aD7 c m.ae).drop (af7 m.ae).toNat).take n=(ac2 m).take n)
  (hi:i=idT m.id∨(i=[]∧m.id=c.id)) (hh:(h=cQ6 m.next∧m.next≠[])∨(h=[]∧m.next=ah5 c (ad8 m.ae))) :
  aH6 c ((i++h)++cj1 m n) [m] (aD8 (bd7 (as0 c m.id) (ad8 m.ae) m.next) m.ae m.prefix_):=by
 obtain ⟨hf,hop⟩:=hu.fam hm
 have hid:=(hu.near hm).2.1
 have hc1:=bC6 hc hid
 have s1:aH6 c i [] (as0 c m.id):=by
  rcases hi with rfl | ⟨rfl,e⟩
  ·exact eP0 hid
  ·rw [cv9 e]; exact dg3 c
 have hc2:okC (bd7 (as0 c m.id) (ad8 m.ae) m.next)∧aH6 (as0 c m.id) h [] (bd7 (as0 c m.id) (ad8 m.ae) m.next):=by
  rcases hh with ⟨rfl,e⟩ | ⟨rfl,e⟩
  ·exact ⟨dg2 hc1 (hop e),eG1 (hop e)⟩
  ·have e':m.next=ah5 (as0 c m.id) (ad8 m.ae):=e
   rw [cQ7 hf e']; exact ⟨hc1,dg3 _⟩
 have s3:aH6 (bd7 (as0 c m.id) (ad8 m.ae) m.next) (cj1 m n) [m] _:=dW3 hc2.1 hu hn hk (fun _=>⟨rfl,en2 hf⟩)
 have:=dg4 (dg4 s1 hc2.2) s3
 exact this
theorem ew7 {c:Ctx} {m:Msg} (hc:okC c) (h:bc0 m) (he:(as9 c m).2.2=0):aH6 c (as9 c m).1 [m] (as9 c m).2.1:=by
 unfold as9 at he ⊢
 rw [bg7.2 h] at he ⊢
 rw [if_neg (show ¬(true=false) by simp)] at he ⊢
 by_cases hk:m.kind≠11
 ·rw [if_pos hk]; exact en1 h hk
 rw [if_neg hk] at he ⊢
 have hu:=h.upd_of (by simpa using hk)
 by_cases hx:m.metric≠65535∧m.next=[]∧ah5 c (ad8 m.ae)≠[]
 ·rw [if_pos hx] at he; exact absurd he (show ¬((9:Int)=0) by decide)
 rw [if_neg hx]
 have hle:=dW0 c m
 have hok:=eG2 c m
 unfold dr5 cq4
 by_cases hm:m.metric=65535
 ·rw [if_pos hm,if_pos hm,List.nil_append]
  exact dW3 hc hu hle hok (fun q=>absurd hm q)
 ·rw [if_neg hm,if_neg hm]
  refine eb6 hc hu hm hle hok ?_ ?_
  ·by_cases hi:m.id=c.id
   ·rw [if_pos hi]; exact .inr ⟨rfl,hi⟩
   ·rw [if_neg hi]; exact .inl rfl
  ·by_cases hnx:m.next=ah5 c (ad8 m.ae)
   ·rw [if_pos hnx]; exact .inr ⟨rfl,hnx⟩
   ·rw [if_neg hnx]
    refine .inl ⟨rfl,fun e=>?_⟩
    exact hx ⟨hm,e,fun q=>hnx (by rw [e,q])⟩
theorem ef5 {c:Ctx} {m:Msg} (hc:okC c) (h:bc0 m):okC (as9 c m).2.1:=by
 unfold as9
 split
 ·exact hc
 split
 ·exact hc
 split
 ·exact hc
 rename_i hk hx
 have hu:=h.upd_of (by simpa using hk)
 have hk2:okC (cq4 c m):=by
  unfold cq4
  split
  ·exact hc
  ·rename_i hm
   obtain ⟨hf,hop⟩:=hu.fam hm
   have hc1:=bC6 (i:=m.id) hc (hu.near hm).2.1
   by_cases hne:m.next=[]
   ·have e:m.next=ah5 (as0 c m.id) (ad8 m.ae):=by
     rw [hne]
     show []=ah5 c (ad8 m.ae)
     cases hq:ah5 c (ad8 m.ae) with
     | nil=>rfl
     | cons a b=>exact absurd ⟨hm,hne,by rw [hq]; simp⟩ hx
    rw [cQ7 hf e]; exact hc1
   ·exact dg2 hc1 (hop hne)
 obtain ⟨a,b,c',d,e⟩:=cq1.1 hu.inn
 obtain ⟨h0,h1,h2,h3,h4,h5,h6⟩:=hk2
 show okC (aD8 (cq4 c m) m.ae m.prefix_)
 unfold aD8
 split
 ·exact ⟨h0,h1,h2,h3,h4,h5,h6⟩
 ·refine ⟨h0,?_,?_,?_,h4,h5,h6⟩
  ·dsimp only
   split
   ·rename_i q; rw [q] at b; right; have:szA 1=4:=rfl; omega
   ·exact h1
  ·dsimp only
   split
   ·rename_i q; rw [q] at b; right; have:szA 2=16:=rfl; omega
   ·exact h2
  ·dsimp only
   split
   ·rename_i q; exact .inr (e q)
   ·exact h3
end Go.VP
