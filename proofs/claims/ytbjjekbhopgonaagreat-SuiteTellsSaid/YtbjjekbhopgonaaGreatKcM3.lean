import Derived.Test.YtbjjekbhopgonaaGreatKcM0
import Derived.Test.YtbjjekbhopgonaaGreatKcM2
import Derived.Test.YtbjjekbhopgonaaGreatKcFQ12
import Derived.Test.YtbjjekbhopgonaaGreatKcFQ2
import Derived.Test.YtbjjekbhopgonaaGreatKcFQ5
import Derived.Test.YtbjjekbhopgonaaGreatKcFQ7
import Derived.Test.YtbjjekbhopgonaaGreatKcFQ8
import Derived.Test.YtbjjekbhopgonaaGreatKcFQ1
import Derived.Test.YtbjjekbhopgonaaGreatKcM1
import Derived.Test.YtbjjekbhopgonaaGreatKcFQ3
import Derived.Test.YtbjjekbhopgonaaGreatKcFQ9
set_option linter.unusedVariables false
set_option linter.unusedSimpArgs false
set_option maxRecDepth 100000
namespace Go.VP
open Go Go.VI
theorem dC4 (c v:Int) (s:Bs) (e:Ent):a68 (a90 c v s e)=true:=by
 have:ab0 (a90 c v s e)=some (a90 c v s e):=by unfold ab0; rw [if_pos (show (a90 c v s e).kind=1 from rfl)]; rfl
 unfold a68; rw [this]; exact af8 _
theorem cP1 (s:Bs) (p q:Nat) (n m:Nat) (h:q=p+n):a06 s p n++a06 s q m=a06 s p (n+m:Nat):=by
 subst h
 unfold a06
 rw [show ((p:Int)+(n:Int)).toNat=p+n by omega,show (((p+n:Nat):Int)+(m:Int)).toNat=p+n+m by omega,show ((p:Int)+((n+m:Nat):Int)).toNat=p+n+m by omega,Int.toNat_natCast,Int.toNat_natCast]
 rw [List.drop_take,List.drop_take,List.drop_take,← List.drop_drop,show p+n - p=n by omega,show p+n+m - (p+n)=m by omega,show p+n+m - p=n+m by omega,List.take_add]
theorem eF3 {s:Bs} {p:Nat} (h:p+2≤s.length):be 2 (num (a06 s p 2))=a06 s p 2:=dZ0 2 _ (ak2 (n:=2) h)
theorem fi1 {s:Bs} {p:Nat} (h:p+4≤s.length):be 4 (num (a06 s p 4))=a06 s p 4:=dZ0 4 _ (ak2 (n:=4) h)
theorem eV6 {s:Bs} (h:s.length=20):ed2 (bp9 s)=s:=by
 unfold ed2 bp9
 dsimp only
 have a:=eF3 (s:=s) (p:=0) (by omega)
 have b:=eF3 (s:=s) (p:=2) (by omega)
 have c:=fi1 (s:=s) (p:=16) (by omega)
 rw [show ((0:Nat):Int)=0 from rfl] at a
 rw [show ((2:Nat):Int)=2 from rfl] at b
 rw [show ((16:Nat):Int)=16 from rfl] at c
 rw [a,b,c]
 have e1:a06 s 0 2++a06 s 2 2=a06 s 0 4:=cP1 s 0 2 2 2 rfl
 have e2:a06 s 0 4++a06 s 4 4=a06 s 0 8:=cP1 s 0 4 4 4 rfl
 have e3:a06 s 0 8++a06 s 8 4=a06 s 0 12:=cP1 s 0 8 8 4 rfl
 have e4:a06 s 0 12++a06 s 12 4=a06 s 0 16:=cP1 s 0 12 12 4 rfl
 have e5:a06 s 0 16++a06 s 16 4=a06 s 0 20:=cP1 s 0 16 16 4 rfl
 have f:a06 s 0 20=s:=by unfold a06; simp [← h]
 rw [e1,e2,e3,e4,e5,f]
theorem eN0 {c v:Int} {s:Bs} {al:Bool} {e:Ent} (h:ao3 e) (hc:c=1∨c=2) (hv:v=1∨v=2) (hs:s=[]∨(v=2∧s.length=18)) (he:ad1 c v s al e=0):okR (a90 c v s e)∧aK0 (a90 c v s e)=e∧(e.family=0→al=true):=by
 unfold ad1 at he
 by_cases f0:e.family=0
 ·rw [if_pos f0] at he
  split at he
  ·rename_i hh
   obtain ⟨ha,hm,ho⟩:=hh
   refine ⟨ho,?_,fun _=>ha⟩
   unfold aK0 a90
   dsimp only
   rw [if_neg (by omega),← hm]
  ·simp at he
 rw [if_neg f0] at he
 split at he
 ·simp at he
 rename_i f2
 have f2:e.family=2:=by omega
 have h1:=h.tag
 by_cases v1:v=1
 ·rw [if_pos v1] at he
  split at he
  ·simp at he
  rename_i hz
  split at he
  ·simp at he
  rename_i hm
  have hz1:e.tag=0:=by grind
  have hz2:e.mask=z4:=by grind
  have hz3:e.next=z4:=by grind
  refine ⟨⟨rfl,dC4 ..,hc,hv,h.addr,h.next,hs,.inr ⟨f2,?_,?_,.inl ⟨v1,hz1,?_,hz3⟩⟩⟩,?_,fun c=>absurd c f0⟩
  ·show 1≤e.metric; omega
  ·show e.metric≤16; omega
  ·show (if e.family=0 then (0:Int) else if v=1 then 32 else (af0 e.mask).1)=32
   rw [if_neg f0,if_pos v1]
  ·unfold aK0 a90
   dsimp only
   rw [if_neg (by omega),← hz2]
 ·rw [if_neg v1] at he
  split at he
  ·simp at he
  rename_i hp
  split at he
  ·simp at he
  rename_i hm
  have hp1:(af0 e.mask).2=true:=by grind
  have hp2:ah1 e.addr (af0 e.mask).1=true:=by grind
  have hk:=dM7 hp1
  have hpl:(a90 c v s e).plen=(af0 e.mask).1:=by
   show (if e.family=0 then (0:Int) else if v=1 then 32 else (af0 e.mask).1)=_
   rw [if_neg f0,if_neg v1]
  refine ⟨⟨rfl,dC4 ..,hc,hv,h.addr,h.next,hs,.inr ⟨f2,?_,?_,.inr ⟨?_,?_,?_,?_,?_,?_⟩⟩⟩,?_,fun c=>absurd c f0⟩
  ·show 1≤e.metric; omega
  ·show e.metric≤16; omega
  ·show v=2; omega
  ·show 0≤e.tag; omega
  ·show e.tag≤65535; omega
  ·rw [hpl]; omega
  ·rw [hpl]; omega
  ·rw [hpl]; exact hp2
  ·unfold aK0
   rw [hpl,if_pos (show (a90 c v s e).family=2∧(a90 c v s e).ver=2 from ⟨f2,by show v=2; omega⟩),hk.2.2]; rfl
theorem ed6 {c v:Int} {s:Bs} {al:Bool} {b:Bs} (hc:c=1∨c=2) (hv:v=1∨v=2) (hs:s=[]∨(v=2∧s.length=18)):∀ (k at_:Nat) (acc:List Msg),at_+20 * k=b.length→(goR (rt c v s al) b k at_ acc).2.2=0→
  ∃ r,(goR (rt c v s al) b k at_ acc)=(acc++r,0,0)∧r.length=k∧(∀ m∈r,okR m∧m.cmd=c∧m.ver=v∧m.auth=s∧(m.family=0→al=true))∧r.flatMap aS5=b.drop at_
 | 0,at_,acc,h,_=>⟨[],by simp [goR],rfl,by simp,by simp; omega⟩
 | k+1,at_,acc,h,he=>by
  have hl:(a06 b at_ 20).length=20:=ak2 (n:=20) (by omega)
  rw [goR] at he ⊢
  by_cases h0:(rt c v s al (bp9 (a06 b at_ 20))).2=0
  ·rw [if_neg (fun c=>c h0)] at he ⊢
   obtain ⟨r,h1,h2,h3,h4⟩:=ed6 hc hv hs k (at_+20) _ (by omega) he
   obtain ⟨o1,o2,o3⟩:=eN0 (al:=al) (ed1 hl) hc hv hs h0
   refine ⟨a90 c v s (bp9 (a06 b at_ 20))::r,by rw [h1]; simp [rt],by simp [h2],fun m hm=>?_,?_⟩
   ·rcases List.mem_cons.1 hm with rfl | hm
    ·exact ⟨o1,rfl,rfl,rfl,o3⟩
    ·exact h3 m hm
   ·rw [List.flatMap_cons,h4]
    unfold aS5
    rw [o2,eV6 hl]
    have:a06 b at_ 20=(b.drop at_).take 20:=by
     unfold a06
     rw [show ((at_:Int)+20).toNat=at_+20 by omega,Int.toNat_natCast,List.drop_take,show at_+20 - at_=20 by omega]
    rw [this,← List.drop_drop,List.take_append_drop]
  ·rw [if_pos h0] at he; exact absurd he h0
theorem ey2 {f:Msg} {most:Int}:∀ (l:List Msg) (i:Nat) (acc:Bs),(i+l.length:Nat)≤most→(∀ (j:Nat) (h:j < l.length),0 < i+j→bq1 f l[j])→av7 f most l i acc=(acc++l.flatMap aS5,0,0)
 | [],i,acc,_,_=>by simp [av7]
 | m::r,i,acc,h,ht=>by
  rw [av7,if_neg (by simp at h; omega),if_neg (fun c=>c.2 (ht 0 (by simp) (by omega))),ey2 r (i+1) _ (by simp at h ⊢; omega) (fun j hj _=>by
   have:=ht (j+1) (by simp; omega) (by omega)
   simpa using this)]
  simp
end Go.VP
namespace Go.VP
open Go Go.VI
theorem eV7 (b:Bs):0≤(ae7 b).1∧(ae7 b).1≤b.length:=by
 unfold ae7
 split
 ·simp
 split
 ·simp
 split
 ·dsimp only; omega
 split
 ·dsimp only; omega
 split
 ·simp
 split
 ·simp
 split
 ·dsimp only; omega
 ·simp
theorem ed7 {f:Ent→Msg × Int} {b:Bs}:∀ (k at_:Nat) (acc:List Msg),at_+20 * k≤b.length→(goR f b k at_ acc).2.2≠0→(goR f b k at_ acc).1=[]∧0≤(goR f b k at_ acc).2.1∧(goR f b k at_ acc).2.1≤b.length
 | 0,at_,acc,h,he=>absurd rfl he
 | k+1,at_,acc,h,he=>by
  rw [goR] at he ⊢
  split
  ·exact ⟨rfl,by dsimp only; omega,by dsimp only; omega⟩
  ·rename_i h0
   rw [if_neg h0] at he
   exact ed7 k (at_+20) _ (by omega) he
theorem eN1 {b:Bs} (h:(a93 b).2.2≠0):(a93 b).1=[]∧0≤(a93 b).2.1∧(a93 b).2.1≤b.length:=by
 unfold a93 at h ⊢
 by_cases h0:(ae7 b).2=0
 ·have hk:=cV3 h0
  rw [if_neg (fun c=>c h0)] at h ⊢
  by_cases h1:bt b 1=2∧aJ9 (a06 b 4 20)=true
  ·rw [if_pos h1] at h ⊢
   by_cases h2:b.length=24
   ·rw [if_pos h2]; exact ⟨rfl,by dsimp only; omega,by dsimp only; omega⟩
   ·rw [if_neg h2] at h ⊢; exact ed7 _ _ _ (by omega) h
  ·rw [if_neg h1] at h ⊢; exact ed7 _ _ _ (by omega) h
 ·rw [if_pos h0]; exact ⟨rfl,eV7 b⟩
theorem eN2 {b:Bs} (h:(a93 b).2.2=0):∃ r,a93 b=(r,0,0)∧1≤r.length∧r.length≤25∧(∀ m∈r,okR m)∧aw1 r=(b,0,0):=by
 unfold a93 at h ⊢
 by_cases h0:(ae7 b).2=0
 rotate_left
 ·rw [if_pos h0] at h; exact absurd h h0
 obtain ⟨k1,k2,k3,k4,k5,k6,k7⟩:=cV3 h0
 rw [if_neg (fun c=>c h0)] at h ⊢
 obtain ⟨w,x,y,z,t,rfl⟩:=cP0 (b:=b) (by omega)
 have e0:bt (w::x::y::z::t) 0=(w.toNat:Int):=rfl
 have e1:bt (w::x::y::z::t) 1=(x.toNat:Int):=rfl
 have hy:y=0:=b92 (show (y.toNat:Int)=((0:UInt8).toNat:Int) from k5)
 have hz:z=0:=b92 (show (z.toNat:Int)=((0:UInt8).toNat:Int) from k6)
 subst hy; subst hz
 have fin:∀ (r:List Msg) (s:Bs) (al:Bool) (at_:Nat),(s=[]∨(bt (w::x::0::0::t) 1=2∧s.length=18))→(al=true→r.length=1)→1≤r.length→r.length+(if s=[] then 0 else 1)≤25→
   (∀ m∈r,okR m∧m.cmd=bt (w::x::0::0::t) 0∧m.ver=bt (w::x::0::0::t) 1∧m.auth=s∧(m.family=0→al=true))→r.flatMap aS5=(w::x::0::0::t).drop at_→[w,x,0,0]++(if s=[] then [] else [255,255]++s)=(w::x::0::0::t).take at_→aw1 r=(w::x::0::0::t,0,0):=by
  intro r s al at_ hs hal hr1 hr2 hm hfl htk
  unfold aw1
  rw [eF2 (fun m h=>(hm m h).1)]
  cases r with
  | nil=>simp at hr1
  | cons f r=>
   obtain ⟨f1,f2,f3,f4,f5⟩:=hm f (by simp)
   dsimp only
   have hmo:(((f::r).length:Nat):Int)≤b13 f:=by
    unfold b13
    rw [f4]
    by_cases hs0:s=[]
    ·rw [if_pos hs0] at hr2 ⊢; omega
    ·rw [if_neg hs0] at hr2 ⊢; omega
   rw [ey2 (f::r) 0 _ (by simpa using hmo) (fun j hj h0=>?_)]
   ·have:aK1 f=(w::x::0::0::t).take at_:=by
     rw [← htk]
     unfold aK1
     rw [f2,f3,f4,e0,e1,an2 (by omega),an2 (by omega),aJ5,aJ5]
    rw [this,hfl,List.take_append_drop]
   ·obtain ⟨g1,g2,g3,g4,g5⟩:=hm ((f::r)[j]) (List.getElem_mem hj)
    have nal:¬al=true:=fun c=>by have:=hal c; omega
    exact ⟨by rw [g2,f2],by rw [g3,f3],by rw [g4,f4],fun c=>nal (g5 c),fun c=>nal (f5 c)⟩
 generalize hB:(w::x::0::0::t)=B at *
 have hl:(a06 B 4 20).length=20:=ak2 (p:=4) (n:=20) (by omega)
 have tk4:B.take 4=[w,x,0,0]:=by rw [← hB]; rfl
 by_cases h1:bt B 1=2∧aJ9 (a06 B 4 20)=true
 ·rw [if_pos h1] at h ⊢
  by_cases h2:B.length=24
  ·rw [if_pos h2] at h; simp at h
  rw [if_neg h2] at h ⊢
  have hs:((a06 B 4 20).drop 2).length=18:=by simp [hl]
  obtain ⟨r,r1,r2,r3,r4⟩:=ed6 k3 k4 (.inr ⟨h1.1,hs⟩) ((B.length - 24) / 20) 24 [] (by omega) h
  rw [r1]
  refine ⟨r,by simp,by omega,by omega,fun m hm=>(r3 m hm).1,fin r _ _ 24 (.inr ⟨h1.1,hs⟩) (fun c=>by simp at c; omega) (by omega) (by split <;> omega) r3 r4 ?_⟩
  have hne:¬((a06 B 4 20).drop 2=[]):=fun c=>by rw [c] at hs; simp at hs
  rw [if_neg hne,← tk4]
  have h2:(a06 B 4 20).take 2=[255,255]:=by have:=h1.2; unfold aJ9 at this; simpa using this
  rw [← h2,List.take_append_drop]
  have:a06 B 4 20=(B.take 24).drop 4:=rfl
  rw [this]
  have:=List.take_append_drop 4 (B.take 24)
  rw [List.take_take,show min 4 24=4 by decide] at this
  exact this
 ·rw [if_neg h1] at h ⊢
  obtain ⟨r,r1,r2,r3,r4⟩:=ed6 k3 k4 (.inl rfl) ((B.length - 4) / 20) 4 [] (by omega) h
  rw [r1]
  exact ⟨r,by simp,by omega,by omega,fun m hm=>(r3 m hm).1,fin r _ _ 4 (.inl rfl) (fun c=>by simp at c; omega) (by omega) (by simp; omega) r3 r4 (by rw [if_pos rfl,tk4]; rfl)⟩
end Go.VP
namespace Go.VP
open Go Go.VI
def aw2 (l:List Sub):Bool:=l.all (am5 0 255)
def cV4 (l:List Sub):Prop:=∀ y∈l,0≤y.type_∧y.type_≤255∧y.data.length≤255
theorem aA8 {l:List Sub}:aw2 l=true↔cV4 l:=by simp [aw2,am5,cV4]
theorem cu6 {l:List Sub} (hl:l.length≤1000000000):az8 (l,())=some ((aw2 l,()),()):=by
 rw [eb5,eE0 hl]; rfl
theorem c28 {l:List Sub} (hl:l.length≤1000000000):ap9 (l,())=some ((aw2 l,()),()):=by
 rw [dH6,ev8 hl]; rfl
theorem u8t {y:Sub} (h:0≤y.type_∧y.type_≤255∧y.data.length≤255):a01 (IntKind.wrap .u8 y.type_)=a01 y.type_∧a01 (IntKind.wrap .u8 (y.data.length:Int))=a01 y.data.length:=by
 rw [wu8,wu8,an2 h.1,an2 (by omega)]; exact ⟨rfl,rfl⟩
theorem eV8 {l:List Sub} {n:Nat} (hr:cV4 l) (h1:l.length≤1000000):∀ (d m i:Nat) (acc:Bs),i+d=l.length→d < m→acc.length≤257 * i→
  bF0 n m l acc i=some ((acc++a73 (l.drop i),true,()),()):=by
 intro d
 induction d with
 | zero=>
  intro m i acc hd hm ha
  obtain ⟨m,rfl⟩:∃ k,m=k+1:=⟨m - 1,by omega⟩
  rw [cN9,ifn (by omega),List.drop_eq_nil_of_le (by omega),a73,List.append_nil]
 | succ d ih=>
  intro m i acc hd hm ha
  obtain ⟨m,rfl⟩:∃ k,m=k+1:=⟨m - 1,by omega⟩
  have hlt:i < l.length:=by omega
  have hy:=hr l[i] (List.getElem_mem hlt)
  have:=ih m (i+1) (acc++[a01 l[i].type_,a01 l[i].data.length]++l[i].data) (by omega) (by omega) (by simp; omega)
  rw [show ((i+1:Nat):Int)=(i:Int)+1 by omega] at this
  rw [cN9,ifd (by omega),if_pos (by omega),Int.toNat_natCast,a27 hlt,(u8t hy).1,(u8t hy).2,if_pos (a89 (by simp; omega)),if_pos (a89 (by simp; omega)),w64 (by omega) (by omega),this,List.drop_eq_getElem_cons hlt,a73]
  simp
theorem eN3 {l:List Sub} {n:Nat} (hr:cV4 l) (h1:l.length≤1000000):∀ (d m i:Nat) (acc:Bs),i+d=l.length→d < m→acc.length≤257 * i→
  b85 n m l acc i=some ((acc++a73 (l.drop i),true,()),()):=by
 intro d
 induction d with
 | zero=>
  intro m i acc hd hm ha
  obtain ⟨m,rfl⟩:∃ k,m=k+1:=⟨m - 1,by omega⟩
  rw [ck2,ifn (by omega),List.drop_eq_nil_of_le (by omega),a73,List.append_nil]
 | succ d ih=>
  intro m i acc hd hm ha
  obtain ⟨m,rfl⟩:∃ k,m=k+1:=⟨m - 1,by omega⟩
  have hlt:i < l.length:=by omega
  have hy:=hr l[i] (List.getElem_mem hlt)
  have:=ih m (i+1) (acc++[a01 l[i].type_,a01 l[i].data.length]++l[i].data) (by omega) (by omega) (by simp; omega)
  rw [show ((i+1:Nat):Int)=(i:Int)+1 by omega] at this
  rw [ck2,ifd (by omega),if_pos (by omega),Int.toNat_natCast,a27 hlt,if_pos (by omega),a27 hlt,(u8t hy).1,(u8t hy).2,if_pos (a11 (by simp; omega)),if_pos (by omega),a27 hlt,if_pos (a11 (by simp; omega)),w64 (by omega) (by omega),this,List.drop_eq_getElem_cons hlt,a73]
  simp
def dn0 (l:List Sub):Bs × Bool:=if aw2 l=true then (a73 l,true) else ([],false)
theorem c47 {l:List Sub} (h:aw2 l=true):dn0 l=(a73 l,true):=by unfold dn0; rw [if_pos h]
theorem ed8 {l:List Sub} (hl:ai8 l) (h1:l.length≤1000000):bJ6 (l,())=some (((dn0 l).1,(dn0 l).2,()),()):=by
 show db8 a04 _=_
 have hs:=dL2 hl
 rw [ev3,cu6 hl.1,Option.bind_some]
 unfold dn0
 dsimp only
 by_cases h:aw2 l=true
 ·have:=eV8 (n:=a04) (aA8.1 h) h1 l.length a04 0 [] (by omega) (a28 (by omega)) (by simp)
  rw [show ((0:Nat):Int)=0 from rfl] at this
  rw [h,a41,dL3 hl,Option.bind_some,if_pos (show 0≤ab5 l∧ab5 l≤a98 by unfold a98; omega),this,ift]
  simp
 ·rw [Bool.not_eq_true] at h
  rw [h,a83,aa1]
theorem dM8 {l:List Sub} (hl:ai8 l) (h1:l.length≤1000000):b42 (l,())=some (((dn0 l).1,(dn0 l).2,()),()):=by
 show cz7 a04 _=_
 rw [e95,c28 hl.1,Option.bind_some]
 unfold dn0
 dsimp only
 by_cases h:aw2 l=true
 ·have:=eN3 (n:=a04) (aA8.1 h) h1 l.length a04 0 [] (by omega) (a28 (by omega)) (by simp)
  rw [show ((0:Nat):Int)=0 from rfl] at this
  rw [h,a41,this,ift]
  simp
 ·rw [Bool.not_eq_true] at h
  rw [h,a83,aa1]
def goE (s:Bs):Nat→Nat→List Sub→List Sub × Int × Int
 | 0,_,acc=>(acc,0,0)
 | d+1,p,acc=>
  if p < s.length then
   if (s.length:Int) < p+2+bt s (p+1) then ([],p,2)
   else goE s d (p+2+(bt s (p+1)).toNat) (acc++[⟨bt s p,a06 s (p+2) (bt s (p+1))⟩])
  else (acc,0,0)
def ac1 (s:Bs):List Sub × Int × Int:=goE s (s.length+1) 0 []
theorem eV9 {s:Bs} {n:Nat} (hs:s.length≤1000000):∀ (d m p:Nat) (acc:List Sub),s.length < p+d→p≤s.length→d < m→acc.length≤p→
  bE5 n m acc s p s.length false=some (a35 (goE s d p acc),()):=by
 intro d
 induction d with
 | zero=>intro m p acc h1 h2; omega
 | succ d ih=>
  intro m p acc h1 h2 hm ha
  obtain ⟨m,rfl⟩:∃ k,m=k+1:=⟨m - 1,by omega⟩
  have w:WfC s p s.length:=⟨by omega,by omega,by omega,by omega⟩
  rw [e77]
  rw [show ap6 (⟨s,(p:Int),(s.length:Int),false⟩,())=_ from do5 w,Option.bind_some]
  dsimp only
  unfold goE
  by_cases hp:p < s.length
  ·rw [ifd (by omega),if_pos hp]
   rw [show a75 (⟨s,(p:Int),(s.length:Int),false⟩,1,())=_ from ak9 w (by omega) (by omega) (by omega),Option.bind_some]
   dsimp only
   have w1:=w.fwd (n:=1) (by omega) (by omega)
   rw [cB2 (by omega)]
   by_cases h2':p+2≤s.length
   ·rw [ak9 w1 (by omega) (by omega) (by omega),Option.bind_some]
    dsimp only
    have hb:=a31 s (p+1)
    have w2:=w1.fwd (n:=1) (by omega) (by omega)
    rw [show (p:Int)+1=((p+1:Nat):Int) by omega,cB2 (s:=s) (p:=p+1) (by omega)]
    by_cases h3:(s.length:Int) < p+2+bt s (p+1)
    ·rw [if_pos h3,ba8 (by rw [show (((p+1:Nat):Int))=(p:Int)+1 by omega]; exact w2) (.inr (.inr (by omega))),Option.bind_some]
     rfl
    ·rw [if_neg h3,ap0 (by rw [show (((p+1:Nat):Int))=(p:Int)+1 by omega]; exact w2) (by omega) (by omega),Option.bind_some]
     dsimp only
     rw [aa1,if_pos (aJ6 (by simp; omega) eq2)]
     have:=ih m (p+2+(bt s (p+1)).toNat) (acc++[⟨bt s p,a06 s (p+2) (bt s (p+1))⟩]) (by omega) (by omega) (by omega) (by simp; omega)
     rw [← this,show ((p+1:Nat):Int)+1=(p:Int)+2 by omega]
     congr 1
   ·have hb:bt s (p+1)=0:=by unfold bt; rw [List.getElem?_eq_none (by omega)]; rfl
    rw [c35 w1 (by omega) (by omega) (.inr (by omega)),Option.bind_some]
    dsimp only
    rw [ba8 w1 (.inl rfl),Option.bind_some,hb,if_pos (show (s.length:Int) < p+2+0 by omega)]
    rfl
  ·rw [ifn (by omega),if_neg hp]
theorem dp2 {s:Bs} (hs:s.length≤1000000):aT3 (s,())=some (a35 (ac1 s),()):=by
 show da0 a04 _=_
 rw [eu9,bp5,Option.bind_some]
 exact eV9 (n:=a04) hs (s.length+1) a04 0 [] (by omega) (by omega) (a28 (by omega)) (by simp)
theorem eN4 {s:Bs} {n:Nat} (hs:s.length≤1000000):∀ (d m p:Nat) (acc:List Sub),s.length < p+d→p≤s.length→d < m→acc.length≤p→
  b76 n m s acc p=some (a35 (goE s d p acc),()):=by
 intro d
 induction d with
 | zero=>intro m p acc h1 h2; omega
 | succ d ih=>
  intro m p acc h1 h2 hm ha
  obtain ⟨m,rfl⟩:∃ k,m=k+1:=⟨m - 1,by omega⟩
  rw [dJ1]
  unfold goE
  by_cases hp:p < s.length
  ·rw [ifd (by omega),if_pos hp,w64 (x:=(s.length:Int) - p) (by omega) (by omega),w64 (x:=(p:Int)+1) (by omega) (by omega),w64 (x:=(s.length:Int) - p - 2) (by omega) (by omega),w64 (x:=(p:Int)+2) (by omega) (by omega)]
   by_cases h2':p+2≤s.length
   ·have hb:=a31 s (p+1)
    have e1:s[((p:Int)+1).toNat]?=some (s[p+1]?.getD 0):=by rw [show ((p:Int)+1).toNat=p+1 by omega]; exact a40 (by omega)
    have e2:s[(p:Int).toNat]?=some (s[p]?.getD 0):=by rw [Int.toNat_natCast]; exact a40 hp
    have hw:IntKind.wrap .i64 ((s[p+1]?.getD 0).toNat:Int)=bt s (p+1):=am4 _
    have hw0:IntKind.wrap .i64 ((s[p]?.getD 0).toNat:Int)=bt s p:=am4 _
    rw [ifn (by omega),if_pos (by omega),e1,Option.bind_some,hw]
    by_cases h3:(s.length:Int) < p+2+bt s (p+1)
    ·rw [if_pos h3,ifd (by omega)]
    ·rw [if_neg h3,ifn (by omega),if_pos (by omega),Option.bind_some,if_pos (by omega),e2,Option.bind_some,hw,hw0,w64 (x:=(p:Int)+2+bt s (p+1)) (by omega) (by omega),if_pos (by omega),if_pos (aJ6 (by simp; omega) eq2)]
     have:=ih m (p+2+(bt s (p+1)).toNat) (acc++[⟨bt s p,a06 s (p+2) (bt s (p+1))⟩]) (by omega) (by omega) (by omega) (by simp; omega)
     rw [← this,show (p:Int)+2+bt s (p+1)=((p+2+(bt s (p+1)).toNat:Nat):Int) by omega]
     rfl
   ·have hb:=a31 s (p+1)
    rw [ifd (by omega),if_pos (by omega)]
  ·rw [ifn (by omega),if_neg hp]
theorem cV5 {s:Bs} (hs:s.length≤1000000):aA2 (s,())=some (a35 (ac1 s),()):=by
 show cz0 a04 _=_
 rw [e90]
 exact eN4 (n:=a04) hs (s.length+1) a04 0 [] (by omega) (by omega) (a28 (by omega)) (by simp)
end Go.VP
namespace Go.VP
open Go Go.VI
theorem ei8 (b:Bs) (p k:Nat):a06 b p (k:Int)=(b.drop p).take k:=by
 unfold a06
 rw [show ((p:Int)+(k:Int)).toNat=p+k by omega,Int.toNat_natCast,List.drop_take]
 congr 1
 omega
theorem ei9 {s:Bs}:∀ (d p:Nat) (acc:List Sub),0≤(goE s d p acc).2.1∧(goE s d p acc).2.1≤s.length∧((goE s d p acc).2.2=0∨(goE s d p acc).2.2=2)
 | 0,p,acc=>by simp [goE]
 | d+1,p,acc=>by
  unfold goE
  split
  ·split
   ·dsimp only; omega
   ·exact ei9 d _ _
  ·simp
theorem az1 (s:Bs):0≤(ac1 s).2.1∧(ac1 s).2.1≤s.length∧((ac1 s).2.2=0∨(ac1 s).2.2=2):=ei9 _ _ _
theorem eW0 {s:Bs}:∀ (d p:Nat) (acc:List Sub),s.length < p+d→(goE s d p acc).2.2=0→(goE s d p acc).2.1=0∧∃ l,(goE s d p acc).1=acc++l∧cV4 l∧a73 l=s.drop p∧2 * l.length+p≤s.length+p
 | 0,p,acc,hd,h=>⟨rfl,[],by simp [goE],(fun y hy=>by cases hy),by rw [List.drop_eq_nil_of_le (by omega)]; rfl,by simp⟩
 | d+1,p,acc,hd,h=>by
  unfold goE at h ⊢
  by_cases h1:p < s.length
  ·rw [if_pos h1] at h ⊢
   by_cases h2:(s.length:Int) < p+2+bt s (p+1)
   ·rw [if_pos h2] at h; cases h
   ·rw [if_neg h2] at h ⊢
    have hb:=a31 s (p+1)
    have hb0:=a31 s p
    obtain ⟨k0,l,k1,k2,k3,k4⟩:=eW0 d _ _ (by omega) h
    have hcl:(a06 s (p+2) (bt s (p+1))).length=(bt s (p+1)).toNat:=by
     have:=a61 (s:=s) (p:=(p:Int)+2) (n:=bt s (p+1)) (by omega) (by omega) (by omega)
     omega
    refine ⟨k0,⟨bt s p,a06 s (p+2) (bt s (p+1))⟩::l,by rw [k1]; simp,fun y hy=>?_,?_,?_⟩
    ·rcases List.mem_cons.1 hy with rfl | hy
     ·exact ⟨hb0.1,by show bt s p≤255; omega,by show (a06 s (p+2) (bt s (p+1))).length≤255; omega⟩
     ·exact k2 y hy
    ·unfold a73
     rw [k3]
     dsimp only
     rw [hcl]
     have e1:a01 (bt s p)=s[p]:=by
      have:bt s p=(s[p].toNat:Int):=by unfold bt; simp [h1]
      rw [this,aJ5]
     have hp1:p+1 < s.length:=by omega
     have e2:a01 (((bt s (p+1)).toNat:Nat):Int)=s[p+1]:=by
      have:bt s (p+1)=(s[p+1].toNat:Int):=by unfold bt; simp [hp1]
      rw [this,Int.toNat_natCast,aJ5]
     have e3:a06 s ((p:Int)+2) (bt s (p+1))=(s.drop (p+2)).take (bt s (p+1)).toNat:=by
      have:=ei8 s (p+2) (bt s (p+1)).toNat
      rw [show ((p+2:Nat):Int)=(p:Int)+2 by omega,show (((bt s (p+1)).toNat:Nat):Int)=bt s (p+1) by omega] at this
      exact this
     rw [e1,e2,e3,List.drop_eq_getElem_cons h1,List.drop_eq_getElem_cons hp1,show p+1+1=p+2 by omega,show s.drop (p+2+(bt s (p+1)).toNat)=(s.drop (p+2)).drop (bt s (p+1)).toNat by rw [List.drop_drop],List.take_append_drop]
    ·have:=congrArg List.length k3
     simp only [List.length_cons]
     have e:=aN9 l
     have hlen:∀ l:List Sub,2 * (l.length:Int)≤ab5 l:=fun l=>by
      induction l with
      | nil=>simp [ab5]
      | cons y l ih=>simp only [ab5,List.length_cons]; omega
     have:=hlen l
     rw [List.length_drop] at *
     omega
  ·rw [if_neg h1] at h ⊢
   exact ⟨rfl,[],by simp,(fun y hy=>by cases hy),by rw [List.drop_eq_nil_of_le (by omega)]; rfl,by simp⟩
theorem fi2 {s:Bs} (h:(ac1 s).2.2=0):(ac1 s).2.1=0∧cV4 (ac1 s).1∧a73 (ac1 s).1=s∧2 * (ac1 s).1.length≤s.length:=by
 obtain ⟨k0,l,k1,k2,k3,k4⟩:=eW0 (s:=s) (s.length+1) 0 [] (by omega) h
 rw [List.nil_append] at k1
 unfold ac1
 rw [k1]
 exact ⟨k0,k2,by rw [k3]; rfl,by omega⟩
end Go.VP
namespace Go.VP
open Go Go.VI
def z16:Bs:=[0,0,0,0,0,0,0,0,0,0,0,0,0,0,0,0]
theorem dp3:a96 (16,())=some ((z16,()),()):=by
 rw [ba7,if_pos (by unfold a98; decide)]; rfl
theorem cu7:au1 ()=some ((z16,()),()):=by
 rw [dV5,dH4,ifn (by decide),if_pos (by unfold a98; decide),Option.bind_some]; rfl
def cm1 (a:Bs) (n:Int):Bool:=decide (0≤n∧n≤128) && ah1 a n
theorem dC5 {a:Bs} {n:Int} (h:a.length=16) (hn:IntKind.has .i64 n):a72 (a,n,())=some ((cm1 a n,()),()):=by
 have h8:IntKind.wrap .i64 (8 * (a.length:Int))=128:=by rw [h]; rfl
 rw [bY5,h8]
 unfold cm1
 refine a09 (fun q=>by omega) (fun _=>?_)
 refine a09 (fun _=>?_) (fun q=>by omega)
 refine a86 (fun h0=>?_) (fun h0=>?_)
 ·refine a86 (fun h1=>?_) (fun h1=>?_)
  ·rw [dL6 (by omega) hn,Option.bind_some,decide_eq_true ⟨h0,h1⟩,Bool.true_and]
  ·rw [decide_eq_false (fun q=>h1 q.2),Bool.false_and]
 ·rw [decide_eq_false (fun q=>h0 q.1),Bool.false_and]
theorem dC6 {a:Bs} {n:Int} (h:a.length=16):aa7 (a,n,())=some ((cm1 a n,()),()):=by
 rw [c20 (by omega) (.inr h),h]; rfl
structure NgR (m:Msg):Prop where
 kind:m.kind=2
 bare:a68 m=true
 cmd:m.cmd=1∨m.cmd=2
 tag:0≤m.tag∧m.tag < 65536
 metric:1≤m.metric∧m.metric≤16
 len:m.prefix_.length=16
 pre:cm1 m.prefix_ m.plen=true
 next:m.next=z16∨a79 m.next=true
open Classical in
noncomputable def ngB (m:Msg):Bool:=decide (NgR m)
theorem be3 {m:Msg}:ngB m=true↔NgR m:=by simp [ngB]
theorem ey3 {m:Msg} (h:¬NgR m):ngB m=false:=by simp [ngB,h]
theorem NgR.next16 {m:Msg} (h:NgR m):m.next.length=16:=by
 rcases h.next with e | e
 ·rw [e]; rfl
 ·exact (ay4 e).1
theorem NgR.plen {m:Msg} (h:NgR m):0≤m.plen∧m.plen≤128:=by
 have:=h.pre; unfold cm1 at this; simp at this; exact this.1
structure cV6 (m:Msg):Prop where
 tag:IntKind.has .i64 m.tag
 plen:IntKind.has .i64 m.plen
 cmd:IntKind.has .i64 m.cmd
 list:m.list.length≤1000000000
 subs:m.subs.length≤1000000000
theorem eF4 {m:Msg} {r:Option ((Bool × Unit) × Unit)} (h:r=some ((a79 m.next,()),())) (hk:NgR m↔(m.next=z16∨a79 m.next=true)):(if (m.next==z16)=true then (some ((true,()),()):Option ((Bool × Unit) × Unit)) else r.bind fun r5=>some ((r5.1.1,()),()))=some ((ngB m,()),()):=by
 refine c43 (fun q=>by rw [be3.2 (hk.2 (.inl q))]) (fun q=>?_)
 rw [h,Option.bind_some]
 cases hl:a79 m.next with
 | true=>rw [be3.2 (hk.2 (.inr hl))]
 | false=>rw [ey3 (fun x=>by rcases hk.1 x with e | e; exact q e; rw [hl] at e; cases e)]
theorem e04 {m:Msg} (g:cV6 m):aK9 (m,())=some ((ngB m,()),()):=by
 rw [dK3]
 have no:¬NgR m→(some ((false,()),()):Option ((Bool × Unit) × Unit))=some ((ngB m,()),()):=fun h=>by rw [ey3 h]
 have tail:(m.kind=2)→a68 m=true→(m.cmd=1∨m.cmd=2)→((a24 (m.tag,2,())).bind fun r6=>(if (!r6.1.1)=true then some ((false,()),()) else (if (decide (m.metric < 1))=true then some ((false,()),()) else (if (decide (16 < m.metric))=true then some ((false,()),()) else (if ((m.prefix_.length:Int) != 16)=true then some ((false,()),()) else ((a72 (m.prefix_,m.plen,())).bind fun r7=>(if (!r7.1.1)=true then some ((false,()),()) else ((a96 (16,())).bind fun r8=>(if (m.next==r8.1.1)=true then some ((true,()),()) else ((ai9 (m.next,())).bind fun r9=>some ((r9.1.1,()),())))))))))))= (some ((ngB m,()),()):Option ((Bool × Unit) × Unit)):=by
  intro hk hb hc
  rw [show a24 (m.tag,2,())=some ((a25 m.tag 2,()),()) from ak1 (k:=2) g.tag (by omega) (by omega),Option.bind_some]
  dsimp only
  cases hf:a25 m.tag 2 with
  | false=>rw [a83]; exact no (fun h=>by rw [b47.2 h.tag] at hf; cases hf)
  | true=>
   rw [a41]
   refine a86 (fun q=>no (fun h=>by have:=h.metric; omega)) (fun h1=>?_)
   refine a86 (fun q=>no (fun h=>by have:=h.metric; omega)) (fun h2=>?_)
   refine a16 (fun q=>no (fun h=>by have:=h.len; omega)) (fun h3=>?_)
   rw [dC5 (by omega) g.plen,Option.bind_some]
   dsimp only
   cases hp:cm1 m.prefix_ m.plen with
   | false=>rw [a83]; exact no (fun h=>by rw [h.pre] at hp; cases hp)
   | true=>
    rw [a41,dp3,Option.bind_some]
    exact eF4 (cO3 _) ⟨fun h=>h.next,fun h=>⟨hk,hb,hc,b47.1 hf,by omega,by omega,hp,h⟩⟩
 refine a16 (fun q=>no (fun h=>q h.kind)) (fun hk=>?_)
 rw [b08,Option.bind_some]
 dsimp only
 cases hb:a68 m with
 | false=>rw [a83]; exact no (fun h=>by rw [h.bare] at hb; cases hb)
 | true=>
  rw [a41]
  refine a16 (fun q1=>?_) (fun q1=>tail hk hb (.inl q1))
  exact a16 (fun q2=>no (fun h=>by have:=h.cmd; omega)) (fun q2=>tail hk hb (.inr q2))
theorem dC7 {m:Msg} (g:cV6 m):aL4 (m,())=some ((ngB m,()),()):=by
 rw [dH5]
 have no:¬NgR m→(some ((false,()),()):Option ((Bool × Unit) × Unit))=some ((ngB m,()),()):=fun h=>by rw [ey3 h]
 refine a09 (fun hk=>?_) (fun q=>no (fun h=>q h.kind))
 rw [aJ7 g.list g.subs,Option.bind_some]
 dsimp only
 cases hb:a68 m with
 | false=>rw [aa1]; exact no (fun h=>by rw [h.bare] at hb; cases hb)
 | true=>
  rw [ift]
  refine a86 (fun h1=>?_) (fun q=>no (fun h=>by have:=h.cmd; omega))
  refine a86 (fun h2=>?_) (fun q=>no (fun h=>by have:=h.cmd; omega))
  refine a86 (fun h3=>?_) (fun q=>no (fun h=>by have:=h.tag; omega))
  refine a86 (fun h4=>?_) (fun q=>no (fun h=>by have:=h.tag; omega))
  refine a86 (fun h5=>?_) (fun q=>no (fun h=>by have:=h.metric; omega))
  refine a86 (fun h6=>?_) (fun q=>no (fun h=>by have:=h.metric; omega))
  refine a09 (fun h7=>?_) (fun q=>no (fun h=>by have:=h.len; omega))
  rw [dC6 (by omega),Option.bind_some]
  dsimp only
  cases hp:cm1 m.prefix_ m.plen with
  | false=>rw [aa1]; exact no (fun h=>by rw [h.pre] at hp; cases hp)
  | true=>
   rw [ift,cu7,Option.bind_some]
   exact eF4 (bC9 _) ⟨fun h=>h.next,fun h=>⟨hk,hb,by omega,by omega,by omega,by omega,hp,h⟩⟩
abbrev cm2:=a23
def aF6 (s:Bs):cm2:=⟨bt s 18,num (a06 s 16 2),s.take 16,[],[],bt s 19⟩
theorem dp4 (s:Bs) (k i:Nat):bt (s.drop k) i=bt s (k+i):=by unfold bt; rw [List.getElem?_drop]
theorem eW1 {s:Bs} (h:s.length=20):cn9 (s,())=some ((aF6 s,true,()),()):=by
 have hl:(s.drop 16).length=4:=by rw [List.length_drop]; omega
 have b0:=a31 (s.drop 16) 0
 have b1:=a31 (s.drop 16) 1
 rw [eu8]
 refine a16 (fun q=>by omega) (fun _=>?_)
 rw [if_pos (by omega),if_pos (by omega),a40 (i:=0) (by omega),Option.bind_some,a40 (i:=1) (by omega),Option.bind_some,a40 (i:=2) (by omega),Option.bind_some,a40 (i:=3) (by omega),Option.bind_some,am4,am4,am4,am4]
 show some ((a23.mk (bt (s.drop 16) 2) (a47 .or .i64 (a91 .i64 (bt (s.drop 16) 0) 8) (bt (s.drop 16) 1)) (s.take 16) [] [] (bt (s.drop 16) 3),true,()),())=_
 rw [eI3 (by omega) (by omega),dp4,dp4,dp4,dp4]
 unfold aF6
 rw [show ((16:Int))=((16:Nat):Int) from rfl,fj8 (by omega)]
theorem eW2 {s:Bs} (h:s.length=20):bF7 (s,())=some ((aF6 s,true,()),()):=by
 rw [e89]
 refine a16 (fun q=>by omega) (fun _=>?_)
 rw [if_pos (by omega),if_pos (by omega),at0 (by simp; omega),Option.bind_some,a40 (i:=18) (by omega),Option.bind_some,a40 (i:=19) (by omega),Option.bind_some,am4,am4]
 rfl
def cV7 (a:Bs) (t f m:Int):Bs:=a++(be 2 t++[a01 f,a01 m])
theorem aV8 {a:Bs} (h:a.length=16) (t f m:Int):(cV7 a t f m).length=20:=by unfold cV7; simp [a21]; omega
theorem be1 {n:Int} (h:0≤n):be 1 n=[a01 n]:=by
 show be 0 (n / 256)++[a01 (n % 256)]=_
 rw [an2 h]; rfl
theorem eW3 {a:Bs} {t f m:Int} (ha:a.length=16) (ht:0≤t∧t < 65536) (hf:0≤f∧f < 256) (hm:0≤m∧m < 256):cp0 (⟨f,t,a,[],[],m⟩,())=some ((cV7 a t f m,true,()),()):=by
 have f1:∀ {n:Int},0≤n∧n < 256→a25 n 1=true:=fun h=>by unfold a25; rw [decide_eq_true_eq]; omega
 rw [ev2]
 dsimp only
 refine a16 (fun q=>by omega) (fun _=>?_)
 rw [if_pos (a11 (by simp)),if_neg (by simp),show a24 (t,2,())=some ((a25 t 2,()),()) from ak1 (k:=2) (a45.2 (by omega)) (by omega) (by omega),Option.bind_some,b47.2 ht]
 dsimp only
 rw [a41,show a24 (f,1,())=some ((a25 f 1,()),()) from ak1 (k:=1) (a45.2 (by omega)) (by omega) (by omega),Option.bind_some,f1 hf]
 dsimp only
 rw [a41,show a24 (m,1,())=some ((a25 m 1,()),()) from ak1 (k:=1) (a45.2 (by omega)) (by omega) (by omega),Option.bind_some,f1 hm]
 dsimp only
 rw [a41,if_pos (a11 (by simp; omega)),u8w hf.1,u8w hm.1]
 unfold cV7
 rw [← be2 ht]; rfl
theorem ej0 {a:Bs} {t f m:Int} (ha:a.length=16) (ht:0≤t∧t < 65536) (hf:0≤f∧f < 256) (hm:0≤m∧m < 256):aN6 (⟨f,t,a,[],[],m⟩,())=some ((cV7 a t f m,true,()),()):=by
 have f1:∀ {n:Int},0≤n∧n < 256→ak5 n 1=(be 1 n,true):=fun h=>by unfold ak5 a25; rw [if_pos (by rw [decide_eq_true_eq]; omega)]
 have f2:ak5 t 2=(be 2 t,true):=by unfold ak5; rw [if_pos (b47.2 ht)]
 have p2:ah0 (t,2,())=some (((ak5 t 2).1,(ak5 t 2).2,()),()):=c36 (k:=2) (a45.2 (by omega)) (by omega) (by omega)
 have p1:∀ {n:Int},0≤n∧n < 256→ah0 (n,1,())=some (((ak5 n 1).1,(ak5 n 1).2,()),()):=fun h=>c36 (k:=1) (a45.2 (by omega)) (by omega) (by omega)
 have l1:∀ n,(be 1 n).length=1:=a21 1
 have l2:∀ n,(be 2 n).length=2:=a21 2
 rw [e94]
 dsimp only
 rw [p2,Option.bind_some,p1 hf,Option.bind_some,p1 hm,Option.bind_some,f2,f1 hf,f1 hm]
 dsimp only
 rw [a41,a41,a41]
 refine a16 (fun q=>by omega) (fun _=>?_)
 rw [if_neg (by simp),if_neg (by simp),if_pos (a11 (by rw [l2]; omega)),if_pos (a11 (by simp [l2,l1]; omega)),if_pos (a11 (by simp [l2,l1]; omega)),be1 hf.1,be1 hm.1]
 unfold cV7
 simp
end Go.VP
namespace Go.VP
open Go Go.VI
def ad3 (b:Bs):Int × Int:=
 if 65535 < b.length then (65535,10) else if b.length < 4 then (b.length,2) else if ¬(bt b 0=1∨bt b 0=2) then (0,4) else if ¬bt b 1=1 then (1,4)
 else if ¬(bt b 2=0∧bt b 3=0) then (2,5) else if ((b.length:Int) - 4) % 20≠0 then (b.length,2) else (0,0)
theorem dM9 {b:Bs} (h:(ad3 b).2=0):4≤b.length∧b.length≤65535∧(bt b 0=1∨bt b 0=2)∧bt b 1=1∧bt b 2=0∧bt b 3=0∧((b.length:Int) - 4) % 20=0:=by
 unfold ad3 at h
 repeat (split at h; · simp at h)
 rename_i h1 h2 h3 h4 h5 h6
 exact ⟨by omega,by omega,by omega,by omega,by omega,by omega,by omega⟩
theorem eB9 {b:Bs}:0≤(ad3 b).1∧(ad3 b).1≤b.length:=by
 unfold ad3
 repeat (split; · dsimp only; omega)
 dsimp only; omega
theorem eW4 {b:Bs} (hb:b.length≤1000000000):bg7 (b,())=some (((ad3 b).1,(ad3 b).2,()),()):=by
 rw [dU7]
 refine a29 (fun h=>by unfold ad3; rw [if_pos (by omega)]) (fun hl=>?_)
 refine a29 (fun h=>by unfold ad3; rw [if_neg (by omega),if_pos (by omega)]) (fun h4=>?_)
 have h4':¬b.length < 4:=by omega
 obtain ⟨w,x,y,z,r,rfl⟩:=cP0 h4'
 have e0:bt (w::x::y::z::r) 0=(w.toNat:Int):=rfl
 have e1:bt (w::x::y::z::r) 1=(x.toNat:Int):=rfl
 have e2:bt (w::x::y::z::r) 2=(y.toNat:Int):=rfl
 have e3:bt (w::x::y::z::r) 3=(z.toNat:Int):=rfl
 rw [show (w::x::y::z::r)[0]?=some w from rfl,show (w::x::y::z::r)[1]?=some x from rfl,show (List.take 4 (w::x::y::z::r)).drop 2=[y,z] from rfl]
 simp only [Option.bind_some]
 have hL:(4:Int)≤((w::x::y::z::r).length:Int):=by omega
 have hz:bp8 [y,z]=true↔((y.toNat:Int)=0∧(z.toNat:Int)=0):=by
  simp only [bp8,List.all_cons,List.all_nil,Bool.and_true,Bool.and_eq_true,beq_iff_eq]
  constructor
  ·rintro ⟨rfl,rfl⟩; exact ⟨rfl,rfl⟩
  ·rintro ⟨h1,h2⟩; exact ⟨b92 h1,b92 h2⟩
 generalize hLL:(w::x::y::z::r).length=L at *
 have tail:((w.toNat:Int)=1∨(w.toNat:Int)=2)→(if ((x.toNat:Int) != 1)=true then some ((1,4,()),()) else (if 0≤(2:Int)∧(2:Int)≤(4:Int)∧(4:Int)≤(L:Int) then ((a49 ([y,z],())).bind fun r4=>(if (!r4.1.1)=true then some ((2,5,()),()) else (if ((L:Int).tmod 20 != 4)=true then some (((L:Int),2,()),()) else some ((0,0,()),())))) else none))=some (((ad3 (w::x::y::z::r)).1,(ad3 (w::x::y::z::r)).2,()),()):=by
  intro ha
  unfold ad3
  rw [hLL,if_neg (show ¬65535 < L by omega),if_neg (show ¬L < 4 by omega),if_neg (show ¬¬(bt (w::x::y::z::r) 0=1∨bt (w::x::y::z::r) 0=2) by rw [e0]; exact fun c=>c ha)]
  refine a16 (fun h=>?_) (fun h1=>?_)
  ·rw [if_pos (show ¬bt (w::x::y::z::r) 1=1 by rw [e1]; exact h)]
  rw [if_neg (show ¬¬bt (w::x::y::z::r) 1=1 by rw [e1]; exact fun c=>c h1),if_pos ⟨by omega,by omega,hL⟩,c45 (by simp),Option.bind_some]
  refine ax3 (fun h=>?_) (fun hzz=>?_)
  ·rw [if_pos (show ¬(bt (w::x::y::z::r) 2=0∧bt (w::x::y::z::r) 3=0) by rw [e2,e3,← hz]; dsimp only at h; rw [h]; simp)]
  rw [if_neg (show ¬¬(bt (w::x::y::z::r) 2=0∧bt (w::x::y::z::r) 3=0) by rw [e2,e3]; exact fun c=>c (hz.1 hzz)),Int.tmod_eq_emod_of_nonneg (by omega)]
  refine a16 (fun h=>?_) (fun h5=>?_)
  ·rw [if_pos (show ((L:Int) - 4) % 20≠0 by omega)]
  ·rw [if_neg (show ¬((L:Int) - 4) % 20≠0 by omega)]
 refine a16 (fun ha=>?_) (fun ha=>tail (.inl ha))
 refine a16 (fun hb=>?_) (fun ha2=>tail (.inr ha2))
 unfold ad3
 rw [hLL,if_neg (show ¬65535 < L by omega),if_neg (show ¬L < 4 by omega),if_pos (show ¬(bt (w::x::y::z::r) 0=1∨bt (w::x::y::z::r) 0=2) by rw [e0]; omega)]
def ak0 (e:cm2):Int:=if e.metric=255 then (if e.tag=0∧e.family=0 then 0 else 5) else if ¬cm1 e.addr e.family=true then 7 else if e.metric < 1∨16 < e.metric then 6 else 0
def aC3 (nx:Bs) (e:cm2):Bs:=if e.metric=255 then (if a79 e.addr=true then e.addr else z16) else nx
def b23 (c:Int) (nx:Bs) (e:cm2):Msg:=a00.mk 2 c 0 [] 0 0 e.addr e.family e.tag nx e.metric [] 0 0 0 0 0 0 0 [] [] [] 0 [] []
def aP6 (c:Int) (nx:Bs) (e:cm2):List Msg:=if e.metric=255 then [] else [b23 c nx e]
structure eq8 (e:cm2):Prop where
 addr:e.addr.length=16
 tag:0≤e.tag∧e.tag < 65536
 fam:0≤e.family∧e.family < 256
 met:0≤e.metric∧e.metric < 256
theorem ed9 {s:Bs} (h:s.length=20):eq8 (aF6 s):=by
 have h1:=a31 s 18
 have h2:=a31 s 19
 have h3:=aF3 (a06 s 16 2)
 have hl:(a06 s 16 2).length=2:=by have:=a61 (s:=s) (p:=16) (n:=2) (by omega) (by omega) (by omega); omega
 rw [hl] at h3
 exact ⟨by show (s.take 16).length=16; rw [List.length_take]; omega,by show 0≤num (a06 s 16 2)∧num (a06 s 16 2) < 65536; exact ⟨h3.1,by have:=h3.2; omega⟩,h1,h2⟩
theorem fi3 {x y:Int} (hx:0≤x∧x < 65536) (hy:0≤y∧y < 256):a47 .or .i64 x y=0↔(x=0∧y=0):=by
 obtain ⟨a,rfl⟩:∃ a:Nat,x=a:=⟨x.toNat,by omega⟩
 obtain ⟨b,rfl⟩:∃ b:Nat,y=b:=⟨y.toNat,by omega⟩
 unfold a47
 show IntKind.wrap .i64 (((BitVec.ofInt 64 (a:Int) ||| BitVec.ofInt 64 (b:Int)).toNat:Nat):Int)=0↔_
 have h1:a ||| b < 2 ^ 16:=Nat.or_lt_two_pow (by omega) (by omega)
 rw [BitVec.toNat_or,BitVec.ofInt_natCast,BitVec.ofInt_natCast,BitVec.toNat_ofNat,BitVec.toNat_ofNat,Nat.mod_eq_of_lt (by omega),Nat.mod_eq_of_lt (by omega),w64 (by omega) (by omega)]
 constructor
 ·intro h
  have h0:a ||| b=0:=by omega
  rw [Nat.or_eq_zero_iff] at h0
  omega
 ·intro h
  have e1:a=0:=by omega
  have e2:b=0:=by omega
  subst e1; subst e2; rfl
theorem fa5 {c:Int} {nx:Bs} {out:List Msg} {e:cm2} (h:eq8 e) (hm:e.metric=255):ax8 (⟨c,nx,out⟩,e,())=some ((ak0 e,()),(⟨c,if ak0 e=0 then aC3 nx e else nx,out⟩,())):=by
 rw [cN2]
 have hz:=fi3 h.tag h.fam
 unfold ak0 aC3
 rw [if_pos hm,if_pos hm]
 refine a16 (fun q=>?_) (fun q=>?_)
 ·rw [if_neg (fun c=>q (hz.2 c))]; try rfl
 ·rw [hz] at q
  rw [if_pos q,dp3,Option.bind_some,cO3,Option.bind_some]
  dsimp only
  cases a79 e.addr <;> rfl
theorem eN5 {c:Int} {nx:Bs} {out:List Msg} {e:cm2} (h:eq8 e) (hr:out.length≤10000):ar4 (⟨c,nx,out⟩,e,())=some ((ak0 e,()),(⟨c,if ak0 e=0 then aC3 nx e else nx,if ak0 e=0 then out++aP6 c nx e else out⟩,())):=by
 rw [cm7]
 refine a09 (fun hm=>?_) (fun hm=>?_)
 ·rw [fa5 h hm,Option.bind_some]
  have:aP6 c nx e=[]:=by unfold aP6; rw [if_pos hm]
  rw [this,List.append_nil,ite_self]
 ·have hn:aC3 nx e=nx:=by unfold aC3; rw [if_neg hm]
  have ho:aP6 c nx e=[b23 c nx e]:=by unfold aP6; rw [if_neg hm]
  rw [hn,ho,ite_self]
  have hf:IntKind.has .i64 e.family:=a45.2 (by have:=h.fam; omega)
  rw [dC5 h.addr hf,Option.bind_some]
  unfold ak0
  rw [if_neg hm]
  refine ax3 (fun q=>?_) (fun q=>?_)
  ·dsimp only at q
   rw [if_pos (show ¬cm1 e.addr e.family=true by rw [q]; simp)]; try rfl
  ·dsimp only at q
   rw [if_neg (show ¬¬cm1 e.addr e.family=true by rw [q]; simp)]
   refine a29 (fun q1=>?_) (fun q1=>?_)
   ·rw [if_pos (show e.metric < 1∨16 < e.metric from .inl q1)]; try rfl
   refine a29 (fun q2=>?_) (fun q2=>?_)
   ·rw [if_pos (show e.metric < 1∨16 < e.metric from .inr q2)]; try rfl
   rw [if_neg (show ¬(e.metric < 1∨16 < e.metric) by omega)]
   show (if a66 ((out.length + [b23 c nx e].length) * am8)=true then some ((0,()),((aa5.mk c nx (out++[b23 c nx e])),())) else none)=_
   rw [if_pos (a89 (Nat.le_trans (Nat.mul_le_mul (show out.length + [b23 c nx e].length≤10001 by simp; omega) eq6) (by decide)))]
   rfl
def goN (c:Int) (b:Bs):Nat→Nat→Bs→List Msg→List Msg × Int × Int
 | 0,_,_,acc=>if acc=[] then ([],b.length,8) else (acc,0,0)
 | k+1,p,nx,acc=>if ak0 (aF6 (a06 b p 20))≠0 then ([],(p:Int),ak0 (aF6 (a06 b p 20))) else goN c b k (p+20) (aC3 nx (aF6 (a06 b p 20))) (acc++aP6 c nx (aF6 (a06 b p 20)))
theorem ey4 (c:Int) (nx:Bs) (e:cm2):(aP6 c nx e).length≤1:=by unfold aP6; split <;> simp
theorem ey5 {n:Nat} {b:Bs} {c:Int} (hb:b.length≤65535):∀ (k m p:Nat) (nx:Bs) (acc:List Msg),p+20 * k=b.length→k < m→acc.length+k≤10000→
  aP9 n m b p c nx acc=some (a35 (goN c b k p nx acc),()):=by
 intro k
 induction k with
 | zero=>
  intro m p nx acc h hm ha
  obtain ⟨m,rfl⟩:∃ k,m=k+1:=⟨m - 1,by omega⟩
  rw [bK3,ifn (by omega),goN]
  refine a09 (fun q=>?_) (fun q=>?_)
  ·rw [if_pos ((cO2 acc).1 q)]; try rfl
  ·rw [if_neg (fun q'=>q ((cO2 acc).2 q'))]; try rfl
 | succ k ih=>
  intro m p nx acc h hm ha
  obtain ⟨m,rfl⟩:∃ k,m=k+1:=⟨m - 1,by omega⟩
  have hl:(a06 b p 20).length=20:=ak2 (n:=20) (by omega)
  have hol:=ey4 c nx (aF6 (a06 b p 20))
  rw [bK3,ifd (by omega),w64 (by omega) (by omega),if_pos (by omega),show (List.take ((p:Int)+20).toNat b).drop ((p:Int)).toNat=a06 b p 20 from rfl,eW1 hl,Option.bind_some]
  dsimp only
  rw [eN5 (ed9 hl) (by omega),Option.bind_some,goN]
  refine a16 (fun he=>?_) (fun he=>?_)
  ·rw [if_pos he]; try rfl
  ·dsimp only at he
   have:=ih m (p+20) (aC3 nx (aF6 (a06 b p 20))) (acc++aP6 c nx (aF6 (a06 b p 20))) (by omega) (by omega) (by rw [List.length_append]; omega)
   rw [show ((p+20:Nat):Int)=(p:Int)+20 by omega] at this
   rw [if_neg (show ¬ak0 (aF6 (a06 b p 20))≠0 by omega),← this]
   dsimp only
   rw [if_pos he,if_pos he]
noncomputable def al0 (b:Bs):List Msg × Int × Int:=if (ad3 b).2≠0 then ([],ad3 b) else goN (bt b 0) b ((b.length - 4) / 20) 4 z16 []
theorem eN6 {b:Bs} (hb:b.length≤1000000000):bN3 (b,())=some (a35 (al0 b),()):=by
 show bN2 a04 _=_
 rw [dG6,eW4 hb,Option.bind_some]
 unfold al0
 refine a16 (fun h=>?_) (fun h=>?_)
 ·rw [if_pos h]; try rfl
 ·dsimp only at h
  obtain ⟨h1,h2,h3,h4,h5,h6,h7⟩:=dM9 h
  rw [if_neg (show ¬(ad3 b).2≠0 by omega),a40 (i:=0) (by omega),Option.bind_some,dp3,Option.bind_some,am4]
  exact ey5 (n:=a04) h2 ((b.length - 4) / 20) a04 4 z16 [] (by omega) (a28 (by omega)) (by simp; omega)
theorem ep3 {n:Nat} {b:Bs} (h4:1≤b.length) (hb:b.length≤65535):∀ (k m p:Nat) (nx:Bs) (acc:List Msg),p+20 * k=b.length→k < m→acc.length+k≤10000→
  aj3 n m b acc nx p=some (a35 (goN (bt b 0) b k p nx acc),()):=by
 intro k
 induction k with
 | zero=>
  intro m p nx acc h hm ha
  obtain ⟨m,rfl⟩:∃ k,m=k+1:=⟨m - 1,by omega⟩
  rw [bK8,ifn (by omega),goN]
  refine a09 (fun q=>?_) (fun q=>?_)
  ·rw [if_pos ((cO2 acc).1 q)]; try rfl
  ·rw [if_neg (fun q'=>q ((cO2 acc).2 q'))]; try rfl
 | succ k ih=>
  intro m p nx acc h hm ha
  obtain ⟨m,rfl⟩:∃ k,m=k+1:=⟨m - 1,by omega⟩
  have hl:(a06 b p 20).length=20:=ak2 (n:=20) (by omega)
  have hol:=ey4 (bt b 0) nx (aF6 (a06 b p 20))
  have hok:=ed9 hl
  have go:=ih m (p+20) (aC3 nx (aF6 (a06 b p 20))) (acc++aP6 (bt b 0) nx (aF6 (a06 b p 20))) (by omega) (by omega) (by rw [List.length_append]; omega)
  rw [show ((p+20:Nat):Int)=(p:Int)+20 by omega] at go
  rw [bK8,ifd (by omega),w64 (by omega) (by omega),if_pos (by omega),show (List.take ((p:Int)+20).toNat b).drop ((p:Int)).toNat=a06 b p 20 from rfl,eW2 hl,Option.bind_some]
  generalize hE:aF6 (a06 b p 20)=e at *
  rw [goN,hE]
  refine a09 (fun hm=>?_) (fun hm=>?_)
  ·have ho:aP6 (bt b 0) nx e=[]:=by unfold aP6; rw [if_pos hm]
   refine a16 (fun q=>?_) (fun q=>?_)
   ·have:ak0 e=5:=by unfold ak0; rw [if_pos hm,if_neg (fun c=>q c.1)]
    rw [this,if_pos (by decide)]; try rfl
   refine a16 (fun q2=>?_) (fun q2=>?_)
   ·have:ak0 e=5:=by unfold ak0; rw [if_pos hm,if_neg (fun c=>q2 c.2)]
    rw [this,if_pos (by decide)]; try rfl
   have:ak0 e=0:=by unfold ak0; rw [if_pos hm,if_pos ⟨q,q2⟩]
   rw [this,if_neg (by decide),cu7,Option.bind_some,bC9,Option.bind_some,← go,ho,List.append_nil]
   dsimp only
   unfold aC3
   rw [if_pos hm]
   cases a79 e.addr <;> rfl
  ·have hn:aC3 nx e=nx:=by unfold aC3; rw [if_neg hm]
   have ho:aP6 (bt b 0) nx e=[b23 (bt b 0) nx e]:=by unfold aP6; rw [if_neg hm]
   rw [hn,ho] at go
   rw [hn,ho,dC6 hok.addr,Option.bind_some]
   refine ax3 (fun q=>?_) (fun q=>?_)
   ·dsimp only at q
    have:ak0 e=7:=by unfold ak0; rw [if_neg hm,if_pos (by rw [q]; simp)]
    rw [this,if_pos (by decide)]; try rfl
   dsimp only at q
   refine a29 (fun q1=>?_) (fun q1=>?_)
   ·have:ak0 e=6:=by unfold ak0; rw [if_neg hm,if_neg (by rw [q]; simp),if_pos (.inl q1)]
    rw [this,if_pos (by decide)]; try rfl
   refine a29 (fun q2=>?_) (fun q2=>?_)
   ·have:ak0 e=6:=by unfold ak0; rw [if_neg hm,if_neg (by rw [q]; simp),if_pos (.inr q2)]
    rw [this,if_pos (by decide)]; try rfl
   have:ak0 e=0:=by unfold ak0; rw [if_neg hm,if_neg (by rw [q]; simp),if_neg (by dsimp only at q1 q2; omega)]
   rw [this,if_neg (by decide),a40 (i:=0) (by omega),Option.bind_some,am4,← go]
   show (if a66 ((acc.length + [b23 (bt b 0) nx e].length) * am8)=true then aj3 n m b (acc++[b23 (bt b 0) nx e]) nx ((p:Int)+20) else none)=_
   rw [if_pos (a89 (Nat.le_trans (Nat.mul_le_mul (show acc.length + [b23 (bt b 0) nx e].length≤10001 by simp; omega) eq6) (by decide)))]
theorem eC0 {b:Bs} (hb:b.length≤1000000000):bU6 (b,())=some (a35 (al0 b),()):=by
 show bU5 a04 _=_
 rw [dJ0]
 unfold al0
 have bad:∀ x:Int × Int,ad3 b=x→x.2≠0→(some (([],x.1,x.2,()),()):Option ((List Msg × Int × Int × Unit) × Unit))=some (a35 (if (ad3 b).2≠0 then ([],ad3 b) else goN (bt b 0) b ((b.length - 4) / 20) 4 z16 []),()):=fun x h h2=>by
  rw [h,if_pos h2]; try rfl
 refine a29 (fun h=>bad (65535,10) (by unfold ad3; rw [if_pos (by omega)]) (by decide)) (fun hl=>?_)
 refine a29 (fun h=>bad (b.length,2) (by unfold ad3; rw [if_neg (by omega),if_pos (by omega)]) (by dsimp only; decide)) (fun h4=>?_)
 rw [a40 (i:=0) (by omega),Option.bind_some,Option.bind_some,a40 (i:=1) (by omega),Option.bind_some,a40 (i:=2) (by omega),Option.bind_some,a40 (i:=3) (by omega),Option.bind_some]
 have b0:¬(bt b 0=1∨bt b 0=2)→ad3 b=(0,4):=fun h=>by unfold ad3; rw [if_neg (by omega),if_neg (by omega),if_pos h]
 have hr:=a31 b 0
 refine a29 (fun h=>bad (0,4) (b0 (by change bt b 0 < 1 at h; omega)) (by decide)) (fun h0=>?_)
 refine a29 (fun h=>bad (0,4) (b0 (by change 2 < bt b 0 at h; omega)) (by decide)) (fun h0'=>?_)
 have g0:bt b 0=1∨bt b 0=2:=by change ¬bt b 0 < 1 at h0; change ¬2 < bt b 0 at h0'; omega
 refine a16 (fun h=>bad (1,4) (by unfold ad3; rw [if_neg (by omega),if_neg (by omega),if_neg (fun c=>c g0),if_pos (show ¬bt b 1=1 from h)]) (by decide)) (fun h1=>?_)
 change bt b 1=1 at h1
 refine a16 (fun h=>bad (2,5) (by unfold ad3; rw [if_neg (by omega),if_neg (by omega),if_neg (fun c=>c g0),if_neg (fun c=>c h1),if_pos (fun c=>h c.1)]) (by decide)) (fun h2=>?_)
 change bt b 2=0 at h2
 refine a16 (fun h=>bad (2,5) (by unfold ad3; rw [if_neg (by omega),if_neg (by omega),if_neg (fun c=>c g0),if_neg (fun c=>c h1),if_pos (fun c=>h c.2)]) (by decide)) (fun h3=>?_)
 change bt b 3=0 at h3
 rw [w64 (by omega) (by omega),Int.tmod_eq_emod_of_nonneg (by omega)]
 have hd:ad3 b=(if ((b.length:Int) - 4) % 20≠0 then ((b.length:Int),2) else (0,0)):=by
  unfold ad3; rw [if_neg (by omega),if_neg (by omega),if_neg (fun c=>c g0),if_neg (fun c=>c h1),if_neg (fun c=>c ⟨h2,h3⟩)]
 refine a16 (fun h=>bad (b.length,2) (by rw [hd,if_pos h]) (by dsimp only; decide)) (fun h5=>?_)
 rw [hd,if_neg (show ¬((b.length:Int) - 4) % 20≠0 by omega),if_neg (by decide),cu7,Option.bind_some]
 exact ep3 (n:=a04) (by omega) (by omega) ((b.length - 4) / 20) a04 4 z16 [] (by omega) (a28 (by omega)) (by simp; omega)
end Go.VP
namespace Go.VP
open Go Go.VI
def eN7 (nx:Bs) (m:Msg):Bs:=if m.next=nx then [] else cV7 m.next 0 0 255
def aK2 (nx:Bs) (m:Msg):Bs:=eN7 nx m++cV7 m.prefix_ m.tag m.plen m.metric
theorem ej1 {nx:Bs} {m:Msg} (h:NgR m):(aK2 nx m).length=if m.next=nx then 20 else 40:=by
 unfold aK2 eN7
 split <;> simp [aV8 h.len,aV8 h.next16]
def bD6 (c:Int):List Msg→Nat→Bs→Bs→Bs × Int × Int
 | [],_,acc,_=>(acc,0,0)
 | m::r,i,acc,nx=>if m.cmd≠c then ([],(i:Int),7) else if 65535 < (acc++aK2 nx m).length then ([],(i:Int),10) else bD6 c r (i+1) (acc++aK2 nx m) m.next
theorem dN0 {acc nx a:Bs} {t f m:Int} (ha:a.length=16) (ht:0≤t∧t < 65536) (hf:0≤f∧f < 256) (hm:0≤m∧m < 256) (hl:acc.length≤1000000) :
  ai3 (⟨acc,nx⟩,⟨f,t,a,[],[],m⟩,())=some ((),(⟨acc++cV7 a t f m,nx⟩,())):=by
 rw [cN8,eW3 ha ht hf hm,Option.bind_some]
 dsimp only
 rw [if_pos (a89 (by rw [aV8 ha]; omega))]
theorem eN8 {acc nx:Bs} {m:Msg} (h:NgR m) (hl:acc.length≤100000):ar6 (⟨acc,nx⟩,m,())=some ((),(⟨acc++aK2 nx m,m.next⟩,())):=by
 have hp:=h.plen
 have hm:=h.metric
 rw [cm9]
 unfold aK2 eN7
 refine c41 (fun q=>?_) (fun q=>?_)
 ·rw [if_neg q,dN0 h.next16 (by omega) (by omega) (by omega) (by show acc.length≤_; omega),Option.bind_some]
  dsimp only
  rw [dN0 h.len h.tag (by omega) (by omega) (by rw [List.length_append,aV8 h.next16]; omega),Option.bind_some,List.append_assoc]
 ·dsimp only at q
  rw [if_pos q,dN0 h.len h.tag (by omega) (by omega) (by omega),Option.bind_some,q]
  rfl
theorem eN9 {n:Nat} {l:List Msg} {f:Msg} (hf:l[0]?=some f) (hok:∀ m∈l,NgR m) (hl:l.length≤1000000):∀ (d m i:Nat) (acc nx:Bs),i+d=l.length→d < m→acc.length≤65535→
  aH9 n m l acc nx i=some (a35 (bD6 f.cmd (l.drop i) i acc nx),()):=by
 intro d
 induction d with
 | zero=>
  intro m i acc nx hd hm ha
  obtain ⟨m,rfl⟩:∃ k,m=k+1:=⟨m - 1,by omega⟩
  rw [bt4,ifn (by omega),List.drop_eq_nil_of_le (by omega)]; try rfl
 | succ d ih=>
  intro m i acc nx hd hm ha
  obtain ⟨m,rfl⟩:∃ k,m=k+1:=⟨m - 1,by omega⟩
  have hi:i < l.length:=by omega
  have ho:=hok _ (List.getElem_mem hi)
  rw [bt4,ifd (by omega),if_pos (by omega),Int.toNat_natCast,a27 hi,hf,Option.bind_some,List.drop_eq_getElem_cons hi,bD6,eN8 ho (by omega),Option.bind_some]
  refine a16 (fun h=>?_) (fun h=>?_)
  ·rw [if_pos h]; try rfl
  rw [if_neg (show ¬l[i].cmd≠f.cmd from fun c=>c h)]
  refine a29 (fun h=>?_) (fun h=>?_)
  ·rw [if_pos (show 65535 < (acc++aK2 nx l[i]).length by dsimp only at h; omega)]; try rfl
  ·dsimp only at h
   have:=ih m (i+1) (acc++aK2 nx l[i]) l[i].next (by omega) (by omega) (by omega)
   rw [show ((i+1:Nat):Int)=(i:Int)+1 by omega] at this
   rw [if_neg (show ¬65535 < (acc++aK2 nx l[i]).length by omega),w64 (by omega) (by omega)]
   exact this
theorem eC1 {n:Nat} {l:List Msg} {f:Msg} (hf:l[0]?=some f) (hok:∀ m∈l,NgR m) (hl:l.length≤1000000):∀ (d m i:Nat) (acc nx:Bs),i+d=l.length→d < m→acc.length≤65535→
  am1 n m l acc nx i=some (a35 (bD6 f.cmd (l.drop i) i acc nx),()):=by
 intro d
 induction d with
 | zero=>
  intro m i acc nx hd hm ha
  obtain ⟨m,rfl⟩:∃ k,m=k+1:=⟨m - 1,by omega⟩
  rw [bt1,ifn (by omega),List.drop_eq_nil_of_le (by omega)]; try rfl
 | succ d ih=>
  intro m i acc nx hd hm ha
  obtain ⟨m,rfl⟩:∃ k,m=k+1:=⟨m - 1,by omega⟩
  have hi:i < l.length:=by omega
  have ho:=hok _ (List.getElem_mem hi)
  have hp:0≤(i:Int):=by omega
  have hpl:=ho.plen
  have hme:=ho.metric
  have hln:=ej1 (nx:=nx) ho
  have go:(acc++aK2 nx l[i]).length≤65535→am1 n m l (acc++aK2 nx l[i]) l[i].next ((i:Int)+1)=some (a35 (bD6 f.cmd (l.drop (i+1)) (i+1) (acc++aK2 nx l[i]) l[i].next),()):=fun h=>by
   have:=ih m (i+1) (acc++aK2 nx l[i]) l[i].next (by omega) (by omega) h
   rw [show ((i+1:Nat):Int)=(i:Int)+1 by omega] at this
   exact this
  rw [bt1,ifd (by omega),List.drop_eq_getElem_cons hi,bD6]
  simp only [if_pos hp,Int.toNat_natCast,List.getElem?_eq_getElem hi,Option.bind_some,hf]
  rw [ej0 ho.next16 (by omega) (by omega) (by omega),ej0 ho.len ho.tag (by omega) (by omega)]
  simp only [Option.bind_some]
  generalize hN:l[i].next=nn at *
  have hnl:nn.length=16:=by rw [← hN]; exact ho.next16
  refine a16 (fun h=>?_) (fun h=>?_)
  ·rw [if_pos h]; try rfl
  rw [if_neg (show ¬l[i].cmd≠f.cmd from fun c=>c h),w64 (by omega) (by omega)]
  unfold aK2 eN7 at *
  rw [hN] at *
  refine c41 (fun q=>?_) (fun q=>?_)
  ·rw [if_neg q,if_pos (a11 (by rw [aV8 hnl]; omega)),if_pos (a11 (by simp only [List.length_append,aV8 hnl,aV8 ho.len]; omega)),List.append_assoc]
   rw [if_neg q] at go
   refine a29 (fun h=>?_) (fun h=>?_)
   ·rw [if_pos (by omega)]; try rfl
   ·rw [if_neg (by omega)]; exact go (by omega)
  ·rw [if_pos q,if_pos (a11 (by rw [aV8 ho.len]; omega))]
   rw [if_pos q] at go
   refine a29 (fun h=>?_) (fun h=>?_)
   ·rw [if_pos (by simp only [List.nil_append]; omega)]; try rfl
   ·rw [if_neg (by simp only [List.nil_append]; omega),← q]; exact go (by simp only [List.nil_append]; omega)
def av0 (f:Msg→Bool):List Msg→Nat→Option Nat
 | [],_=>none
 | m::r,i=>if f m=true then av0 f r (i+1) else some i
theorem bL7 {f:Msg→Bool}:∀ {l:List Msg} {i:Nat},av0 f l i=none→∀ m∈l,f m=true
 | [],_,_,m,hm=>by cases hm
 | x::r,i,h,m,hm=>by
  unfold av0 at h
  split at h
  ·rename_i hx
   rcases List.mem_cons.1 hm with rfl | hm
   ·exact hx
   ·exact bL7 h m hm
  ·cases h
theorem ee0 {f:Msg→Bool}:∀ {l:List Msg} {i:Nat},(∀ m∈l,f m=true)→av0 f l i=none
 | [],_,_=>rfl
 | x::r,i,h=>by
  unfold av0; rw [if_pos (h x (by simp))]; exact ee0 (fun m hm=>h m (by simp [hm]))
noncomputable def aK3 (l:List Msg):Bs × Int × Int:=match av0 ngB l 0 with
 | some i=>([],(i:Int),1)
 | none=>match l with
  | []=>([],0,8)
  | f::_=>bD6 f.cmd l 0 [a01 f.cmd,1,0,0] z16
theorem fa6 {l:List Msg} (g:∀ m∈l,cV6 m) (hl:l.length≤1000000):bv8 (l,())=some (a35 (aK3 l),()):=by
 show bv7 a04 (l,())=_
 rw [dt3]
 have main:∀ (d m i:Nat),i+d=l.length→d < m→av0 ngB l 0=av0 ngB (l.drop i) i→aH8 a04 m l i=some (a35 (aK3 l),()):=by
  intro d
  induction d with
  | zero=>
   intro m i hd hm hb
   obtain ⟨m,rfl⟩:∃ k,m=k+1:=⟨m - 1,by omega⟩
   rw [List.drop_eq_nil_of_le (by omega)] at hb
   have hn:av0 ngB l 0=none:=hb
   have hok:=bL7 hn
   rw [bt3,ifn (by omega)]
   cases l with
   | nil=>rfl
   | cons f r=>
    have hf:=be3.1 (hok f (by simp))
    have he:aK3 (f::r)=bD6 f.cmd (f::r) 0 [a01 f.cmd,1,0,0] z16:=by unfold aK3; rw [hn]
    have L:=eN9 (n:=a04) (f:=f) (l:=f::r) rfl (fun m hm=>be3.1 (hok m hm)) hl (f::r).length a04 0 [a01 f.cmd,1,0,0] z16 (by omega) (a28 (by omega)) (by simp)
    have hc:=hf.cmd
    rw [he,if_neg (by simp; omega),show (f::r)[0]?=some f from rfl,Option.bind_some,dp3,Option.bind_some,wu8,an2 (by omega)]
    exact L
  | succ d ih=>
   intro m i hd hm hb
   obtain ⟨m,rfl⟩:∃ k,m=k+1:=⟨m - 1,by omega⟩
   have hi:i < l.length:=by omega
   rw [List.drop_eq_getElem_cons hi,av0] at hb
   rw [bt3,ifd (by omega),if_pos (by omega),Int.toNat_natCast,a27 hi,e04 (g _ (List.getElem_mem hi)),Option.bind_some]
   dsimp only
   cases ho:ngB l[i] with
   | true=>
    rw [if_pos ho] at hb
    have:=ih m (i+1) (by omega) (by omega) hb
    rw [a41,w64 (by omega) (by omega)]
    exact this
   | false=>
    rw [if_neg (by rw [ho]; simp)] at hb
    rw [a83]
    unfold aK3; rw [hb]; try rfl
 exact main l.length a04 0 (by omega) (a28 (by omega)) rfl
theorem eW5 {l:List Msg} (g:∀ m∈l,cV6 m) (hl:l.length≤1000000):bB0 (l,())=some (a35 (aK3 l),()):=by
 show bA9 a04 (l,())=_
 rw [ds8]
 have main:∀ (d m i:Nat),i+d=l.length→d < m→av0 ngB l 0=av0 ngB (l.drop i) i→aI6 a04 m l i=some (a35 (aK3 l),()):=by
  intro d
  induction d with
  | zero=>
   intro m i hd hm hb
   obtain ⟨m,rfl⟩:∃ k,m=k+1:=⟨m - 1,by omega⟩
   rw [List.drop_eq_nil_of_le (by omega)] at hb
   have hn:av0 ngB l 0=none:=hb
   have hok:=bL7 hn
   rw [bt0,ifn (by omega)]
   cases l with
   | nil=>rfl
   | cons f r=>
    have hf:=be3.1 (hok f (by simp))
    have he:aK3 (f::r)=bD6 f.cmd (f::r) 0 [a01 f.cmd,1,0,0] z16:=by unfold aK3; rw [hn]
    have L:=eC1 (n:=a04) (f:=f) (l:=f::r) rfl (fun m hm=>be3.1 (hok m hm)) hl (f::r).length a04 0 [a01 f.cmd,1,0,0] z16 (by omega) (a28 (by omega)) (by simp)
    have hc:=hf.cmd
    have r1:a39 (f.cmd,1,())=some (([a01 f.cmd],()),()):=by
     rw [show a39 (f.cmd,1,())=some (((ak5 f.cmd 1).1,()),()) from bL4 (k:=1) (a45.2 (by omega)) (by omega) (by omega)]
     unfold ak5 a25; rw [if_pos (by rw [decide_eq_true_eq]; omega),be1 (by omega)]
    rw [he,if_neg (by simp; omega),show (f::r)[0]?=some f from rfl,Option.bind_some,r1,Option.bind_some]
    dsimp only
    rw [if_pos (a11 (by simp)),cu7,Option.bind_some]
    exact L
  | succ d ih=>
   intro m i hd hm hb
   obtain ⟨m,rfl⟩:∃ k,m=k+1:=⟨m - 1,by omega⟩
   have hi:i < l.length:=by omega
   rw [List.drop_eq_getElem_cons hi,av0] at hb
   rw [bt0,ifd (by omega),if_pos (by omega),Int.toNat_natCast,a27 hi,dC7 (g _ (List.getElem_mem hi)),Option.bind_some]
   dsimp only
   cases ho:ngB l[i] with
   | true=>
    rw [if_pos ho] at hb
    have:=ih m (i+1) (by omega) (by omega) hb
    rw [a41,w64 (by omega) (by omega)]
    exact this
   | false=>
    rw [if_neg (by rw [ho]; simp)] at hb
    rw [a83]
    unfold aK3; rw [hb]; try rfl
 exact main l.length a04 0 (by omega) (a28 (by omega)) rfl
end Go.VP
namespace Go.VP
open Go Go.VI
def fn9 (m:Msg):cm2:=⟨m.plen,m.tag,m.prefix_,[],[],m.metric⟩
theorem NgR.is {m:Msg} (h:NgR m):m=b23 m.cmd m.next (fn9 m):=by
 have hb:=h.bare
 unfold a68 ab0 at hb
 rw [if_neg (by have:=h.kind; omega),if_pos h.kind] at hb
 have:=(bC8.1 hb).symm
 rw [h.kind] at this
 exact this
theorem fi4 {c:Int} {nx:Bs} {e:cm2} (hc:c=1∨c=2) (hn:nx=z16∨a79 nx=true) (he:eq8 e) (h0:ak0 e=0) (hm:e.metric≠255):NgR (b23 c nx e):=by
 unfold ak0 at h0
 rw [if_neg hm] at h0
 by_cases hp:cm1 e.addr e.family=true
 ·rw [if_neg (fun c=>c hp)] at h0
  by_cases hq:e.metric < 1∨16 < e.metric
  ·rw [if_pos hq] at h0; omega
  ·refine ⟨rfl,?_,hc,he.tag,?_,he.addr,hp,hn⟩
   ·unfold a68 ab0
    rw [if_neg (show ¬((b23 c nx e).kind=1) from fun q=>absurd (show (2:Int)=1 from q) (by decide)),if_pos (show (b23 c nx e).kind=2 from rfl)]
    exact af8 _
   ·show 1≤e.metric∧e.metric≤16
    omega
 ·rw [if_pos hp] at h0; omega
def bL8:Bs→List Msg→Bs
 | _,[]=>[]
 | nx,m::r=>aK2 nx m++bL8 m.next r
theorem ej2 {c:Int}:∀ {l:List Msg} {i:Nat} {acc nx:Bs},(∀ m∈l,m.cmd=c)→(acc++bL8 nx l).length≤65535→bD6 c l i acc nx=(acc++bL8 nx l,0,0)
 | [],i,acc,nx,_,_=>by simp [bD6,bL8]
 | m::r,i,acc,nx,h,hl=>by
  unfold bL8 at hl ⊢
  rw [← List.append_assoc] at hl ⊢
  unfold bD6
  rw [if_neg (fun q=>q (h m (List.mem_cons_self ..))),if_neg (by rw [List.length_append] at hl; omega)]
  exact ej2 (fun x hx=>h x (List.mem_cons_of_mem _ hx)) hl
theorem fo0 {f:Msg} {r:List Msg} (h:∀ m∈f::r,NgR m):aK3 (f::r)=bD6 f.cmd (f::r) 0 [a01 f.cmd,1,0,0] z16:=by
 unfold aK3
 rw [ee0 fun m hm=>be3.2 (h m hm)]
theorem eF5 {c:Int} {b:Bs}:∀ {k p:Nat} {nx:Bs} {acc:List Msg},p+20 * k=b.length→(goN c b k p nx acc).2.2≠0→(goN c b k p nx acc).1=[]∧0≤(goN c b k p nx acc).2.1∧(goN c b k p nx acc).2.1≤b.length
 | 0,p,nx,acc,hk,h=>by
  unfold goN at h ⊢
  by_cases q:acc=[]
  ·rw [if_pos q]; simp
  ·rw [if_neg q] at h; exact absurd rfl h
 | k+1,p,nx,acc,hk,h=>by
  unfold goN at h ⊢
  by_cases q:ak0 (aF6 (a06 b p 20))≠0
  ·rw [if_pos q]; simp; omega
  ·rw [if_neg q] at h ⊢
   exact eF5 (by omega) h
theorem eC2 {b:Bs} (h:(al0 b).2.2≠0):(al0 b).1=[]∧0≤(al0 b).2.1∧(al0 b).2.1≤b.length:=by
 unfold al0 at h ⊢
 by_cases q:(ad3 b).2≠0
 ·rw [if_pos q]; exact ⟨rfl,eB9⟩
 ·rw [if_neg q] at h ⊢
  obtain ⟨h1,h2,_,_,_,_,h7⟩:=dM9 (Classical.byContradiction q)
  exact eF5 (by omega) h
theorem ey6 {c:Int} {b:Bs} (hc:c=1∨c=2):∀ {k p:Nat} {nx:Bs} {acc:List Msg},p+20 * k=b.length→(nx=z16∨a79 nx=true)→(goN c b k p nx acc).2.2=0→(goN c b k p nx acc).2.1=0∧∃ l,(goN c b k p nx acc).1=acc++l∧acc++l≠[]∧(∀ m∈l,NgR m∧m.cmd=c)∧l.length≤k∧
  ∀ nx',(bL8 nx' l).length≤20 * k+if nx'=nx then 0 else 20
 | 0,p,nx,acc,hk,hn,h=>by
  unfold goN at h ⊢
  by_cases q:acc=[]
  ·rw [if_pos q] at h; cases h
  ·rw [if_neg q]; exact ⟨rfl,[],by simp,by simpa using q,(fun m hm=>by cases hm),Nat.le_refl _,fun nx'=>by simp [bL8]⟩
 | k+1,p,nx,acc,hk,hn,h=>by
  unfold goN at h ⊢
  by_cases q:ak0 (aF6 (a06 b p 20))≠0
  ·rw [if_pos q] at h; exact absurd h q
  ·rw [if_neg q] at h ⊢
   have q0:ak0 (aF6 (a06 b p 20))=0:=Classical.byContradiction q
   have hl:(a06 b p 20).length=20:=ak2 (n:=20) (by omega)
   have he:=ed9 hl
   generalize aF6 (a06 b p 20)=e at *
   by_cases hm:e.metric=255
   ·have ho:aP6 c nx e=[]:=by unfold aP6; rw [if_pos hm]
    have hn':aC3 nx e=z16∨a79 (aC3 nx e)=true:=by
     unfold aC3
     rw [if_pos hm]
     split
     ·exact .inr (by assumption)
     ·exact .inl rfl
    rw [ho,List.append_nil] at h ⊢
    obtain ⟨k0,l,k1,k2,k3,k4,k5⟩:=ey6 hc (by omega) hn' h
    refine ⟨k0,l,k1,k2,k3,by omega,fun nx'=>?_⟩
    have:=k5 nx'
    split at this <;> split <;> omega
   ·have ho:aP6 c nx e=[b23 c nx e]:=by unfold aP6; rw [if_neg hm]
    have hnn:aC3 nx e=nx:=by unfold aC3; rw [if_neg hm]
    rw [ho,hnn] at h ⊢
    obtain ⟨k0,l,k1,k2,k3,k4,k5⟩:=ey6 hc (by omega) hn h
    have hr:=fi4 hc hn he q0 hm
    refine ⟨k0,b23 c nx e::l,by rw [k1]; simp,by simp,fun m hmm=>?_,by simp; omega,fun nx'=>?_⟩
    ·rcases List.mem_cons.1 hmm with rfl | hmm
     ·exact ⟨hr,rfl⟩
     ·exact k3 m hmm
    ·have h1:=k5 nx
     rw [if_pos rfl] at h1
     have h2:=ej1 (nx:=nx') hr
     have e1:(b23 c nx e).next=nx:=rfl
     unfold bL8
     rw [List.length_append,h2,e1]
     by_cases q3:nx'=nx
     ·rw [if_pos q3.symm,if_pos q3]; omega
     ·rw [if_neg (fun q=>q3 q.symm),if_neg q3]; omega
theorem fa7 {b:Bs} (h:(al0 b).2.2=0):(al0 b).2.1=0∧(∀ m∈(al0 b).1,NgR m)∧(al0 b).1≠[]∧(al0 b).1.length≤3277∧(aK3 (al0 b).1).2.2=0∧(aK3 (al0 b).1).1.length≤b.length:=by
 unfold al0 at h ⊢
 by_cases q:(ad3 b).2≠0
 ·rw [if_pos q] at h; exact absurd h q
 ·rw [if_neg q] at h ⊢
  obtain ⟨h1,h2,h3,_,_,_,h7⟩:=dM9 (Classical.byContradiction q)
  obtain ⟨k0,l,k1,k2,k3,k4,k5⟩:=ey6 h3 (by omega) (.inl rfl) h
  rw [List.nil_append] at k1 k2
  rw [k1]
  have hr:∀ m∈l,NgR m:=fun m hm=>(k3 m hm).1
  have:=k5 z16
  rw [if_pos rfl] at this
  refine ⟨k0,hr,k2,by omega,?_⟩
  cases l with
  | nil=>exact absurd rfl k2
  | cons f r=>
   have hf:=(k3 f (by simp)).2
   rw [fo0 hr,ej2 (fun m hm=>by rw [(k3 m hm).2,hf]) (by rw [List.length_append]; simp; omega)]
   exact ⟨rfl,by rw [List.length_append]; simp; omega⟩
end Go.VP
namespace Go.VP
open Go Go.VI
def W32 (n:Int):Prop:=0≤n∧n < 4294967296
def W8 (n:Int):Prop:=0≤n∧n < 256
theorem az2 {n:Int}:a25 n 4=true↔W32 n:=by simp [a25,W32]
theorem dn1 {n:Int}:a25 n 1=true↔W8 n:=by simp [a25,W8]
theorem pf4 {n:Int} (h:IntKind.has .i64 n):a24 (n,4,())=some ((a25 n 4,()),()):=ak1 (k:=4) h (by omega) (by omega)
theorem pf1 {n:Int} (h:IntKind.has .i64 n):a24 (n,1,())=some ((a25 n 1,()),()):=ak1 (k:=1) h (by omega) (by omega)
theorem rf4 {n:Int}:a81 (n,4,())=some ((a25 n 4,()),()):=bC6 (k:=4) (by omega) (by omega)
theorem rf1 {n:Int}:a81 (n,1,())=some ((a25 n 1,()),()):=bC6 (k:=1) (by omega) (by omega)
structure RqR (m:Msg):Prop where
 kind:m.kind=3
 bare:a68 m=true
 flags:0≤m.flags∧m.flags≤31
 addr:m.addr.length=4
 orig:m.orig.length=4
 nonce:W32 m.nonce
 seq:W32 m.seq
 seq2:W32 m.seq2
 hops:W8 m.hops
 subs:aw2 m.subs=true
structure RpR (m:Msg):Prop where
 kind:m.kind=4
 bare:a68 m=true
 flags:0≤m.flags∧m.flags≤3
 plen:0≤m.plen∧m.plen≤31
 addr:m.addr.length=4
 orig:m.orig.length=4
 seq:W32 m.seq
 life:W32 m.interval
 hops:W8 m.hops
 subs:aw2 m.subs=true
structure AkR (m:Msg):Prop where
 kind:m.kind=6
 bare:a68 m=true
 subs:aw2 m.subs=true
def bH5 (d:b22):Bool:=decide (d.addr.length=4) && a25 d.seq 4
structure ReR (m:Msg):Prop where
 kind:m.kind=5
 bare:a68 m=true
 flags:m.flags=0∨m.flags=1
 len:1≤m.list.length∧m.list.length≤255
 list:m.list.all bH5=true
 subs:aw2 m.subs=true
open Classical in
noncomputable def rqB (m:Msg):Bool:=decide (RqR m)
open Classical in
noncomputable def rpB (m:Msg):Bool:=decide (RpR m∨AkR m)
open Classical in
noncomputable def reB (m:Msg):Bool:=decide (ReR m)
theorem aF7 {m:Msg}:rqB m=true↔RqR m:=by simp [rqB]
theorem ax4 {m:Msg}:rpB m=true↔(RpR m∨AkR m):=by simp [rpB]
theorem be4 {m:Msg}:reB m=true↔ReR m:=by simp [reB]
theorem fa8 {a b:Bool} (h:a=true↔b=true):a=b:=by cases a <;> cases b <;> simp_all
theorem ee1 {b:Bool} (h:¬b=true):b=false:=by cases b <;> simp_all
structure ah7 (m:Msg):Prop where
 nonce:IntKind.has .i64 m.nonce
 seq:IntKind.has .i64 m.seq
 seq2:IntKind.has .i64 m.seq2
 hops:IntKind.has .i64 m.hops
 life:IntKind.has .i64 m.interval
 list:m.list.length≤1000000
 ds:∀ d∈m.list,IntKind.has .i64 d.seq
 subs:ai8 m.subs
 subs1:m.subs.length≤1000000
theorem fi5 {n k:Nat} {m:Msg} (g:ah7 m):aX8 n (k+4) m [m.nonce,m.seq,m.seq2] 3 0=some ((a25 m.nonce 4 && (a25 m.seq 4 && (a25 m.seq2 4 && (a25 m.hops 1 && aw2 m.subs))),()),()):=by
 rw [aC0,ifd (by decide),if_pos (by decide),show ([m.nonce,m.seq,m.seq2])[(0:Int).toNat]?=some m.nonce from rfl,Option.bind_some,pf4 g.nonce,Option.bind_some]
 dsimp only
 cases a25 m.nonce 4 with
 | false=>rfl
 | true=>
  rw [a41,show IntKind.wrap .i64 ((0:Int)+1)=1 from rfl,aC0,ifd (by decide),if_pos (by decide),show ([m.nonce,m.seq,m.seq2])[(1:Int).toNat]?=some m.seq from rfl,Option.bind_some,pf4 g.seq,Option.bind_some]
  dsimp only
  cases a25 m.seq 4 with
  | false=>rfl
  | true=>
   rw [a41,show IntKind.wrap .i64 ((1:Int)+1)=2 from rfl,aC0,ifd (by decide),if_pos (by decide),show ([m.nonce,m.seq,m.seq2])[(2:Int).toNat]?=some m.seq2 from rfl,Option.bind_some,pf4 g.seq2,Option.bind_some]
   dsimp only
   cases a25 m.seq2 4 with
   | false=>rfl
   | true=>
    rw [a41,show IntKind.wrap .i64 ((2:Int)+1)=3 from rfl,aC0,ifn (by decide),pf1 g.hops,Option.bind_some]
    dsimp only
    cases a25 m.hops 1 with
    | false=>rfl
    | true=>rw [ift,cu6 g.subs.1]; rfl
theorem eF6 {m:Msg} (hk:m.kind=3) (hb:a68 m=true) (h0:0≤m.flags) (h1:m.flags≤31) (ha:m.addr.length=4) (ho:m.orig.length=4):rqB m=(a25 m.nonce 4 && (a25 m.seq 4 && (a25 m.seq2 4 && (a25 m.hops 1 && aw2 m.subs)))):=by
 apply fa8
 simp only [Bool.and_eq_true,aF7,az2,dn1]
 exact ⟨fun h=>⟨h.nonce,h.seq,h.seq2,h.hops,h.subs⟩,fun ⟨a,b,c,d,e⟩=>⟨hk,hb,⟨h0,h1⟩,ha,ho,a,b,c,d,e⟩⟩
theorem e05 {m:Msg} (g:ah7 m):bj5 (m,())=some ((rqB m,()),()):=by
 show c90 a04 _=_
 have no:¬RqR m→(some ((false,()),()):Option ((Bool × Unit) × Unit))=some ((rqB m,()),()):=fun h=>by rw [ee1 (fun q=>h (aF7.1 q))]
 rw [dY4]
 refine a16 (fun q=>no (fun h=>q h.kind)) (fun hk=>?_)
 rw [b08,Option.bind_some]
 refine ax3 (fun q=>no (fun h=>by have:=h.bare; dsimp only at q; rw [q] at this; cases this)) (fun hb=>?_)
 refine a29 (fun q=>no (fun h=>by have:=h.flags; omega)) (fun h0=>?_)
 refine a29 (fun q=>no (fun h=>by have:=h.flags; omega)) (fun h1=>?_)
 refine a16 (fun q=>no (fun h=>by have:=h.addr; omega)) (fun ha=>?_)
 refine a16 (fun q=>no (fun h=>by have:=h.orig; omega)) (fun ho=>?_)
 have hf:=a28 (n:=4) (by omega)
 have:=fi5 (n:=a04) (k:=a04 - 4) g
 rw [show a04 - 4+4=a04 by omega] at this
 rw [eF6 hk hb (by omega) (by omega) (by omega) (by omega)]
 exact this
theorem dC8 {m:Msg} (g:ah7 m):aL6 (m,())=some ((rqB m,()),()):=by
 have no:¬RqR m→(some ((false,()),()):Option ((Bool × Unit) × Unit))=some ((rqB m,()),()):=fun h=>by rw [ee1 (fun q=>h (aF7.1 q))]
 have gl:=g.list
 rw [dH7]
 refine a09 (fun hk=>?_) (fun q=>no (fun h=>q h.kind))
 rw [aJ7 (by omega) g.subs.1,Option.bind_some]
 dsimp only
 cases hb:a68 m with
 | false=>exact no (fun h=>by have:=h.bare; rw [hb] at this; cases this)
 | true=>
  rw [ift]
  refine a86 (fun h0=>?_) (fun q=>no (fun h=>by have:=h.flags; omega))
  refine a86 (fun h1=>?_) (fun q=>no (fun h=>by have:=h.flags; omega))
  rw [rf1,Option.bind_some,rf4,Option.bind_some,rf4,Option.bind_some,rf4,Option.bind_some,c28 g.subs.1,Option.bind_some]
  dsimp only
  cases c1:a25 m.hops 1 with
  | false=>exact no (fun h=>by have:=dn1.2 h.hops; rw [c1] at this; cases this)
  | true=>cases c2:a25 m.nonce 4 with
   | false=>exact no (fun h=>by have:=az2.2 h.nonce; rw [c2] at this; cases this)
   | true=>cases c3:a25 m.seq 4 with
    | false=>exact no (fun h=>by have:=az2.2 h.seq; rw [c3] at this; cases this)
    | true=>cases c4:a25 m.seq2 4 with
     | false=>exact no (fun h=>by have:=az2.2 h.seq2; rw [c4] at this; cases this)
     | true=>
      rw [ift,ift,ift,ift]
      refine a09 (fun ha=>?_) (fun q=>no (fun h=>by have:=h.addr; omega))
      refine a09 (fun ho=>?_) (fun q=>no (fun h=>by have:=h.orig; omega))
      rw [eF6 hk hb h0 h1 (by omega) (by omega),c1,c2,c3,c4]
      rfl
theorem eF7 {m:Msg} (hk:m.kind=4) (hb:a68 m=true) (hs:aw2 m.subs=true) (h0:0≤m.flags) (h1:m.flags≤3) (h2:0≤m.plen) (h3:m.plen≤31) (c1:a25 m.hops 1=true) (c2:a25 m.seq 4=true) (c3:a25 m.interval 4=true) (ha:m.addr.length=4):rpB m=((m.orig.length:Int)==4):=by
 apply fa8
 simp only [ax4,beq_iff_eq]
 constructor
 ·rintro (h | h)
  ·have:=h.orig; omega
  ·have:=h.kind; omega
 ·intro ho
  exact .inl ⟨hk,hb,⟨h0,h1⟩,⟨h2,h3⟩,ha,by omega,az2.1 c2,az2.1 c3,dn1.1 c1,hs⟩
theorem e06 {m:Msg} (g:ah7 m):aT8 (m,())=some ((rpB m,()),()):=by
 have no:¬RpR m→¬AkR m→(some ((false,()),()):Option ((Bool × Unit) × Unit))=some ((rpB m,()),()):=fun h h2=>by rw [ee1 (fun q=>(ax4.1 q).elim h h2)]
 rw [dY5,b08,Option.bind_some]
 dsimp only
 cases hb:a68 m with
 | false=>exact no (fun h=>by have:=h.bare; rw [hb] at this; cases this) (fun h=>by have:=h.bare; rw [hb] at this; cases this)
 | true=>
  rw [a41,cu6 g.subs.1,Option.bind_some]
  dsimp only
  cases hs:aw2 m.subs with
  | false=>exact no (fun h=>by have:=h.subs; rw [hs] at this; cases this) (fun h=>by have:=h.subs; rw [hs] at this; cases this)
  | true=>
   rw [a41]
   refine a09 (fun hk=>by rw [ax4.2 (.inr ⟨hk,hb,hs⟩)]) (fun hk6=>?_)
   have no':¬RpR m→(some ((false,()),()):Option ((Bool × Unit) × Unit))=some ((rpB m,()),()):=fun h=>no h (fun q=>hk6 q.kind)
   refine a09 (fun hk=>?_) (fun q=>no' (fun h=>q h.kind))
   refine a86 (fun h0=>?_) (fun q=>no' (fun h=>by have:=h.flags; omega))
   refine a86 (fun h1=>?_) (fun q=>no' (fun h=>by have:=h.flags; omega))
   refine a86 (fun h2=>?_) (fun q=>no' (fun h=>by have:=h.plen; omega))
   refine a86 (fun h3=>?_) (fun q=>no' (fun h=>by have:=h.plen; omega))
   rw [pf1 g.hops,Option.bind_some,pf4 g.seq,Option.bind_some,pf4 g.life,Option.bind_some]
   dsimp only
   cases c1:a25 m.hops 1 with
   | false=>exact no' (fun h=>by have:=dn1.2 h.hops; rw [c1] at this; cases this)
   | true=>cases c2:a25 m.seq 4 with
    | false=>exact no' (fun h=>by have:=az2.2 h.seq; rw [c2] at this; cases this)
    | true=>cases c3:a25 m.interval 4 with
     | false=>exact no' (fun h=>by have:=az2.2 h.life; rw [c3] at this; cases this)
     | true=>
      rw [ift,ift,ift]
      refine a09 (fun ha=>?_) (fun q=>no' (fun h=>by have:=h.addr; omega))
      rw [eF7 hk hb hs h0 (by omega) h2 (by omega) c1 c2 c3 (by omega)]
theorem dC9 {m:Msg} (g:ah7 m):aL7 (m,())=some ((rpB m,()),()):=by
 have no:¬RpR m→¬AkR m→(some ((false,()),()):Option ((Bool × Unit) × Unit))=some ((rpB m,()),()):=fun h h2=>by rw [ee1 (fun q=>(ax4.1 q).elim h h2)]
 have gl:=g.list
 rw [dH8,aJ7 (by omega) g.subs.1,Option.bind_some]
 dsimp only
 cases hb:a68 m with
 | false=>exact no (fun h=>by have:=h.bare; rw [hb] at this; cases this) (fun h=>by have:=h.bare; rw [hb] at this; cases this)
 | true=>
  rw [a41,c28 g.subs.1,Option.bind_some]
  dsimp only
  cases hs:aw2 m.subs with
  | false=>exact no (fun h=>by have:=h.subs; rw [hs] at this; cases this) (fun h=>by have:=h.subs; rw [hs] at this; cases this)
  | true=>
   rw [a41]
   refine a09 (fun hk=>by rw [ax4.2 (.inr ⟨hk,hb,hs⟩)]) (fun hk6=>?_)
   have no':¬RpR m→(some ((false,()),()):Option ((Bool × Unit) × Unit))=some ((rpB m,()),()):=fun h=>no h (fun q=>hk6 q.kind)
   refine a09 (fun hk=>?_) (fun q=>no' (fun h=>q h.kind))
   refine a86 (fun h0=>?_) (fun q=>no' (fun h=>by have:=h.flags; omega))
   refine a86 (fun h1=>?_) (fun q=>no' (fun h=>by have:=h.flags; omega))
   refine a86 (fun h2=>?_) (fun q=>no' (fun h=>by have:=h.plen; omega))
   refine a86 (fun h3=>?_) (fun q=>no' (fun h=>by have:=h.plen; omega))
   rw [rf1,Option.bind_some,rf4,Option.bind_some,rf4,Option.bind_some]
   dsimp only
   cases c1:a25 m.hops 1 with
   | false=>exact no' (fun h=>by have:=dn1.2 h.hops; rw [c1] at this; cases this)
   | true=>cases c2:a25 m.seq 4 with
    | false=>exact no' (fun h=>by have:=az2.2 h.seq; rw [c2] at this; cases this)
    | true=>cases c3:a25 m.interval 4 with
     | false=>exact no' (fun h=>by have:=az2.2 h.life; rw [c3] at this; cases this)
     | true=>
      rw [ift,ift,ift]
      refine a09 (fun ha=>?_) (fun q=>no' (fun h=>by have:=h.addr; omega))
      rw [eF7 hk hb hs h0 h1 h2 h3 c1 c2 c3 (by omega)]
end Go.VP
namespace Go.VP
open Go Go.VI
theorem fi6 {n:Nat} {m:Msg} (g:ah7 m):∀ (d k i:Nat),i+d=m.list.length→d < k→at4 n k m i=some (((m.list.drop i).all bH5 && aw2 m.subs,()),()):=by
 have gl:=g.list
 intro d
 induction d with
 | zero=>
  intro k i hd hk
  obtain ⟨k,rfl⟩:∃ j,k=j+1:=⟨k - 1,by omega⟩
  rw [bZ6,ifn (by omega),List.drop_eq_nil_of_le (by omega),cu6 g.subs.1]; rfl
 | succ d ih=>
  intro k i hd hk
  obtain ⟨k,rfl⟩:∃ j,k=j+1:=⟨k - 1,by omega⟩
  have hi:i < m.list.length:=by omega
  have:=ih k (i+1) (by omega) (by omega)
  rw [show ((i+1:Nat):Int)=(i:Int)+1 by omega] at this
  rw [bZ6,ifd (by omega),if_pos (by omega),Int.toNat_natCast,a27 hi,pf4 (g.ds _ (List.getElem_mem hi)),Option.bind_some,w64 (by omega) (by omega),this,List.drop_eq_getElem_cons hi,List.all_cons]
  unfold bH5
  refine a16 (fun q=>?_) (fun q=>?_)
  ·rw [decide_eq_false (by omega)]; rfl
  ·rw [decide_eq_true (by omega)]
   dsimp only
   cases a25 m.list[i].seq 4 <;> rfl
theorem fa9 {n:Nat} {m:Msg} (g:ah7 m):∀ (d k i:Nat),i+d=m.list.length→d < k→aQ9 n k m i=some (((m.list.drop i).all bH5,()),()):=by
 have gl:=g.list
 intro d
 induction d with
 | zero=>
  intro k i hd hk
  obtain ⟨k,rfl⟩:∃ j,k=j+1:=⟨k - 1,by omega⟩
  rw [bK5,ifn (by omega),List.drop_eq_nil_of_le (by omega)]; rfl
 | succ d ih=>
  intro k i hd hk
  obtain ⟨k,rfl⟩:∃ j,k=j+1:=⟨k - 1,by omega⟩
  have hi:i < m.list.length:=by omega
  have:=ih k (i+1) (by omega) (by omega)
  rw [show ((i+1:Nat):Int)=(i:Int)+1 by omega] at this
  have hp:0≤(i:Int):=by omega
  rw [bK5,ifd (by omega)]
  simp only [if_pos hp,Int.toNat_natCast,a27 hi,rf4,Option.bind_some]
  rw [w64 (by omega) (by omega),this,List.drop_eq_getElem_cons hi,List.all_cons]
  unfold bH5
  refine a16 (fun q=>?_) (fun q=>?_)
  ·rw [decide_eq_false (by omega)]; rfl
  ·rw [decide_eq_true (by omega)]
   cases a25 m.list[i].seq 4 <;> rfl
theorem eF8 {m:Msg} (hk:m.kind=5) (hb:a68 m=true) (hf:m.flags=0∨m.flags=1) (hl:1≤m.list.length∧m.list.length≤255):reB m=(m.list.all bH5 && aw2 m.subs):=by
 apply fa8
 simp only [Bool.and_eq_true,be4]
 exact ⟨fun h=>⟨h.list,h.subs⟩,fun ⟨a,b⟩=>⟨hk,hb,hf,hl,a,b⟩⟩
theorem dD0 {m:Msg} (g:ah7 m):bj6 (m,())=some ((reB m,()),()):=by
 show c93 a04 _=_
 have no:¬ReR m→(some ((false,()),()):Option ((Bool × Unit) × Unit))=some ((reB m,()),()):=fun h=>by rw [ee1 (fun q=>h (be4.1 q))]
 rw [dY6]
 refine a16 (fun q=>no (fun h=>q h.kind)) (fun hk=>?_)
 rw [b08,Option.bind_some]
 refine ax3 (fun q=>no (fun h=>by have:=h.bare; dsimp only at q; rw [q] at this; cases this)) (fun hb=>?_)
 have tail:(m.flags=0∨m.flags=1)→(if ((m.list.length:Int)==0)=true then some ((false,()),()) else (if (decide (255 < (m.list.length:Int)))=true then some ((false,()),()) else (at4 a04 a04 m 0)))=some ((reB m,()),()):=by
  intro hf
  refine a09 (fun q=>no (fun h=>by have:=h.len; omega)) (fun h0=>?_)
  refine a29 (fun q=>no (fun h=>by have:=h.len; omega)) (fun h1=>?_)
  rw [eF8 hk hb hf (by omega)]
  have:=fi6 (n:=a04) g m.list.length a04 0 (by omega) (a28 (by omega))
  rw [List.drop_zero] at this
  exact this
 refine a16 (fun q=>?_) (fun q=>tail (.inl q))
 exact a16 (fun q2=>no (fun h=>by have:=h.flags; omega)) (fun q2=>tail (.inr q2))
theorem dn2 {m:Msg} (g:ah7 m):b70 (m,())=some ((reB m,()),()):=by
 show bT2 a04 _=_
 have no:¬ReR m→(some ((false,()),()):Option ((Bool × Unit) × Unit))=some ((reB m,()),()):=fun h=>by rw [ee1 (fun q=>h (be4.1 q))]
 have gl:=g.list
 rw [dH9]
 refine a16 (fun q=>no (fun h=>q h.kind)) (fun hk=>?_)
 rw [aJ7 (by omega) g.subs.1,Option.bind_some]
 refine ax3 (fun q=>no (fun h=>by have:=h.bare; dsimp only at q; rw [q] at this; cases this)) (fun hb=>?_)
 refine a29 (fun q=>no (fun h=>by have:=h.flags; omega)) (fun f0=>?_)
 refine a29 (fun q=>no (fun h=>by have:=h.flags; omega)) (fun f1=>?_)
 refine a29 (fun q=>no (fun h=>by have:=h.len; omega)) (fun h0=>?_)
 refine a29 (fun q=>no (fun h=>by have:=h.len; omega)) (fun h1=>?_)
 rw [c28 (l:=m.subs) g.subs.1,Option.bind_some]
 have:=fa9 (n:=a04) g m.list.length a04 0 (by omega) (a28 (by omega))
 rw [List.drop_zero,show ((0:Nat):Int)=0 from rfl] at this
 rw [this,eF8 hk hb (by omega) (by omega)]
 dsimp only
 cases aw2 m.subs <;> simp
def c48 (m:Msg):Bs:=[1,a01 (8 * m.flags),0,a01 m.hops]++(be 4 m.nonce++(m.addr++(be 4 m.seq++(m.orig++(be 4 m.seq2++a73 m.subs)))))
def c49 (m:Msg):Bs:=[2,a01 (64 * m.flags),a01 m.plen,a01 m.hops]++(m.addr++(be 4 m.seq++(m.orig++(be 4 m.interval++a73 m.subs))))
def dp5 (m:Msg):Bs:=[4,0]++a73 m.subs
def c29:List b22→Bs
 | []=>[]
 | d::l=>(d.addr++be 4 d.seq)++c29 l
def dp6 (m:Msg):Bs:=[3,a01 (128 * m.flags),0,a01 m.list.length]++(c29 m.list++a73 m.subs)
theorem W32.has {n:Int} (h:W32 n):IntKind.has .i64 n:=a45.2 ⟨by have:=h.1; omega,by have:=h.2; omega⟩
theorem pp4 {n:Int} (h:W32 n):ad7 (n,4,())=some ((be 4 n,true,()),()):=dp1 (k:=4) h.has (by omega) (by omega) (az2.2 h)
theorem ro4 {n:Int} (h:W32 n):a39 (n,4,())=some ((be 4 n,()),()):=by
 have:=bL4 (k:=4) h.has (by omega) (by omega)
 rw [ec4 (az2.2 h)] at this
 exact this
theorem ee2 {n:Int} (h:W32 n):aN2 (n,())=some ((be 4 n,()),()):=by
 rw [eb6,pp4 h]; rfl
theorem ey7 {x:Int} {k:Nat} (hx:0≤x∧x < 65536) (hk:k≤15):a01 (IntKind.wrap .u8 (a91 .i64 x (k:Int)))=a01 (2 ^ k * x):=by
 rw [ec3 hx hk,wu8,an2]
 exact Int.mul_nonneg (Int.pow_nonneg (by decide)) hx.1
theorem c50 {m:Msg} (g:ah7 m):(a73 m.subs).length≤302000000:=by
 have h:=dL2 g.subs
 have:=aN9 m.subs
 have:=g.subs1
 omega
theorem u8x {x:Int} (h:0≤x):a01 (IntKind.wrap .u8 x)=a01 x:=by rw [wu8,an2 h]
noncomputable def cu8 (m:Msg):Bs × Bool:=if rqB m=true then (c48 m,true) else ([],false)
theorem fb0 {m:Msg} (g:ah7 m):c11 (m,())=some (((cu8 m).1,(cu8 m).2,()),()):=by
 have hl:=c50 g
 rw [eo7,e05 g,Option.bind_some]
 unfold cu8
 dsimp only
 cases hr:rqB m with
 | false=>rfl
 | true=>
  have h:=aF7.1 hr
  have ha:=h.addr
  have ho:=h.orig
  have b4:∀ n,(be 4 n).length=4:=a21 4
  rw [a41,ift,ed8 g.subs g.subs1,Option.bind_some,c47 h.subs,ee2 h.nonce,Option.bind_some,ee2 h.seq,Option.bind_some,ee2 h.seq2,Option.bind_some]
  dsimp only
  rw [show ((3:Int))=((3:Nat):Int) from rfl,ey7 (by have:=h.flags; omega) (by omega),u8x h.hops.1]
  repeat rw [if_pos (a11 (by simp only [List.length_append,List.length_cons,List.length_nil,b4,ha,ho]; omega))]
  unfold c48
  simp only [List.append_assoc]
  rfl
theorem eW6 {m:Msg} (g:ah7 m):bG6 (m,())=some (((cu8 m).1,(cu8 m).2,()),()):=by
 have hl:=c50 g
 rw [e96,dC8 g,Option.bind_some]
 unfold cu8
 dsimp only
 cases hr:rqB m with
 | false=>rfl
 | true=>
  have h:=aF7.1 hr
  have ha:=h.addr
  have ho:=h.orig
  have hf:=h.flags
  have b4:∀ n,(be 4 n).length=4:=a21 4
  rw [a41,ift,dM8 g.subs g.subs1,Option.bind_some,c47 h.subs,ro4 h.nonce,Option.bind_some,ro4 h.seq,Option.bind_some,ro4 h.seq2,Option.bind_some]
  dsimp only
  rw [w64 (by omega) (by omega),u8x (by omega),u8x h.hops.1]
  repeat rw [if_pos (a11 (by simp only [List.length_append,List.length_cons,List.length_nil,b4,ha,ho]; omega))]
  unfold c48
  simp only [List.append_assoc]
  rfl
noncomputable def cu9 (m:Msg):Bs × Bool:=if rpB m=true then (if m.kind=6 then dp5 m else c49 m,true) else ([],false)
theorem fb1 {m:Msg} (g:ah7 m):c12 (m,())=some (((cu9 m).1,(cu9 m).2,()),()):=by
 have hl:=c50 g
 rw [eo8,e06 g,Option.bind_some]
 unfold cu9
 dsimp only
 cases hr:rpB m with
 | false=>rfl
 | true=>
  have h:=ax4.1 hr
  have hs:aw2 m.subs=true:=h.elim (fun h=>h.subs) (fun h=>h.subs)
  have b4:∀ n,(be 4 n).length=4:=a21 4
  rw [a41,ift,ed8 g.subs g.subs1,Option.bind_some,c47 hs]
  dsimp only
  refine a09 (fun hk=>?_) (fun hk=>?_)
  ·rw [if_pos hk,if_pos (a11 (by omega))]; rfl
  ·have h:=h.resolve_right (fun q=>hk q.kind)
   have ha:=h.addr
   have ho:=h.orig
   rw [if_neg hk,pp4 h.seq,Option.bind_some,pp4 h.life,Option.bind_some]
   dsimp only
   rw [show ((6:Int))=((6:Nat):Int) from rfl,ey7 (by have:=h.flags; omega) (by omega),u8x h.hops.1,u8x h.plen.1]
   repeat rw [if_pos (a11 (by simp only [List.length_append,List.length_cons,List.length_nil,b4,ha,ho]; omega))]
   unfold c49
   simp only [List.append_assoc]
   rfl
theorem eW7 {m:Msg} (g:ah7 m):bG7 (m,())=some (((cu9 m).1,(cu9 m).2,()),()):=by
 have hl:=c50 g
 rw [e97,dC9 g,Option.bind_some]
 unfold cu9
 dsimp only
 cases hr:rpB m with
 | false=>rfl
 | true=>
  have h:=ax4.1 hr
  have hs:aw2 m.subs=true:=h.elim (fun h=>h.subs) (fun h=>h.subs)
  have b4:∀ n,(be 4 n).length=4:=a21 4
  rw [a41,ift,dM8 g.subs g.subs1,Option.bind_some,c47 hs]
  dsimp only
  refine a09 (fun hk=>?_) (fun hk=>?_)
  ·rw [if_pos hk,if_pos (a11 (by omega))]; rfl
  ·have h:=h.resolve_right (fun q=>hk q.kind)
   have ha:=h.addr
   have ho:=h.orig
   have hf:=h.flags
   rw [if_neg hk,ro4 h.seq,Option.bind_some,ro4 h.life,Option.bind_some]
   dsimp only
   rw [w64 (by omega) (by omega),u8x (by omega),u8x h.hops.1,u8x h.plen.1]
   repeat rw [if_pos (a11 (by simp only [List.length_append,List.length_cons,List.length_nil,b4,ha,ho]; omega))]
   unfold c49
   simp only [List.append_assoc]
   rfl
theorem dN1 {d:b22} (h:bH5 d=true):d.addr.length=4∧W32 d.seq:=by
 unfold bH5 at h
 simp only [Bool.and_eq_true,decide_eq_true_eq,az2] at h
 exact h
noncomputable def cv0 (m:Msg):Bs × Bool:=if reB m=true then (dp6 m,true) else ([],false)
theorem eC3 {n:Nat} {m:Msg} (g:ah7 m) (h:ReR m):∀ (d k i:Nat) (acc:Bs),i+d=m.list.length→d < k→acc.length≤4+8 * i→bj7 n k m acc i=some ((acc++(c29 (m.list.drop i)++a73 m.subs),true,()),()):=by
 have gl:=g.list
 have hl:=c50 g
 have hle:=h.len
 intro d
 induction d with
 | zero=>
  intro k i acc hd hk ha
  obtain ⟨k,rfl⟩:∃ j,k=j+1:=⟨k - 1,by omega⟩
  rw [ct8,ifn (by omega),List.drop_eq_nil_of_le (by omega),ed8 g.subs g.subs1,Option.bind_some,c47 h.subs]
  dsimp only
  rw [if_pos (a11 (by omega))]; rfl
 | succ d ih=>
  intro k i acc hd hk ha
  obtain ⟨k,rfl⟩:∃ j,k=j+1:=⟨k - 1,by omega⟩
  have hi:i < m.list.length:=by omega
  obtain ⟨h1,h2⟩:=dN1 (List.all_eq_true.1 h.list _ (List.getElem_mem hi))
  have b4:∀ n,(be 4 n).length=4:=a21 4
  have:=ih k (i+1) (acc++m.list[i].addr++be 4 m.list[i].seq) (by omega) (by omega) (by simp only [List.length_append,h1,b4]; omega)
  rw [show ((i+1:Nat):Int)=(i:Int)+1 by omega] at this
  rw [ct8,ifd (by omega),if_pos (by omega),Int.toNat_natCast,a27 hi,pp4 h2,Option.bind_some]
  dsimp only
  rw [if_pos (a89 (by omega)),if_pos (a89 (by rw [List.length_append,b4]; omega)),w64 (by omega) (by omega),this,List.drop_eq_getElem_cons hi,c29]
  simp only [List.append_assoc]
theorem eW8 {m:Msg} (g:ah7 m):c13 (m,())=some (((cv0 m).1,(cv0 m).2,()),()):=by
 show cS4 a04 _=_
 rw [eo9,dD0 g,Option.bind_some]
 unfold cv0
 dsimp only
 cases hr:reB m with
 | false=>rfl
 | true=>
  have h:=be4.1 hr
  have hle:=h.len
  have:=eC3 (n:=a04) g h m.list.length a04 0 [3,a01 (128 * m.flags),0,a01 m.list.length] (by omega) (a28 (by omega)) (by simp)
  rw [List.drop_zero] at this
  rw [a41,ift,show ((7:Int))=((7:Nat):Int) from rfl,ey7 (by have:=h.flags; omega) (by omega),u8x (by omega)]
  exact this
theorem eC4 {n:Nat} {m:Msg} (g:ah7 m) (h:ReR m):∀ (d k i:Nat) (acc:Bs),i+d=m.list.length→d < k→acc.length≤4+8 * i→b86 n k m acc i=some ((acc++(c29 (m.list.drop i)++a73 m.subs),true,()),()):=by
 have gl:=g.list
 have hl:=c50 g
 have hle:=h.len
 intro d
 induction d with
 | zero=>
  intro k i acc hd hk ha
  obtain ⟨k,rfl⟩:∃ j,k=j+1:=⟨k - 1,by omega⟩
  rw [ck3,ifn (by omega),List.drop_eq_nil_of_le (by omega),dM8 g.subs g.subs1,Option.bind_some,c47 h.subs]
  dsimp only
  rw [if_pos (a11 (by omega))]; rfl
 | succ d ih=>
  intro k i acc hd hk ha
  obtain ⟨k,rfl⟩:∃ j,k=j+1:=⟨k - 1,by omega⟩
  have hi:i < m.list.length:=by omega
  obtain ⟨h1,h2⟩:=dN1 (List.all_eq_true.1 h.list _ (List.getElem_mem hi))
  have b4:∀ n,(be 4 n).length=4:=a21 4
  have:=ih k (i+1) (acc++m.list[i].addr++be 4 m.list[i].seq) (by omega) (by omega) (by simp only [List.length_append,h1,b4]; omega)
  rw [show ((i+1:Nat):Int)=(i:Int)+1 by omega] at this
  rw [ck3,ifd (by omega),if_pos (by omega),Int.toNat_natCast,a27 hi,if_pos (a11 (by omega)),if_pos (by omega),a27 hi,ro4 h2,Option.bind_some]
  dsimp only
  rw [if_pos (a11 (by rw [List.length_append,b4]; omega)),w64 (by omega) (by omega),this,List.drop_eq_getElem_cons hi,c29]
  simp only [List.append_assoc]
theorem eO0 {m:Msg} (g:ah7 m):bG8 (m,())=some (((cv0 m).1,(cv0 m).2,()),()):=by
 show cz8 a04 _=_
 rw [e98,dn2 g,Option.bind_some]
 unfold cv0
 dsimp only
 cases hr:reB m with
 | false=>rfl
 | true=>
  have h:=be4.1 hr
  have hle:=h.len
  have hf:=h.flags
  have:=eC4 (n:=a04) g h m.list.length a04 0 [3,a01 (128 * m.flags),0,a01 m.list.length] (by omega) (a28 (by omega)) (by simp)
  rw [List.drop_zero] at this
  rw [a41,ift,w64 (by omega) (by omega),u8x (by omega),u8x (by omega),if_pos (a11 (by simp))]
  exact this
end Go.VP
namespace Go.VP
open Go Go.VI
def zM:Msg:=a00.mk 0 0 0 [] 0 0 [] 0 0 [] 0 [] 0 0 0 0 0 0 0 [] [] [] 0 [] []
theorem fm2 {a b:Nat} (ha:a < 256) (hb:b < 256):a47 .or .u8 (a:Int) (b:Int)=((a ||| b:Nat):Int):=by
 unfold a47
 show IntKind.wrap .u8 (((BitVec.ofInt 8 (a:Int) ||| BitVec.ofInt 8 (b:Int)).toNat:Nat):Int)=_
 have h:a ||| b < 256:=Nat.or_lt_two_pow (n:=8) ha hb
 rw [BitVec.toNat_or,BitVec.ofInt_natCast,BitVec.ofInt_natCast,BitVec.toNat_ofNat,BitVec.toNat_ofNat,Nat.mod_eq_of_lt ha,Nat.mod_eq_of_lt hb,wu8]
 omega
theorem eO1 {x y:Int} {k:Nat} (hk:k≤8) (hx:0≤x∧x < 256) (hy:0≤y∧y < 256):a47 .or .u8 (a47 .and .u8 x ((2 ^ k - 1:Nat):Int)) y=0↔(x % 2 ^ k=0∧y=0):=by
 obtain ⟨a,rfl⟩:∃ a:Nat,x=a:=⟨x.toNat,by omega⟩
 obtain ⟨b,rfl⟩:∃ b:Nat,y=b:=⟨y.toNat,by omega⟩
 have hp:2 ^ k≤2 ^ 8:=Nat.pow_le_pow_right (by decide) hk
 have hp0:0 < 2 ^ k:=Nat.pow_pos (by decide)
 have h1:=Nat.mod_lt a hp0
 rw [eD8 (by omega) (by omega),Nat.and_two_pow_sub_one_eq_mod,fm2 (by omega) (by omega)]
 have e:((a:Int) % 2 ^ k)=((a % 2 ^ k:Nat):Int):=by simp
 rw [e]
 constructor
 ·intro h
  have h0:a % 2 ^ k ||| b=0:=by omega
  rw [Nat.or_eq_zero_iff] at h0
  omega
 ·intro h
  have e1:a % 2 ^ k=0:=by omega
  have e2:b=0:=by omega
  rw [e1,e2]; rfl
theorem fm3:∀ y:Fin 256,(y.val &&& 224=0)↔y.val < 32:=by decide +kernel
theorem fm4 {x y:Int} (hx:0≤x∧x < 256) (hy:0≤y∧y < 256):a47 .or .u8 (a47 .and .u8 x 63) (a47 .and .u8 y 224)=0↔(x % 64=0∧y < 32):=by
 obtain ⟨b,rfl⟩:∃ b:Nat,y=b:=⟨y.toNat,by omega⟩
 have h2:a47 .and .u8 (b:Int) 224=((b &&& 224:Nat):Int):=eD8 (b:=224) (by omega) (by omega)
 have h3:b &&& 224≤b:=Nat.and_le_left
 have:=eO1 (x:=x) (y:=((b &&& 224:Nat):Int)) (k:=6) (by omega) hx (by omega)
 rw [h2]
 have h4:=fm3 ⟨b,by omega⟩
 dsimp only at h4
 rw [show ((2 ^ 6 - 1:Nat):Int)=63 from rfl,show (2:Int) ^ 6=64 from rfl] at this
 rw [this]
 omega
theorem ey8 {x:Int} {k:Nat} (hk:k≤8):a42 .u8 x (k:Int)=x / 2 ^ k:=by
 unfold a42
 rw [show min (k:Int).toNat IntKind.u8.bits=k by simp only [IntKind.bits]; omega]
 exact Int.fdiv_eq_ediv_of_nonneg _ (Int.pow_nonneg (by decide))
def e07 (b:Bs):Msg:=a00.mk 3 0 0 [] 0 0 [] 0 0 [] 0 [] (num (a06 b 12 4)) (num (a06 b 20 4)) 0 (bt b 1 / 8) (bt b 3) (num (a06 b 4 4)) 0 (a06 b 8 4) (a06 b 16 4) [] 0 [] (ac1 (b.drop 24)).1
def ap1 (b:Bs) (p:Nat) (m:Msg):Msg × Int × Int:=if (ac1 (b.drop p)).2.2≠0 then (zM,p+(ac1 (b.drop p)).2.1,(ac1 (b.drop p)).2.2) else (m,0,0)
def bH6 (b:Bs):Msg × Int × Int:=
 if b.length < 24 then (zM,b.length,2) else if ¬(bt b 1 % 8=0∧bt b 2=0) then (zM,1,5) else ap1 b 24 (e07 b)
theorem fb2 {b:Bs} (hb:b.length≤1000000):c04 (b,())=some (a35 (bH6 b),()):=by
 rw [en9]
 unfold bH6
 refine a29 (fun h=>by rw [if_pos (by omega)]; rfl) (fun h=>?_)
 have w0:WfC b 0 b.length:=.whole (by omega)
 have w1:=w0.fwd (n:=4) (by omega) (by omega)
 have w2:=w1.fwd (n:=4) (by omega) (by omega)
 have w3:=w2.fwd (n:=4) (by omega) (by omega)
 have w4:=w3.fwd (n:=4) (by omega) (by omega)
 have w5:=w4.fwd (n:=4) (by omega) (by omega)
 rw [if_neg (show ¬b.length < 24 by omega),a40 (i:=1) (by omega),a40 (i:=2) (by omega),a40 (i:=3) (by omega)]
 simp only [Option.bind_some]
 have e1:(((b[1]?.getD 0).toNat:Nat):Int)=bt b 1:=rfl
 have e2:(((b[2]?.getD 0).toNat:Nat):Int)=bt b 2:=rfl
 have e3:(((b[3]?.getD 0).toNat:Nat):Int)=bt b 3:=rfl
 rw [e1,e2,e3]
 have hx:=a31 b 1
 have hy:=a31 b 2
 have hz:=a31 b 3
 have ao:=eO1 (k:=3) (by omega) hx hy
 rw [show ((2 ^ 3 - 1:Nat):Int)=7 from rfl,show (2:Int) ^ 3=8 from rfl] at ao
 refine a16 (fun q=>?_) (fun q=>?_)
 ·rw [if_pos (fun c=>q (ao.2 c))]; rfl
 rw [if_neg (show ¬¬(bt b 1 % 8=0∧bt b 2=0) from fun c=>c (ao.1 q)),if_pos (by omega),dp2 (by rw [List.length_drop]; omega),Option.bind_some]
 have hp:=az1 (b.drop 24)
 rw [List.length_drop] at hp
 unfold ap1
 refine a16 (fun q2=>?_) (fun q2=>?_)
 ·rw [if_pos q2]
  dsimp only at q2 ⊢
  rw [w64 (by omega) (by omega),Int.add_comm]; rfl
 rw [if_neg (show ¬(ac1 (b.drop 24)).2.2≠0 from fun c=>c q2),bp5,Option.bind_some]
 dsimp only
 rw [ap0 w0 (by omega) (by omega),Option.bind_some]
 dsimp only
 rw [ak9 w1 (by omega) (by omega) (by omega),Option.bind_some]
 dsimp only
 rw [ap0 w2 (by omega) (by omega),Option.bind_some]
 dsimp only
 rw [ak9 w3 (by omega) (by omega) (by omega),Option.bind_some]
 dsimp only
 rw [ap0 w4 (by omega) (by omega),Option.bind_some]
 dsimp only
 rw [ak9 w5 (by omega) (by omega) (by omega),Option.bind_some]
 have hs:=ey8 (x:=bt b 1) (k:=3) (by omega)
 rw [show ((3:Nat):Int)=3 from rfl,show (2:Int) ^ 3=8 from rfl] at hs
 rw [hs,w64 (by omega) (by omega),w64 (by omega) (by omega)]
 rfl
theorem eW9 {b:Bs} (hb:b.length≤1000000):bF9 (b,())=some (a35 (bH6 b),()):=by
 rw [e91]
 unfold bH6
 refine a29 (fun h=>by rw [if_pos (by omega)]; rfl) (fun h=>?_)
 have nl:∀ p:Int,0≤p→p+4≤b.length→a20 (a06 b p 4,())=some ((num (a06 b p 4),()),()):=fun p h0 h1=>at0 (by have:=a61 (s:=b) (p:=p) (n:=4) h0 (by omega) h1; omega)
 rw [if_neg (show ¬b.length < 24 by omega),a40 (i:=1) (by omega),a40 (i:=2) (by omega),a40 (i:=3) (by omega)]
 simp only [Option.bind_some]
 have e1:(((b[1]?.getD 0).toNat:Nat):Int)=bt b 1:=rfl
 have e2:(((b[2]?.getD 0).toNat:Nat):Int)=bt b 2:=rfl
 have e3:(((b[3]?.getD 0).toNat:Nat):Int)=bt b 3:=rfl
 rw [e1,e2,e3]
 have hx:=a31 b 1
 have hy:=a31 b 2
 have hz:=a31 b 3
 rw [Int.tmod_eq_emod_of_nonneg hx.1]
 refine a16 (fun q=>?_) (fun q=>?_)
 ·rw [if_pos (fun c=>q c.1)]; rfl
 refine a16 (fun q1=>?_) (fun q1=>?_)
 ·rw [if_pos (fun c=>q1 c.2)]; rfl
 rw [if_neg (show ¬¬(bt b 1 % 8=0∧bt b 2=0) from fun c=>c ⟨q,q1⟩),if_pos (by omega),cV5 (by rw [List.length_drop]; omega),Option.bind_some]
 have hp:=az1 (b.drop 24)
 rw [List.length_drop] at hp
 unfold ap1
 refine a16 (fun q2=>?_) (fun q2=>?_)
 ·rw [if_pos q2]
  dsimp only at q2 ⊢
  rw [w64 (by omega) (by omega)]; rfl
 rw [if_neg (show ¬(ac1 (b.drop 24)).2.2≠0 from fun c=>c q2),if_pos (by omega),show (b.take 8).drop 4=a06 b 4 4 from rfl,nl 4 (by omega) (by omega),Option.bind_some,if_pos (by omega),if_pos (by omega),show (b.take 16).drop 12=a06 b 12 4 from rfl,nl 12 (by omega) (by omega),Option.bind_some,if_pos (by omega),if_pos (by omega),show (b.take 24).drop 20=a06 b 20 4 from rfl,nl 20 (by omega) (by omega),Option.bind_some,w64 (x:=bt b 1) (by omega) (by omega),Int.tdiv_eq_ediv_of_nonneg hx.1,w64 (by omega) (by omega),w64 (by omega) (by omega)]
 rfl
def e08 (b:Bs):Msg:=a00.mk 4 0 0 [] 0 0 [] (bt b 2) 0 [] 0 [] (num (a06 b 8 4)) 0 (num (a06 b 16 4)) (bt b 1 / 64) (bt b 3) 0 0 (a06 b 4 4) (a06 b 12 4) [] 0 [] (ac1 (b.drop 20)).1
def dp7 (b:Bs):Msg:=a00.mk 6 0 0 [] 0 0 [] 0 0 [] 0 [] 0 0 0 0 0 0 0 [] [] [] 0 [] (ac1 (b.drop 2)).1
def b14 (b:Bs):Msg × Int × Int:=
 if bt b 0=4 then (if b.length < 2 then (zM,b.length,2) else if ¬bt b 1=0 then (zM,1,5) else ap1 b 2 (dp7 b))
 else if b.length < 20 then (zM,b.length,2) else if ¬(bt b 1 % 64=0∧bt b 2 < 32) then (zM,1,5) else ap1 b 20 (e08 b)
theorem fm5 {b:Bs} (hb:b.length≤1000000):c05 (b,())=some (a35 (if b.length < 2 then (zM,(b.length:Int),(2:Int)) else if ¬bt b 1=0 then (zM,1,5) else ap1 b 2 (dp7 b)),()):=by
 rw [eo1]
 refine a29 (fun h=>by rw [if_pos (by omega)]; rfl) (fun h=>?_)
 rw [if_neg (show ¬b.length < 2 by omega),a40 (i:=1) (by omega),Option.bind_some]
 refine a16 (fun q=>?_) (fun q=>?_)
 ·rw [if_pos (show ¬bt b 1=0 from q)]; rfl
 rw [if_neg (show ¬¬bt b 1=0 from fun c=>c q),if_pos (by omega),dp2 (by rw [List.length_drop]; omega),Option.bind_some]
 have hp:=az1 (b.drop 2)
 rw [List.length_drop] at hp
 unfold ap1
 refine a16 (fun q2=>?_) (fun q2=>?_)
 ·rw [if_pos q2]
  dsimp only at q2 ⊢
  rw [w64 (by omega) (by omega),Int.add_comm]; rfl
 ·rw [if_neg (show ¬(ac1 (b.drop 2)).2.2≠0 from fun c=>c q2)]; rfl
theorem fb3 {b:Bs} (h0:1≤b.length) (hb:b.length≤1000000):c06 (b,())=some (a35 (b14 b),()):=by
 rw [eo2]
 unfold b14
 have hne:b≠[]:=by intro q; rw [q] at h0; simp at h0
 rw [if_pos (by simp [hne]),a40 (i:=0) (by omega),Option.bind_some]
 refine a09 (fun q=>?_) (fun q=>?_)
 ·rw [if_pos (show bt b 0=4 from q),fm5 hb]; rfl
 rw [if_neg (show ¬bt b 0=4 from q)]
 refine a29 (fun h=>by rw [if_pos (by omega)]; rfl) (fun h=>?_)
 have w0:WfC b 0 b.length:=.whole (by omega)
 have w1:=w0.fwd (n:=4) (by omega) (by omega)
 have w2:=w1.fwd (n:=4) (by omega) (by omega)
 have w3:=w2.fwd (n:=4) (by omega) (by omega)
 have w4:=w3.fwd (n:=4) (by omega) (by omega)
 rw [if_neg (show ¬b.length < 20 by omega),a40 (i:=1) (by omega),a40 (i:=2) (by omega),a40 (i:=3) (by omega)]
 simp only [Option.bind_some]
 have e1:(((b[1]?.getD 0).toNat:Nat):Int)=bt b 1:=rfl
 have e2:(((b[2]?.getD 0).toNat:Nat):Int)=bt b 2:=rfl
 have e3:(((b[3]?.getD 0).toNat:Nat):Int)=bt b 3:=rfl
 rw [e1,e2,e3]
 have hx:=a31 b 1
 have hy:=a31 b 2
 have hz:=a31 b 3
 have ao:=fm4 hx hy
 refine a16 (fun q=>?_) (fun q=>?_)
 ·rw [if_pos (fun c=>q (ao.2 c))]; rfl
 rw [if_neg (show ¬¬(bt b 1 % 64=0∧bt b 2 < 32) from fun c=>c (ao.1 q)),if_pos (by omega),dp2 (by rw [List.length_drop]; omega),Option.bind_some]
 have hp:=az1 (b.drop 20)
 rw [List.length_drop] at hp
 unfold ap1
 refine a16 (fun q2=>?_) (fun q2=>?_)
 ·rw [if_pos q2]
  dsimp only at q2 ⊢
  rw [w64 (by omega) (by omega),Int.add_comm]; rfl
 rw [if_neg (show ¬(ac1 (b.drop 20)).2.2≠0 from fun c=>c q2),bp5,Option.bind_some]
 dsimp only
 rw [ap0 w0 (by omega) (by omega),Option.bind_some]
 dsimp only
 rw [ap0 w1 (by omega) (by omega),Option.bind_some]
 dsimp only
 rw [ak9 w2 (by omega) (by omega) (by omega),Option.bind_some]
 dsimp only
 rw [ap0 w3 (by omega) (by omega),Option.bind_some]
 dsimp only
 rw [ak9 w4 (by omega) (by omega) (by omega),Option.bind_some]
 have hs:=ey8 (x:=bt b 1) (k:=6) (by omega)
 rw [show ((6:Nat):Int)=6 from rfl,show (2:Int) ^ 6=64 from rfl] at hs
 rw [hs,w64 (by omega) (by omega),w64 (by omega) (by omega),w64 (by omega) (by omega)]
 rfl
theorem eX0 {b:Bs} (h0:1≤b.length) (hb:b.length≤1000000):bG0 (b,())=some (a35 (b14 b),()):=by
 rw [eb0]
 unfold b14
 have nl:∀ p:Int,0≤p→p+4≤b.length→a20 (a06 b p 4,())=some ((num (a06 b p 4),()),()):=fun p h0 h1=>at0 (by have:=a61 (s:=b) (p:=p) (n:=4) h0 (by omega) h1; omega)
 rw [ifd (by omega),a40 (i:=0) (by omega),Option.bind_some]
 refine a09 (fun q=>?_) (fun q=>?_)
 ·rw [if_pos (show bt b 0=4 from q)]
  refine a29 (fun h=>by rw [if_pos (by omega)]; rfl) (fun h=>?_)
  rw [if_neg (show ¬b.length < 2 by omega),a40 (i:=1) (by omega),Option.bind_some]
  refine a16 (fun q=>?_) (fun q=>?_)
  ·rw [if_pos (show ¬bt b 1=0 from q)]; rfl
  rw [if_neg (show ¬¬bt b 1=0 from fun c=>c q),if_pos (by omega),cV5 (by rw [List.length_drop]; omega),Option.bind_some]
  have hp:=az1 (b.drop 2)
  rw [List.length_drop] at hp
  unfold ap1
  refine a16 (fun q2=>?_) (fun q2=>?_)
  ·rw [if_pos q2]
   dsimp only at q2 ⊢
   rw [w64 (by omega) (by omega)]; rfl
  ·rw [if_neg (show ¬(ac1 (b.drop 2)).2.2≠0 from fun c=>c q2)]; rfl
 rw [if_neg (show ¬bt b 0=4 from q)]
 refine a29 (fun h=>by rw [if_pos (by omega)]; rfl) (fun h=>?_)
 rw [if_neg (show ¬b.length < 20 by omega),a40 (i:=1) (by omega),a40 (i:=2) (by omega),a40 (i:=3) (by omega)]
 simp only [Option.bind_some]
 have e1:(((b[1]?.getD 0).toNat:Nat):Int)=bt b 1:=rfl
 have e2:(((b[2]?.getD 0).toNat:Nat):Int)=bt b 2:=rfl
 have e3:(((b[3]?.getD 0).toNat:Nat):Int)=bt b 3:=rfl
 rw [e1,e2,e3]
 have hx:=a31 b 1
 have hy:=a31 b 2
 have hz:=a31 b 3
 rw [Int.tmod_eq_emod_of_nonneg hx.1]
 refine a16 (fun q=>?_) (fun q=>?_)
 ·rw [if_pos (fun c=>q c.1)]; rfl
 refine a29 (fun q1=>?_) (fun q1=>?_)
 ·rw [if_pos (fun c=>by have:=c.2; omega)]; rfl
 rw [if_neg (show ¬¬(bt b 1 % 64=0∧bt b 2 < 32) from fun c=>c ⟨q,by omega⟩),if_pos (by omega),cV5 (by rw [List.length_drop]; omega),Option.bind_some]
 have hp:=az1 (b.drop 20)
 rw [List.length_drop] at hp
 unfold ap1
 refine a16 (fun q2=>?_) (fun q2=>?_)
 ·rw [if_pos q2]
  dsimp only at q2 ⊢
  rw [w64 (by omega) (by omega)]; rfl
 rw [if_neg (show ¬(ac1 (b.drop 20)).2.2≠0 from fun c=>c q2),if_pos (by omega),if_pos (by omega),show (b.take 12).drop 8=a06 b 8 4 from rfl,nl 8 (by omega) (by omega),Option.bind_some,if_pos (by omega),if_pos (by omega),show (b.take 20).drop 16=a06 b 16 4 from rfl,nl 16 (by omega) (by omega),Option.bind_some,w64 (x:=bt b 1) (by omega) (by omega),Int.tdiv_eq_ediv_of_nonneg hx.1,w64 (by omega) (by omega),w64 (by omega) (by omega),w64 (by omega) (by omega)]
 rfl
end Go.VP
namespace Go.VP
open Go Go.VI
def av8 (b:Bs):Nat→Nat→List b22
 | 0,_=>[]
 | k+1,p=>⟨a06 b p 4,num (a06 b ((p:Int)+4) 4)⟩::av8 b k (p+8)
def cV8 (b:Bs):Msg:=a00.mk 5 0 0 [] 0 0 [] 0 0 [] 0 [] 0 0 0 (bt b 1 / 128) 0 0 0 [] [] (av8 b (bt b 3).toNat 4) 0 [] (ac1 (b.drop (4+8 * (bt b 3).toNat))).1
def bH7 (b:Bs):Msg × Int × Int:=
 if b.length < 4 then (zM,b.length,2) else if ¬(bt b 1 % 128=0∧bt b 2=0) then (zM,1,5) else if bt b 3=0 then (zM,3,8)
 else if b.length < 4+8 * (bt b 3).toNat then (zM,b.length,2) else ap1 b (4+8 * (bt b 3).toNat) (cV8 b)
theorem ey9:bE1≤100:=Nat.le_of_ble_eq_true (by kernel_rfl)
theorem eX1 {n:Nat} {b:Bs} {fl c:Int} (hb:b.length≤1000000) (hc:c≤255):∀ (d m i:Nat) (p:Int) (bad:Bool) (acc:List b22),(i:Int)+d=c→d < m→WfC b p b.length→(bad=true∨(b.length:Int) < p+8 * d)→acc.length≤i→
  aD3 n m b fl acc b p b.length bad c i=some (a35 (zM,(b.length:Int),(2:Int)),()):=by
 intro d
 induction d with
 | zero=>
  intro m i p bad acc hd hm w hbad ha
  obtain ⟨m,rfl⟩:∃ j,m=j+1:=⟨m - 1,by omega⟩
  have hw:=w.hi
  have:bad=true:=hbad.resolve_right (by omega)
  rw [aS1,ifn (by omega),this]; try rfl
 | succ d ih=>
  intro m i p bad acc hd hm w hbad ha
  obtain ⟨m,rfl⟩:∃ j,m=j+1:=⟨m - 1,by omega⟩
  rw [aS1,ifd (by omega),w64 (by omega) (by omega)]
  have go:∀ (q:Int) (bd:Bool) (x:b22),WfC b q b.length→(bd=true∨(b.length:Int) < q+8 * d)→(if a66 ((acc.length + [x].length) * bE1)=true then aD3 n m b fl (acc++[x]) b q b.length bd c ((i:Int)+1) else none)=some (a35 (zM,(b.length:Int),(2:Int)),()):=by
   intro q bd x wq hq
   rw [if_pos (aJ6 (by simp; omega) ey9)]
   have:=ih m (i+1) q bd (acc++[x]) (by omega) (by omega) wq hq (by simp; omega)
   rw [show ((i+1:Nat):Int)=(i:Int)+1 by omega] at this
   exact this
  by_cases h1:bad=true∨(b.length:Int) < p+4
  ·rw [ba8 w (h1.imp id .inr),Option.bind_some]
   dsimp only
   rw [c35 w (by omega) (by omega) (.inl rfl),Option.bind_some]
   exact go p true _ w (.inl rfl)
  ·have hbf:bad=false:=by cases bad <;> simp_all
   subst hbf
   have w1:=w.fwd (n:=4) (by omega) (by omega)
   rw [ap0 w (by omega) (by omega),Option.bind_some]
   dsimp only
   by_cases h2:(b.length:Int) < p+4+4
   ·rw [c35 w1 (by omega) (by omega) (.inr (by omega)),Option.bind_some]
    exact go (p+4) true _ w1 (.inl rfl)
   ·rw [ak9 w1 (by omega) (by omega) (by omega),Option.bind_some]
    exact go (p+4+4) false _ (w1.fwd (n:=4) (by omega) (by omega)) (.inr (by have:=hbad.resolve_left (by simp); omega))
theorem ez0 (b:Bs) (p:Nat) (h:p≤b.length):0≤(ac1 (b.drop p)).2.1∧(ac1 (b.drop p)).2.1≤b.length:=by
 have:=az1 (b.drop p)
 rw [List.length_drop] at this
 omega
def cP2 (b:Bs) (fl:Int) (l:List b22) (p:Nat):Msg × Int × Int:=ap1 b p (a00.mk 5 0 0 [] 0 0 [] 0 0 [] 0 [] 0 0 0 fl 0 0 0 [] [] l 0 [] (ac1 (b.drop p)).1)
theorem eO2 {n:Nat} {b:Bs} {fl c:Int} (hb:b.length≤1000000) (hc:c≤255):∀ (d m i p:Nat) (acc:List b22),(i:Int)+d=c→d < m→p+8 * d≤b.length→acc.length≤i→
  aD3 n m b fl acc b p b.length false c i=some (a35 (cP2 b fl (acc++av8 b d p) (p+8 * d)),()):=by
 intro d
 induction d with
 | zero=>
  intro m i p acc hd hm hp ha
  obtain ⟨m,rfl⟩:∃ j,m=j+1:=⟨m - 1,by omega⟩
  have ht:=ez0 b p (by omega)
  rw [aS1,ifn (by omega),aa1,if_pos (by omega),Int.toNat_natCast,dp2 (by rw [List.length_drop]; omega),Option.bind_some,av8,List.append_nil]
  unfold cP2 ap1
  rw [Nat.mul_zero,Nat.add_zero]
  refine a16 (fun q2=>?_) (fun q2=>?_)
  ·rw [if_pos q2]
   dsimp only at q2 ⊢
   rw [w64 (by omega) (by omega)]; try rfl
  ·rw [if_neg (fun c=>c q2)]; try rfl
 | succ d ih=>
  intro m i p acc hd hm hp ha
  obtain ⟨m,rfl⟩:∃ j,m=j+1:=⟨m - 1,by omega⟩
  have w:WfC b p b.length:=⟨by omega,by omega,by omega,by omega⟩
  have w1:=w.fwd (n:=4) (by omega) (by omega)
  have:=ih m (i+1) (p+8) (acc++[⟨a06 b p 4,num (a06 b ((p:Int)+4) 4)⟩]) (by omega) (by omega) (by omega) (by simp; omega)
  rw [show ((i+1:Nat):Int)=(i:Int)+1 by omega,show ((p+8:Nat):Int)=(p:Int)+4+4 by omega,show p+8+8 * d=p+8 * (d+1) by omega] at this
  rw [aS1,ifd (by omega),w64 (by omega) (by omega),ap0 w (by omega) (by omega),Option.bind_some]
  dsimp only
  rw [ak9 w1 (by omega) (by omega) (by omega),Option.bind_some]
  dsimp only
  rw [if_pos (aJ6 (by simp; omega) ey9),this,av8]
  simp only [List.append_assoc,List.singleton_append]
theorem eX2 {b:Bs} (hb:b.length≤1000000):cR5 (b,())=some (a35 (bH7 b),()):=by
 show cR4 a04 _=_
 rw [eo0]
 unfold bH7
 refine a29 (fun h=>by rw [if_pos (by omega)]; try rfl) (fun h=>?_)
 rw [if_neg (show ¬b.length < 4 by omega),a40 (i:=1) (by omega),Option.bind_some,a40 (i:=2) (by omega),Option.bind_some,a40 (i:=3) (by omega)]
 have e1:(((b[1]?.getD 0).toNat:Nat):Int)=bt b 1:=rfl
 have e2:(((b[2]?.getD 0).toNat:Nat):Int)=bt b 2:=rfl
 have e3:(((b[3]?.getD 0).toNat:Nat):Int)=bt b 3:=rfl
 rw [e1,e2]
 have hx:=a31 b 1
 have hy:=a31 b 2
 have hz:=a31 b 3
 have ao:=eO1 (k:=7) (by omega) hx hy
 rw [show ((2 ^ 7 - 1:Nat):Int)=127 from rfl,show (2:Int) ^ 7=128 from rfl] at ao
 refine a16 (fun q=>?_) (fun q=>?_)
 ·rw [if_pos (fun c=>q (ao.2 c))]; try rfl
 rw [if_neg (show ¬¬(bt b 1 % 128=0∧bt b 2=0) from fun c=>c (ao.1 q)),Option.bind_some]
 refine a09 (fun q=>by rw [if_pos (show bt b 3=0 from q)]; try rfl) (fun q=>?_)
 have w0:WfC b 0 b.length:=.whole (by omega)
 have w1:=w0.fwd (n:=4) (by omega) (by omega)
 have hs:=ey8 (x:=bt b 1) (k:=7) (by omega)
 rw [show ((7:Nat):Int)=7 from rfl,show (2:Int) ^ 7=128 from rfl] at hs
 rw [if_neg (show ¬bt b 3=0 from q),Option.bind_some,bp5,Option.bind_some]
 dsimp only
 rw [ap0 w0 (by omega) (by omega),Option.bind_some,Option.bind_some,e3,e1,hs,w64 (x:=bt b 1 / 128) (by omega) (by omega),w64 (x:=bt b 3) (by omega) (by omega)]
 dsimp only
 by_cases hl:b.length < 4+8 * (bt b 3).toNat
 ·rw [if_pos hl]
  have key:=eX1 (n:=a04) (fl:=bt b 1 / 128) (c:=bt b 3) hb (by omega) (bt b 3).toNat a04 0 (0+4) false [] (by omega) (a28 (by omega)) w1 (.inr (by omega)) (by simp)
  rw [show ((0:Nat):Int)=0 from rfl] at key
  rw [key]
 ·rw [if_neg hl]
  have key:=eO2 (n:=a04) (fl:=bt b 1 / 128) (c:=bt b 3) hb (by omega) (bt b 3).toNat a04 0 4 [] (by omega) (a28 (by omega)) (by omega) (by simp)
  rw [show ((4:Nat):Int)=0+4 from rfl,show ((0:Nat):Int)=0 from rfl,List.nil_append] at key
  rw [key]
  unfold cP2 cV8
  rfl
theorem ez1 {n:Nat} {b:Bs} {fl c:Int} (hb:b.length≤1000000) (hc:c≤255):∀ (d m i:Nat) (acc:List b22),(i:Int)+d=c→d < m→4+8 * i+8 * d≤b.length→acc.length≤i→
  b77 n m b c fl acc i=some (a35 (cP2 b fl (acc++av8 b d (4+8 * i)) (4+8 * i+8 * d)),()):=by
 intro d
 induction d with
 | zero=>
  intro m i acc hd hm hp ha
  obtain ⟨m,rfl⟩:∃ j,m=j+1:=⟨m - 1,by omega⟩
  have ht:=ez0 b (4+8 * i) (by omega)
  rw [ck1,ifn (by omega),w64 (x:=8 * c) (by omega) (by omega),w64 (x:=4+8 * c) (by omega) (by omega),if_pos (by omega),show (4+8 * c).toNat=4+8 * i by omega,cV5 (by rw [List.length_drop]; omega),Option.bind_some,av8,List.append_nil]
  unfold cP2 ap1
  rw [Nat.mul_zero,Nat.add_zero]
  refine a16 (fun q2=>?_) (fun q2=>?_)
  ·rw [if_pos q2]
   dsimp only at q2 ⊢
   rw [w64 (by omega) (by omega),show (4+8 * c)=((4+8 * i:Nat):Int) by omega]; try rfl
  ·rw [if_neg (fun c=>c q2)]; try rfl
 | succ d ih=>
  intro m i acc hd hm hp ha
  obtain ⟨m,rfl⟩:∃ j,m=j+1:=⟨m - 1,by omega⟩
  have e1:(4+8 * (i:Int))=((4+8 * i:Nat):Int):=by omega
  have e2:(8+8 * (i:Int))=((4+8 * i:Nat):Int)+4:=by omega
  have e3:(12+8 * (i:Int))=((4+8 * i:Nat):Int)+4+4:=by omega
  have hn:a20 (a06 b (((4+8 * i:Nat):Int)+4) 4,())=some ((num (a06 b (((4+8 * i:Nat):Int)+4) 4),()),()):=at0 (by have:=a61 (s:=b) (p:=((4+8 * i:Nat):Int)+4) (n:=4) (by omega) (by omega) (by omega); omega)
  have:=ih m (i+1) (acc++[⟨a06 b ((4+8 * i:Nat):Int) 4,num (a06 b (((4+8 * i:Nat):Int)+4) 4)⟩]) (by omega) (by omega) (by omega) (by simp; omega)
  rw [show ((i+1:Nat):Int)=(i:Int)+1 by omega,show 4+8 * (i+1)+8 * d=4+8 * i+8 * (d+1) by omega,show 4+8 * (i+1)=4+8 * i+8 by omega] at this
  rw [ck1,ifd (by omega),w64 (x:=8 * (i:Int)) (by omega) (by omega),w64 (x:=4+8 * (i:Int)) (by omega) (by omega),w64 (x:=8+8 * (i:Int)) (by omega) (by omega),w64 (x:=12+8 * (i:Int)) (by omega) (by omega),w64 (by omega) (by omega),e1,e2,e3,if_pos (by omega),if_pos (by omega)]
  rw [show (b.take (((4+8 * i:Nat):Int)+4+4).toNat).drop (((4+8 * i:Nat):Int)+4).toNat=a06 b (((4+8 * i:Nat):Int)+4) 4 from rfl,show (b.take (((4+8 * i:Nat):Int)+4).toNat).drop ((4+8 * i:Nat):Int).toNat=a06 b ((4+8 * i:Nat):Int) 4 from rfl,hn,Option.bind_some]
  dsimp only
  rw [if_pos (aJ6 (by simp; omega) ey9),this,av8]
  simp only [List.append_assoc,List.singleton_append]
theorem eO3 {b:Bs} (hb:b.length≤1000000):cz2 (b,())=some (a35 (bH7 b),()):=by
 show cz1 a04 _=_
 rw [e92]
 unfold bH7
 refine a29 (fun h=>by rw [if_pos (by omega)]; try rfl) (fun h=>?_)
 rw [if_neg (show ¬b.length < 4 by omega),a40 (i:=1) (by omega),Option.bind_some,a40 (i:=2) (by omega),a40 (i:=3) (by omega)]
 have e1:(((b[1]?.getD 0).toNat:Nat):Int)=bt b 1:=rfl
 have e2:(((b[2]?.getD 0).toNat:Nat):Int)=bt b 2:=rfl
 have e3:(((b[3]?.getD 0).toNat:Nat):Int)=bt b 3:=rfl
 rw [e1]
 have hx:=a31 b 1
 have hy:=a31 b 2
 have hz:=a31 b 3
 rw [Int.tmod_eq_emod_of_nonneg hx.1]
 refine a16 (fun q=>?_) (fun q=>?_)
 ·rw [if_pos (fun c=>q c.1)]; try rfl
 rw [Option.bind_some,e2]
 refine a16 (fun q1=>?_) (fun q1=>?_)
 ·rw [if_pos (fun c=>q1 c.2)]; try rfl
 rw [if_neg (show ¬¬(bt b 1 % 128=0∧bt b 2=0) from fun c=>c ⟨q,q1⟩),Option.bind_some,e3,w64 (x:=bt b 3) (by omega) (by omega)]
 refine a09 (fun q=>by rw [if_pos q]; try rfl) (fun q=>?_)
 rw [if_neg q,w64 (x:=8 * bt b 3) (by omega) (by omega),w64 (x:=4+8 * bt b 3) (by omega) (by omega)]
 refine a29 (fun h=>by rw [if_pos (by omega)]; try rfl) (fun h=>?_)
 rw [if_neg (show ¬b.length < 4+8 * (bt b 3).toNat by omega),Option.bind_some,e1,w64 (x:=bt b 1) (by omega) (by omega),Int.tdiv_eq_ediv_of_nonneg hx.1,w64 (by omega) (by omega)]
 have key:=ez1 (n:=a04) (fl:=bt b 1 / 128) (c:=bt b 3) hb (by omega) (bt b 3).toNat a04 0 [] (by omega) (a28 (by omega)) (by omega) (by simp)
 rw [show ((0:Nat):Int)=0 from rfl,Nat.mul_zero,Nat.add_zero,List.nil_append] at key
 rw [key]
 unfold cP2 cV8
 rfl
end Go.VP
namespace Go.VP
open Go Go.VI
noncomputable def avB (m:Msg):Bool:=rqB m || (rpB m || reB m)
noncomputable def af5 (m:Msg):Bs:=if rqB m=true then c48 m else if rpB m=true then (if m.kind=6 then dp5 m else c49 m) else if reB m=true then dp6 m else []
noncomputable def an5 (l:List Msg):Bs × Int × Int:=match av0 avB l 0 with
 | some i=>([],(i:Int),1)
 | none=>match l with
  | []=>([],0,8)
  | [m]=>if 65535 < (af5 m).length then ([],0,10) else (af5 m,0,0)
  | _=>([],1,8)
def ap2 (b:Bs):Msg × Int × Int:=if bt b 0=1 then bH6 b else if bt b 0=3 then bH7 b else b14 b
def at5 (b:Bs):List Msg × Int × Int:=
 if 65535 < b.length then ([],65535,10) else if b.length=0 then ([],0,2) else if bt b 0 < 1∨4 < bt b 0 then ([],0,4)
 else if (ap2 b).2.2≠0 then ([],(ap2 b).2.1,(ap2 b).2.2) else ([(ap2 b).1],0,0)
theorem e09 {m:Msg} (g:ah7 m):aT9 (m,())=some ((avB m,()),()):=by
 rw [dY7,e05 g,Option.bind_some]
 unfold avB
 dsimp only
 cases rqB m with
 | true=>rfl
 | false=>
  rw [aa1,e06 g,Option.bind_some]
  dsimp only
  cases rpB m with
  | true=>rfl
  | false=>rw [aa1,dD0 g]; try rfl
theorem fb4 {b:Bs} (h0:1≤b.length) (hb:b.length≤1000000):c07 (b,())=some (a35 (ap2 b),()):=by
 rw [eo3,a40 (i:=0) (by omega),Option.bind_some]
 unfold ap2
 refine a09 (fun q=>?_) (fun q=>?_)
 ·rw [if_pos (show bt b 0=1 from q),fb2 hb]; try rfl
 rw [if_neg (show ¬bt b 0=1 from q)]
 refine a09 (fun q=>?_) (fun q=>?_)
 ·rw [if_pos (show bt b 0=3 from q),eX2 hb]; try rfl
 rw [if_neg (show ¬bt b 0=3 from q),fb3 h0 hb]; try rfl
theorem eO4 {b:Bs} (hb:b.length≤1000000000):bh1 (b,())=some (a35 (at5 b),()):=by
 rw [dW4]
 unfold at5
 refine a29 (fun h=>by rw [if_pos (by omega)]; try rfl) (fun h=>?_)
 rw [if_neg (show ¬65535 < b.length by omega)]
 refine a09 (fun h=>by rw [if_pos (by omega)]; try rfl) (fun h1=>?_)
 rw [if_neg (show ¬b.length=0 by omega),a40 (i:=0) (by omega),Option.bind_some,Option.bind_some]
 refine a29 (fun h=>by rw [if_pos (show bt b 0 < 1∨4 < bt b 0 from .inl h)]; try rfl) (fun h2=>?_)
 refine a29 (fun h=>by rw [if_pos (show bt b 0 < 1∨4 < bt b 0 from .inr h)]; try rfl) (fun h3=>?_)
 rw [if_neg (show ¬(bt b 0 < 1∨4 < bt b 0) from fun c=>c.elim h2 h3),fb4 (by omega) (by omega),Option.bind_some]
 refine a16 (fun q=>?_) (fun q=>?_)
 ·rw [if_pos q]; try rfl
 ·rw [if_neg (fun c=>c q)]; try rfl
theorem fb5 {l:List Msg} (g:∀ m∈l,ah7 m) (hl:l.length≤1000000):bP8 (l,())=some (a35 (an5 l),()):=by
 show bP7 a04 (l,())=_
 rw [dK4]
 have main:∀ (d m i:Nat),i+d=l.length→d < m→av0 avB l 0=av0 avB (l.drop i) i→aQ5 a04 m l i=some (a35 (an5 l),()):=by
  intro d
  induction d with
  | zero=>
   intro m i hd hm hb
   obtain ⟨m,rfl⟩:∃ k,m=k+1:=⟨m - 1,by omega⟩
   rw [List.drop_eq_nil_of_le (by omega)] at hb
   have hn:av0 avB l 0=none:=hb
   have hok:=bL7 hn
   rw [bL1,ifn (by omega)]
   match l,g,hn,hok with
   | [],_,_,_=>rfl
   | x::y::r,_,hn,_=>
    have he:an5 (x::y::r)=([],1,8):=by unfold an5; rw [hn]
    rw [he,if_neg (by simp; omega),ifd (by simp; omega)]
   | [x],g,hn,hok=>
    have g:=g x (by simp)
    have hx:=hok x (by simp)
    have he:an5 [x]=if 65535 < (af5 x).length then ([],0,10) else (af5 x,0,0):=by unfold an5; rw [hn]
    have fin:∀ s:Bs,s=af5 x→(if (decide (65535 < (s.length:Int)))=true then some ((([]:Bs),0,10,()),()) else some ((s,0,0,()),()))=some (a35 (an5 [x]),()):=by
     intro s hs
     rw [he,← hs]
     refine a29 (fun h=>?_) (fun h=>?_)
     ·rw [if_pos (by omega)]
     ·rw [if_neg (by omega)]
    rw [if_neg (by simp),ifn (by simp),show [x][0]?=some x from rfl]
    simp only [Option.bind_some]
    rw [fb0 g,Option.bind_some]
    dsimp only
    unfold cu8
    cases h1:rqB x with
    | true=>
     simp only [if_true]
     rw [a41]
     exact fin _ (by unfold af5; rw [if_pos h1])
    | false=>
     rw [aa1,a83,fb1 g,Option.bind_some]
     dsimp only
     unfold cu9
     cases h2:rpB x with
     | true=>
      simp only [if_true]
      rw [a41]
      exact fin _ (by unfold af5; rw [if_neg (show ¬rqB x=true by rw [h1]; simp),if_pos h2])
     | false=>
      rw [aa1,a83,eW8 g,Option.bind_some]
      have h3:reB x=true:=by unfold avB at hx; rw [h1,h2] at hx; simpa using hx
      refine fin _ ?_
      unfold cv0 af5
      rw [if_pos h3,if_neg (show ¬rqB x=true by rw [h1]; simp),if_neg (show ¬rpB x=true by rw [h2]; simp),if_pos h3]
  | succ d ih=>
   intro m i hd hm hb
   obtain ⟨m,rfl⟩:∃ k,m=k+1:=⟨m - 1,by omega⟩
   have hi:i < l.length:=by omega
   rw [List.drop_eq_getElem_cons hi,av0] at hb
   rw [bL1,ifd (by omega),if_pos (by omega),Int.toNat_natCast,a27 hi,e09 (g _ (List.getElem_mem hi)),Option.bind_some]
   dsimp only
   cases ho:avB l[i] with
   | true=>
    rw [if_pos ho] at hb
    have:=ih m (i+1) (by omega) (by omega) hb
    rw [a41,w64 (by omega) (by omega)]
    exact this
   | false=>
    rw [if_neg (by rw [ho]; simp)] at hb
    rw [a83]
    unfold an5; rw [hb]
 exact main l.length a04 0 (by omega) (a28 (by omega)) rfl
theorem dD1 {m:Msg} (g:ah7 m):aL8 (m,())=some ((avB m,()),()):=by
 rw [dI0,dC8 g,Option.bind_some]
 unfold avB
 dsimp only
 cases rqB m with
 | true=>rfl
 | false=>
  rw [aa1,dC9 g,Option.bind_some]
  dsimp only
  cases rpB m with
  | true=>rfl
  | false=>rw [aa1,dn2 g]; try rfl
theorem eX3 {b:Bs} (h0:1≤b.length) (hb:b.length≤1000000):bG1 (b,())=some (a35 (ap2 b),()):=by
 rw [eb1,a40 (i:=0) (by omega),Option.bind_some]
 unfold ap2
 refine a09 (fun q=>?_) (fun q=>?_)
 ·rw [if_pos (show bt b 0=1 from q),eW9 hb]; try rfl
 rw [if_neg (show ¬bt b 0=1 from q)]
 refine a09 (fun q=>?_) (fun q=>?_)
 ·rw [if_pos (show bt b 0=3 from q),eO3 hb]; try rfl
 rw [if_neg (show ¬bt b 0=3 from q),eX0 h0 hb]; try rfl
theorem eC5 {b:Bs} (hb:b.length≤1000000000):b78 (b,())=some (a35 (at5 b),()):=by
 rw [dJ7]
 unfold at5
 refine a29 (fun h=>by rw [if_pos (by omega)]; try rfl) (fun h=>?_)
 rw [if_neg (show ¬65535 < b.length by omega)]
 refine a09 (fun h=>by rw [if_pos (by omega)]; try rfl) (fun h1=>?_)
 rw [if_neg (show ¬b.length=0 by omega),a40 (i:=0) (by omega),Option.bind_some,Option.bind_some]
 refine a29 (fun h=>by rw [if_pos (show bt b 0 < 1∨4 < bt b 0 from .inl h)]; try rfl) (fun h2=>?_)
 refine a29 (fun h=>by rw [if_pos (show bt b 0 < 1∨4 < bt b 0 from .inr h)]; try rfl) (fun h3=>?_)
 rw [if_neg (show ¬(bt b 0 < 1∨4 < bt b 0) from fun c=>c.elim h2 h3),eX3 (by omega) (by omega),Option.bind_some]
 refine a16 (fun q=>?_) (fun q=>?_)
 ·rw [if_pos q]; try rfl
 ·rw [if_neg (fun c=>c q)]; try rfl
theorem eX4 {l:List Msg} (g:∀ m∈l,ah7 m) (hl:l.length≤1000000):bB2 (l,())=some (a35 (an5 l),()):=by
 show bB1 a04 (l,())=_
 rw [ds9]
 have main:∀ (d m i:Nat),i+d=l.length→d < m→av0 avB l 0=av0 avB (l.drop i) i→aI7 a04 m l i=some (a35 (an5 l),()):=by
  intro d
  induction d with
  | zero=>
   intro m i hd hm hb
   obtain ⟨m,rfl⟩:∃ k,m=k+1:=⟨m - 1,by omega⟩
   rw [List.drop_eq_nil_of_le (by omega)] at hb
   have hn:av0 avB l 0=none:=hb
   have hok:=bL7 hn
   rw [bt2,ifn (by omega)]
   match l,g,hn,hok with
   | [],_,_,_=>rfl
   | x::y::r,_,hn,_=>
    have he:an5 (x::y::r)=([],1,8):=by unfold an5; rw [hn]
    rw [he,if_neg (by simp; omega),ifd (by simp; omega)]
   | [x],g,hn,hok=>
    have g:=g x (by simp)
    have hx:=hok x (by simp)
    have he:an5 [x]=if 65535 < (af5 x).length then ([],0,10) else (af5 x,0,0):=by unfold an5; rw [hn]
    have fin:∀ s:Bs,s=af5 x→(if (decide (65535 < (s.length:Int)))=true then some ((([]:Bs),0,10,()),()) else some ((s,0,0,()),()))=some (a35 (an5 [x]),()):=by
     intro s hs
     rw [he,← hs]
     refine a29 (fun h=>?_) (fun h=>?_)
     ·rw [if_pos (by omega)]
     ·rw [if_neg (by omega)]
    rw [if_neg (by simp),ifn (by simp),show [x][0]?=some x from rfl]
    simp only [Option.bind_some]
    rw [eW6 g,Option.bind_some]
    dsimp only
    unfold cu8
    cases h1:rqB x with
    | true=>
     simp only [if_true]
     rw [a41]
     exact fin _ (by unfold af5; rw [if_pos h1])
    | false=>
     rw [aa1,a83,eW7 g,Option.bind_some]
     dsimp only
     unfold cu9
     cases h2:rpB x with
     | true=>
      simp only [if_true]
      rw [a41]
      exact fin _ (by unfold af5; rw [if_neg (show ¬rqB x=true by rw [h1]; simp),if_pos h2])
     | false=>
      rw [aa1,a83,eO0 g,Option.bind_some]
      have h3:reB x=true:=by unfold avB at hx; rw [h1,h2] at hx; simpa using hx
      refine fin _ ?_
      unfold cv0 af5
      rw [if_pos h3,if_neg (show ¬rqB x=true by rw [h1]; simp),if_neg (show ¬rpB x=true by rw [h2]; simp),if_pos h3]
  | succ d ih=>
   intro m i hd hm hb
   obtain ⟨m,rfl⟩:∃ k,m=k+1:=⟨m - 1,by omega⟩
   have hi:i < l.length:=by omega
   rw [List.drop_eq_getElem_cons hi,av0] at hb
   rw [bt2,ifd (by omega),if_pos (by omega),Int.toNat_natCast,a27 hi,dD1 (g _ (List.getElem_mem hi)),Option.bind_some]
   dsimp only
   cases ho:avB l[i] with
   | true=>
    rw [if_pos ho] at hb
    have:=ih m (i+1) (by omega) (by omega) hb
    rw [a41,w64 (by omega) (by omega)]
    exact this
   | false=>
    rw [if_neg (by rw [ho]; simp)] at hb
    rw [a83]
    unfold an5; rw [hb]
 exact main l.length a04 0 (by omega) (a28 (by omega)) rfl
end Go.VP
