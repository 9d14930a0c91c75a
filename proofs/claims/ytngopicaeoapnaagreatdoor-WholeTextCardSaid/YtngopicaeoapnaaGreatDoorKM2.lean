import Derived.Test.YtngopicaeoapnaaGreatDoorKM0
import Derived.Test.YtngopicaeoapnaaGreatDoorKM1
import Derived.Test.YtngopicaeoapnaaGreatDoorKFQ3
import Derived.Test.YtngopicaeoapnaaGreatDoorKFQ0
import Derived.Test.YtngopicaeoapnaaGreatDoorKFQ1
import Derived.Test.YtngopicaeoapnaaGreatDoorKFH
import Derived.Test.YtngopicaeoapnaaGreatDoorKFQ6
import Derived.Test.YtngopicaeoapnaaGreatDoorKFGood
import Derived.Test.YtngopicaeoapnaaGreatDoorKFQ2
set_option linter.unusedVariables false
set_option linter.unusedSimpArgs false
set_option maxRecDepth 100000
namespace Go.VP
open Go Go.VI
noncomputable def bI2:Ctx→List Msg→Option (Bs × Ctx)
 | c,[]=>some ([],c)
 | c,m::r=>if (as9 c m).2.2≠0 then none else (bI2 (as9 c m).2.1 r).map fun x=>((as9 c m).1++x.1,x.2)
noncomputable def goO:Ctx→List Msg→Nat→Bs→Bs × Int × Int
 | _,[],_,b=>((aE9 b).1,0,0)
 | c,m::r,i,b=>if (as9 c m).2.2≠0 then ([],i,(as9 c m).2.2) else if 65531 < ((b++(as9 c m).1).length:Int) then ([],i,10) else goO (as9 c m).2.1 r (i+1) (b++(as9 c m).1)
noncomputable def cQ8:List Msg→Nat→Option Nat
 | [],_=>none
 | m::r,i=>if aQ3 m=false then some i else cQ8 r (i+1)
noncomputable def dy3 (l:List Msg):Bs × Int × Int:=match cQ8 l 0 with
 | some i=>([],i,1)
 | none=>goO c0 l 0 []
theorem dE1:∀ {l:List Msg} {i:Nat},cQ8 l i=none↔∀ m∈l,aQ3 m=true
 | [],i=>by simp [cQ8]
 | m::r,i=>by
  rw [cQ8]
  by_cases h:aQ3 m=false
  ·rw [if_pos h]; simp [h]
  ·rw [if_neg h,dE1 (l:=r)]
   simp at h; simp [h]
theorem dE2:∀ {l:List Msg} {c d:Ctx} {s:Bs},okC c→(∀ m∈l,bc0 m)→bI2 c l=some (s,d)→aH6 c s l d∧okC d
 | [],c,d,s,hc,hl,h=>by rw [bI2] at h; cases h; exact ⟨dg3 c,hc⟩
 | m::r,c,d,s,hc,hl,h=>by
  rw [bI2] at h
  split at h
  ·cases h
  ·rename_i he
   have he:(as9 c m).2.2=0:=by simpa using he
   cases ho:bI2 (as9 c m).2.1 r with
   | none=>rw [ho] at h; cases h
   | some x=>
    rw [ho] at h
    cases h
    have hR:=hl m (List.mem_cons_self ..)
    obtain ⟨h1,h2⟩:=dE2 (ef5 hc hR) (fun x hx=>hl x (List.mem_cons_of_mem _ hx)) ho
    exact ⟨dg4 (ew7 hc hR he) h1,h2⟩
theorem ew8:∀ {l:List Msg} {c d:Ctx} {s b:Bs} {i:Nat},bI2 c l=some (s,d)→((b++s).length:Int)≤65531→goO c l i b=((aE9 (b++s)).1,0,0)
 | [],c,d,s,b,i,h,hl=>by rw [bI2] at h; cases h; rw [goO,List.append_nil]
 | m::r,c,d,s,b,i,h,hl=>by
  rw [bI2] at h
  split at h
  ·cases h
  ·rename_i he
   cases ho:bI2 (as9 c m).2.1 r with
   | none=>rw [ho] at h; cases h
   | some x=>
    rw [ho] at h
    cases h
    rw [← List.append_assoc] at hl ⊢
    have hl2:(((b++(as9 c m).1)++x.1).length:Int)≤65531:=hl
    rw [goO,if_neg he,if_neg (by simp only [List.length_append] at hl2 ⊢; omega)]
    exact ew8 ho hl2
theorem ef6:∀ {l:List Msg} {c:Ctx} {b:Bs} {i:Nat},(goO c l i b).2.2=0→(b.length:Int)≤65531→∃ s d,bI2 c l=some (s,d)∧((b++s).length:Int)≤65531
 | [],c,b,i,h,hb=>⟨[],c,rfl,by simpa using hb⟩
 | m::r,c,b,i,h,hb=>by
  rw [goO] at h
  split at h
  ·rename_i he; exact absurd h he
  rename_i he
  split at h
  ·exact absurd h (show ¬((10:Int)=0) by decide)
  rename_i hl
  obtain ⟨s,d,h1,h2⟩:=ef6 h (by omega)
  exact ⟨(as9 c m).1++s,d,by rw [bI2,if_neg he,h1]; rfl,by rw [← List.append_assoc]; exact h2⟩
theorem ew9 {l:List Msg} {s:Bs} {d:Ctx} (h:aH6 c0 s l d) (hs:(s.length:Int)≤65531):bp1 (aE9 s).1=(l,0,0):=by
 obtain ⟨w1,w2,w3,w4⟩:=dD6 (s:=s) (t:=[]) (by omega) (by simp; omega)
 rw [List.append_nil] at w1 w2
 obtain ⟨tl,h1,h2,h3⟩:=h 4
 have hf:=h3 []
 unfold bp1
 rw [w1,w2,if_neg (by simp)]
 dsimp only
 rw [h1,aW2]
 dsimp only
 rw [hf]; rfl
theorem eP1 {l:List Msg} (h:(dy3 l).2.2=0):(∀ m∈l,aQ3 m=true)∧∃ s d,bI2 c0 l=some (s,d)∧(s.length:Int)≤65531∧dy3 l=((aE9 s).1,0,0)∧aH6 c0 s l d∧(dy3 l).1.length=4+s.length:=by
 unfold dy3 at h ⊢
 cases hb:cQ8 l 0 with
 | some i=>rw [hb] at h; exact absurd h (show ¬((1:Int)=0) by decide)
 | none=>
  rw [hb] at h
  dsimp only at h ⊢
  have hl:=dE1.1 hb
  obtain ⟨s,d,h1,h2⟩:=ef6 h (by simp)
  have h2':(s.length:Int)≤65531:=by simpa using h2
  have h3:=ew8 (i:=0) (b:=[]) h1 (by simpa using h2')
  rw [List.nil_append] at h3
  refine ⟨hl,s,d,h1,h2',h3,(dE2 cQ4 (fun m hm=>bg7.1 (hl m hm)) h1).1,?_⟩
  rw [h3]
  exact (dD6 (s:=s) (t:=[]) (by omega) (by simp; omega)).2.2.1
end Go.VP
namespace Go.VP
open Go Go.VI
theorem en3 (c:Ctx) (m:Msg):(as9 c m).1.length≤800:=by
 have h1:=ef4 m.id; have h2:=dW1 m.next; have h3:(cj1 m (aq4 c m)).length≤257:=bd8 _ _
 have h4:(bX5 m).length≤257:=by
  unfold bX5 aD6 aD4
  split
  ·split
   ·exact bd8 _ _
   ·simp
  split
  ·exact bd8 _ _
  split
  ·exact bd8 _ _
  ·simp
 have h5:(dr5 c m).length≤514:=by
  unfold dr5
  split
  ·simp
  ·have a1:(if m.id=c.id then [] else idT m.id).length≤257:=by
    split
    ·simp
    ·exact h1
   have a2:(if m.next=ah5 c (ad8 m.ae) then [] else cQ6 m.next).length≤257:=by
    split
    ·simp
    ·exact h2
   rw [List.length_append]; omega
 unfold as9
 split
 ·simp
 split
 ·dsimp only; omega
 split
 ·simp
 ·dsimp only; rw [List.length_append]; omega
theorem en4 {l:List Msg} {n:Nat} (hl:l.length≤100000) (hg:∀ m∈l,aC4 m) (hb:∀ m∈l,aQ3 m=true):∀ (d k i:Nat) (c:Ctx) (b:Bs),i+d=l.length→d < k→okC c→b.length≤65531→
  aE4 n k l b c.prefix_c0 c.prefix_c1 c.prefix_c2 c.prefix_c3 c.next_c0 c.next_c1 c.id i=some (bd4 (goO c (l.drop i) i b),()):=by
 intro d
 induction d with
 | zero=>
  intro k i c b hd hk hc hbl
  obtain ⟨k,rfl⟩:∃ q,k=q+1:=⟨k - 1,by omega⟩
  rw [bn6,ifn (by omega),eO5 (by omega),List.drop_eq_nil_of_le (by omega)]; rfl
 | succ d ih=>
  intro k i c b hd hk hc hbl
  obtain ⟨k,rfl⟩:∃ q,k=q+1:=⟨k - 1,by omega⟩
  have hi:i < l.length:=by omega
  have hp:0≤(i:Int):=by omega
  have hm:=hb _ (List.getElem_mem hi)
  have hgm:=hg _ (List.getElem_mem hi)
  have ih':=fun c b=>ih k (i+1) c b (by omega) (by omega)
  rw [show ((i+1:Nat):Int)=(i:Int)+1 by omega] at ih'
  rw [bn6,ifd (by omega),if_pos hp,Int.toNat_natCast,aj0 hi,List.drop_eq_getElem_cons hi,goO]
  generalize l[i]=m at *
  have hlen:=en3 c m
  rw [show (af0.mk c.prefix_c0 c.prefix_c1 c.prefix_c2 c.prefix_c3 c.next_c0 c.next_c1 c.id)=c from rfl,ew6 hc hgm,Option.bind_some]
  dsimp only
  refine ah3 (fun he=>by rw [if_pos he]) (fun he=>?_)
  rw [if_neg (show ¬(as9 c m).2.2≠0 from fun q=>q he),if_pos (ah7 (by omega))]
  refine aK3 (fun q=>by rw [if_pos q]) (fun q=>?_)
  rw [if_neg q,w64 (by omega) (by omega)]
  exact ih' _ _ (ef5 hc (bg7.1 hm)) (by omega)
theorem en5 {l:List Msg} {n:Nat} (hn:1000000≤n) (hl:l.length≤100000) (hg:∀ m∈l,aC4 m):∀ (d k i:Nat),i+d=l.length→d < k→(∀ m∈l.take i,aQ3 m=true)→
  aE3 n k l i=some (bd4 (match cQ8 (l.drop i) i with | some j=>([],(j:Int),1) | none=>goO c0 l 0 []),()):=by
 intro d
 induction d with
 | zero=>
  intro k i hd hk hq
  obtain ⟨k,rfl⟩:∃ q,k=q+1:=⟨k - 1,by omega⟩
  rw [List.take_of_length_le (by omega)] at hq
  have:=en4 (n:=n) hl hg hq l.length n 0 c0 [] (by omega) (by omega) cQ4 (by simp)
  rw [bn5,ifn (by omega),List.drop_eq_nil_of_le (by omega)]
  exact this
 | succ d ih=>
  intro k i hd hk hq
  obtain ⟨k,rfl⟩:∃ q,k=q+1:=⟨k - 1,by omega⟩
  have hi:i < l.length:=by omega
  have hp:0≤(i:Int):=by omega
  have ih':=ih k (i+1) (by omega) (by omega)
  rw [show ((i+1:Nat):Int)=(i:Int)+1 by omega] at ih'
  have hgm:=hg _ (List.getElem_mem hi)
  rw [bn5,ifd (by omega),if_pos hp,Int.toNat_natCast,aj0 hi,dD8 hgm,Option.bind_some,List.drop_eq_getElem_cons hi,cQ8]
  dsimp only
  cases hm:aQ3 l[i] with
  | false=>rw [aS8,if_pos rfl]
  | true=>
   rw [aj6,if_neg (show ¬(true=false) by simp),w64 (by omega) (by omega)]
   refine ih' (fun x hx=>?_)
   rw [List.take_succ_eq_append_getElem hi,List.mem_append,List.mem_singleton] at hx
   rcases hx with hx | rfl
   ·exact hq x hx
   ·exact hm
theorem eP2 {l:List Msg} (hl:l.length≤100000) (hg:∀ m∈l,aC4 m):bl0 (l,())=some (bd4 (dy3 l),()):=by
 show bk9 fuel (l,())=_
 rw [cN0]
 exact en5 (n:=fuel) (Nat.le_of_lt (ag7 (by omega))) hl hg l.length fuel 0 (by omega) (ag7 (by omega)) (fun m hm=>by simp at hm)
end Go.VP
namespace Go.VP
open Go Go.VI
def dr6 (s:Bs):Bool:=s.all (·==0)
theorem ex0 {n:Nat} {s:Bs} (hs:s.length≤1000000000):∀ (d m i:Nat),i+d=s.length→d < m→aV0 n m s i=some (((s.drop i).all (·==0),()),()):=by
 intro d
 induction d with
 | zero=>
  intro m i hd hm
  obtain ⟨m,rfl⟩:∃ k,m=k+1:=⟨m - 1,by omega⟩
  rw [bJ4,ifn (by omega),List.drop_eq_nil_of_le (by omega)]; rfl
 | succ d ih=>
  intro m i hd hm
  obtain ⟨m,rfl⟩:∃ k,m=k+1:=⟨m - 1,by omega⟩
  have ha:i < s.length:=by omega
  have:=ih m (i+1) (by omega) (by omega)
  rw [show ((i+1:Nat):Int)=(i:Int)+1 by omega] at this
  rw [bJ4,ifd (by omega),if_pos (by omega),Int.toNat_natCast,aj0 ha,w64 (by omega) (by omega),this,List.drop_eq_getElem_cons ha,List.all_cons]
  refine ah3 (fun h=>?_) (fun h=>?_)
  ·have:(s[i]==0)=false:=by
    rw [beq_eq_false_iff_ne]; intro e; rw [e] at h; exact h rfl
   rw [this]; rfl
  ·have:s[i]=0:=cS7 h
   rw [this]; simp
theorem ef7 {s:Bs} (hs:s.length≤1000000000):af2 (s,())=some ((dr6 s,()),()):=by
 show bO7 fuel (s,())=_
 rw [dm8]
 exact ex0 hs s.length fuel 0 (by omega) (ag7 (by omega))
abbrev z4:Bs:=[0,0,0,0]
theorem en6 {s:Bs} (h:s.length=4):dr6 s=true↔s=z4:=by
 match s,h with
 | [a,b,c,d],_=>simp [dr6]
theorem eX3 {s t:Bs} (h:s.length=4) (h':t.length=4):dr6 (s++t)=true↔s=z4∧t=z4:=by
 rw [← en6 h,← en6 h']; simp [dr6,List.all_append]
def cj2 (s:Bs):ae7:=⟨num (aa4 s 0 2),num (aa4 s 2 2),aa4 s 4 4,aa4 s 8 4,aa4 s 12 4,num (aa4 s 16 4)⟩
def at7 (n:Int):Bs:=ag5 [255,255,255,255] n
theorem ex1:∀ k:Fin 33,([(aa1 (IntKind.wrap .u8 (ae4 .u32 (am6 .u32 4294967295 (IntKind.wrap .u64 (IntKind.wrap .i64 (32 - (k.val:Int))))) 24))),(aa1 (IntKind.wrap .u8 (ae4 .u32 (am6 .u32 4294967295 (IntKind.wrap .u64 (IntKind.wrap .i64 (32 - (k.val:Int))))) 16))),(aa1 (IntKind.wrap .u8 (ae4 .u32 (am6 .u32 4294967295 (IntKind.wrap .u64 (IntKind.wrap .i64 (32 - (k.val:Int))))) 8))),(aa1 (IntKind.wrap .u8 (am6 .u32 4294967295 (IntKind.wrap .u64 (IntKind.wrap .i64 (32 - (k.val:Int)))))))]:Bs)=at7 k.val:=by decide +kernel
theorem dW4 (n:Int):(at7 n).length=4:=by unfold at7; rw [aT1]; rfl
theorem eK1 {n:Int} (h:0≤n) (h':n≤32):∃ k:Fin 33,n=(k.val:Int):=⟨⟨n.toNat,by omega⟩,by simp; omega⟩
theorem ex2 {n:Int} (h:0≤n) (h':n≤32):bZ8 (n,())=some ((at7 n,true,()),()):=by
 obtain ⟨k,rfl⟩:=eK1 h h'
 rw [dR2,ifn (by omega),ifn (by omega),if_pos (by rw [w64 (by omega) (by omega),eB4 (by omega) (by omega)]; omega),ex1 k]
def bX6 (s:Bs):Nat→Nat→Int × Bool
 | 0,_=>(0,false)
 | d+1,k=>if at7 k=s then ((k:Int),true) else bX6 s d (k+1)
def az2 (s:Bs):Int × Bool:=bX6 s 33 0
theorem cQ9 (s:Bs):∀ (d k:Nat),(∃ j:Nat,k≤j∧j < k+d∧bX6 s d k=((j:Int),true)∧at7 j=s)∨(bX6 s d k=(0,false)∧∀ j:Nat,k≤j→j < k+d→at7 j≠s)
 | 0,k=>.inr ⟨rfl,fun j h1 h2=>by omega⟩
 | d+1,k=>by
  by_cases h:at7 k=s
  ·exact .inl ⟨k,by omega,by omega,by rw [bX6,if_pos h],h⟩
  ·rcases cQ9 s d (k+1) with ⟨j,h1,h2,h3,h4⟩ | ⟨h3,h4⟩
   ·exact .inl ⟨j,by omega,by omega,by rw [bX6,if_neg h,h3],h4⟩
   ·refine .inr ⟨by rw [bX6,if_neg h,h3],fun j h1 h2=>?_⟩
    by_cases e:j=k
    ·rw [e]; exact h
    ·exact h4 j (by omega) (by omega)
theorem eb7 (s:Bs):(∃ k:Fin 33,az2 s=((k.val:Int),true)∧at7 k.val=s)∨(az2 s=(0,false)∧∀ j:Nat,j < 33→at7 j≠s):=by
 rcases cQ9 s 33 0 with ⟨j,_,h2,h3,h4⟩ | ⟨h3,h4⟩
 ·exact .inl ⟨⟨j,by omega⟩,h3,h4⟩
 ·exact .inr ⟨h3,fun j h=>h4 j (by omega) (by omega)⟩
theorem ex3:∀ k:Fin 33,az2 (at7 k.val)=((k.val:Int),true):=by decide +kernel
theorem eG3 {s:Bs} (h:(az2 s).2=true):0≤(az2 s).1∧(az2 s).1≤32∧at7 (az2 s).1=s:=by
 rcases eb7 s with ⟨k,e,hk⟩ | ⟨e,_⟩
 ·rw [e]; have:=k.isLt; exact ⟨by simp,by simp; omega,hk⟩
 ·rw [e] at h; cases h
theorem db4 {n:Int} (h:0≤n) (h':n≤32):az2 (at7 n)=(n,true):=by
 obtain ⟨k,rfl⟩:=eK1 h h'
 exact ex3 k
end Go.VP
namespace Go.VP
open Go Go.VI
def okR (m:Msg):Prop:=m.kind=1∧bareB m=true∧(m.cmd=1∨m.cmd=2)∧(m.ver=1∨m.ver=2)∧m.prefix_.length=4∧m.next.length=4∧(m.auth=[]∨(m.ver=2∧m.auth.length=18))∧
 ((m.family=0∧m.cmd=1∧m.tag=0∧m.plen=0∧m.prefix_=z4∧m.next=z4∧m.metric=16)∨
  (m.family=2∧1≤m.metric∧m.metric≤16∧
   ((m.ver=1∧m.tag=0∧m.plen=32∧m.next=z4)∨(m.ver=2∧0≤m.tag∧m.tag≤65535∧0≤m.plen∧m.plen≤32∧bo1 m.prefix_ m.plen=true))))
open Classical in
noncomputable def aT8 (m:Msg):Bool:=decide (okR m)
theorem aN5 {m:Msg}:aT8 m=true↔okR m:=by unfold aT8; simp
structure RM (m:Msg):Prop where
 tag:IntKind.has .i64 m.tag
 plen:IntKind.has .i64 m.plen
 list:m.list.length≤1000000000
 subs:m.subs.length≤1000000000
theorem aN6 {R:Type} {p:Prop} [Decidable p] {t f r:R} (h:p→t=r) (h':¬p→f=r):(if decide p=true then t else f)=r:=by
 by_cases hp:p
 ·rw [ifd hp]; exact h hp
 ·rw [ifn hp]; exact h' hp
theorem bN3 {R:Type} {b:Bool} {t f r:R} (h:b=false→t=r) (h':b=true→f=r):(if (!b)=true then t else f)=r:=by
 cases b
 ·exact h rfl
 ·exact h' rfl
theorem dW5 {R:Type} {x a b:Int} {F V r:R} (h1:¬(x=a∨x=b)→F=r) (h2:(x=a∨x=b)→V=r):(if (x != a)=true then (if (x != b)=true then F else V) else V)=r:=
 ah3 (fun ha=>ah3 (fun hb=>h1 (by omega)) (fun hb=>h2 (.inr hb))) (fun ha=>h2 (.inl ha))
theorem eP3 {R:Type} {s:Bs} {v:Int} {F T r:R} (h1:¬(s=[]∨(v≠1∧s.length=18))→F=r) (h2:(s=[]∨(v≠1∧s.length=18))→T=r):(if (!(s==([]:Bs)))=true then (if (v==1)=true then F else (if ((s.length:Int) != 18)=true then F else T)) else T)=r:=
 ed9 (fun ha=>ac8 (fun hb=>h1 (by grind)) (fun hb=>ah3 (fun hc=>h1 (by grind)) (fun hc=>h2 (by grind)))) (fun ha=>h2 (.inl ha))
theorem eP4 {a:Bs} {n:Int} (h:a.length=4) (hn:IntKind.has .i64 n):af3 (a,n,())=some ((decide (0≤n∧n≤32) && bo1 a n,()),()):=by
 rw [bJ6,if_pos (by simp [h]),de3 (by omega) hn,Option.bind_some]
 dsimp only
 refine aN6 (fun h0=>?_) (fun h0=>?_)
 ·rw [w64 (by omega) (by omega)]
  refine aN6 (fun h1=>?_) (fun h1=>?_)
  ·rw [decide_eq_true (by omega)]; rfl
  ·rw [decide_eq_false (by omega)]; rfl
 ·rw [decide_eq_false (by omega)]; rfl
theorem eb8 {m:Msg} (g:RM m):bx4 (m,())=some ((aT8 m,()),()):=by
 have no:¬okR m→(some ((false,()),()):Option ((Bool × Unit) × Unit))=some ((aT8 m,()),()):=fun h=>by
  have:aT8 m=false:=by cases e:aT8 m with | false=>rfl | true=>exact absurd (aN5.1 e) h
  rw [this]
 have yes:∀ {b:Bool},(b=true↔okR m)→(some ((b,()),()):Option ((Bool × Unit) × Unit))=some ((aT8 m,()),()):=fun {b} h=>by
  have:b=aT8 m:=by rw [Bool.eq_iff_iff,h,aN5]
  rw [this]
 rw [du5]
 refine ah3 (fun hk=>no fun h=>hk h.1) (fun hk=>?_)
 rw [bare_is,Option.bind_some]
 refine bN3 (fun hb=>no fun h=>by have:=h.2.1; dsimp only at hb; rw [hb] at this; cases this) (fun hb=>?_)
 dsimp only at hb
 rw [cD0,Option.bind_some]
 refine bN3 (fun hp=>no fun h=>by have:=h.2.2.2.2.1; dsimp only at hp; simp at hp; omega) (fun hp=>?_)
 have hp4:m.prefix_.length=4:=by simp at hp; omega
 rw [cD0,Option.bind_some]
 refine bN3 (fun hp=>no fun h=>by have:=h.2.2.2.2.2.1; dsimp only at hp; simp at hp; omega) (fun hn=>?_)
 have hn4:m.next.length=4:=by simp at hn; omega
 refine dW5 (fun hc=>no fun h=>hc h.2.2.1) (fun hc=>?_)
 refine dW5 (fun hv=>no fun h=>hv h.2.2.2.1) (fun hv=>?_)
 refine eP3 (fun ha=>no fun h=>ha (by have:=h.2.2.2.2.2.2.1; grind)) (fun ha=>?_)
 have ha':m.auth=[]∨(m.ver=2∧m.auth.length=18):=by grind
 have z8:=eX3 hp4 hn4
 have zn:=en6 hn4
 refine ac8 (fun f0=>?_) (fun f0=>?_)
 ·refine ac8 (fun c1=>?_) (fun c1=>no (by grind [okR]))
  refine ac8 (fun t0=>?_) (fun t0=>no (by grind [okR]))
  refine ac8 (fun p0=>?_) (fun t0=>no (by grind [okR]))
  refine ac8 (fun m0=>?_) (fun t0=>no (by grind [okR]))
  rw [if_pos (af6 (by omega)),ef7 (by simp; omega),Option.bind_some]
  exact yes (by rw [z8]; grind [okR])
 ·refine ah3 (fun f2=>no (by grind [okR])) (fun f2=>?_)
  refine aN6 (fun h1=>no (by grind [okR])) (fun h1=>?_)
  refine aN6 (fun h2=>no (by grind [okR])) (fun h2=>?_)
  refine ac8 (fun v1=>?_) (fun v1=>?_)
  ·refine ac8 (fun t0=>?_) (fun t0=>no (by grind [okR]))
   refine ac8 (fun p0=>?_) (fun t0=>no (by grind [okR]))
   rw [ef7 (by omega),Option.bind_some]
   exact yes (by rw [zn]; grind [okR])
  ·have ft:=ap8 (k:=2) g.tag (by omega) (by omega)
   rw [show ((2:Nat):Int)=2 from rfl] at ft
   rw [ft,Option.bind_some]
   dsimp only
   have hf:ac5 m.tag 2=true↔0≤m.tag∧m.tag≤65535:=by unfold ac5; rw [decide_eq_true_eq]; omega
   cases hfb:ac5 m.tag 2 with
   | false=>rw [bd2]; exact no (fun h=>by
    have:¬(0≤m.tag∧m.tag≤65535):=by rw [← hf,hfb]; simp
    grind [okR])
   | true=>
    have:=hf.1 hfb
    rw [ift,eP4 hp4 g.plen,Option.bind_some]
    exact yes (by rw [Bool.and_eq_true,decide_eq_true_eq]; grind [okR])
end Go.VP
namespace Go.VP
open Go Go.VI
abbrev Ent:=ae7
def aq8 (cmd ver:Int) (says:Bs) (e:Ent):Msg:=⟨1,cmd,ver,says,e.family,0,e.addr,(if e.family=0 then 0 else if ver=1 then 32 else (az2 e.mask).1),e.tag,e.next,e.metric,[],0,0,0,0,0,0,0,[],[],[],0,[],[]⟩
open Classical in
noncomputable def dW6 (cmd ver:Int) (says:Bs) (alone:Bool) (e:Ent):Int:=
 if e.family=0 then (if alone=true∧e.mask=z4∧okR (aq8 cmd ver says e) then 0 else 7)
 else if e.family≠2 then 4
 else if ver=1 then (if e.tag≠0∨e.mask≠z4∨e.next≠z4 then 5 else if e.metric < 1∨16 < e.metric then 6 else 0)
 else if ¬((az2 e.mask).2=true∧bo1 e.addr (az2 e.mask).1=true) then 7
 else if e.metric < 1∨16 < e.metric then 6 else 0
structure aE1 (e:Ent):Prop where
 fam:0≤e.family∧e.family≤65535
 tag:0≤e.tag∧e.tag≤65535
 addr:e.addr.length=4
 mask:e.mask.length=4
 next:e.next.length=4
 metric:0≤e.metric∧e.metric≤4294967295
theorem aN7 {s:Bs} {p n:Nat} (h:p+n≤s.length):(aa4 s p n).length=n:=by
 have:=aj4 (s:=s) (p:=p) (n:=n) (by omega) (by omega) (by omega)
 omega
theorem eP5 {s:Bs} (h:s.length=20):aE1 (cj2 s):=by
 have h2:∀ p:Nat,p+2≤20→0≤num (aa4 s p 2)∧num (aa4 s p 2)≤65535:=fun p hp=>by
  have:=bN1 (aa4 s p 2)
  have hl:(aa4 s p 2).length=2:=aN7 (n:=2) (by omega)
  rw [hl] at this; omega
 have h4:=bN1 (aa4 s 16 4)
 have hl:(aa4 s 16 4).length=4:=aN7 (p:=16) (n:=4) (by omega)
 rw [hl] at h4
 exact ⟨h2 0 (by omega),h2 2 (by omega),aN7 (p:=4) (n:=4) (by omega),aN7 (p:=8) (n:=4) (by omega),aN7 (p:=12) (n:=4) (by omega),by show 0≤num (aa4 s 16 4)∧_; exact ⟨h4.1,by show num (aa4 s 16 4)≤_; omega⟩⟩
end Go.VP
namespace Go.VP
open Go Go.VI
def cd6 (b:Bs):Int × Int:=
 if b.length < 4 then (b.length,2) else if ¬(bt b 0=1∨bt b 0=2) then (0,4) else if ¬(bt b 1=1∨bt b 1=2) then (1,4)
 else if ¬(bt b 2=0∧bt b 3=0) then (2,5) else if ((b.length:Int) - 4) % 20≠0 then (b.length,2) else if b.length=4 then (b.length,8) else if 504 < b.length then (504,8) else (0,0)
theorem eG4 {b:Bs} (h:(cd6 b).2=0):24≤b.length∧b.length≤504∧(bt b 0=1∨bt b 0=2)∧(bt b 1=1∨bt b 1=2)∧bt b 2=0∧bt b 3=0∧((b.length:Int) - 4) % 20=0:=by
 unfold cd6 at h
 split at h
 ·simp at h
 split at h
 ·simp at h
 split at h
 ·simp at h
 split at h
 ·simp at h
 split at h
 ·simp at h
 split at h
 ·simp at h
 split at h
 ·simp at h
 ·rename_i h1 h2 h3 h4 h5 h6 h7
  exact ⟨by omega,by omega,by omega,by omega,by omega,by omega,by omega⟩
theorem ef8 {b:Bs} (h:¬b.length < 4):∃ w x y z r,b=w::x::y::z::r:=by
 match b,h with
 | w::x::y::z::r,_=>exact ⟨w,x,y,z,r,rfl⟩
 | [],h=>simp at h
 | [_],h=>simp at h
 | [_,_],h=>simp at h
 | [_,_,_],h=>simp at h
def goR (f:Ent→Msg × Int) (b:Bs):Nat→Nat→List Msg→List Msg × Int × Int
 | 0,_,acc=>(acc,0,0)
 | k+1,at_,acc=>if (f (cj2 (aa4 b at_ 20))).2≠0 then ([],(at_:Int),(f (cj2 (aa4 b at_ 20))).2) else goR f b k (at_+20) (acc++[(f (cj2 (aa4 b at_ 20))).1])
noncomputable def rt (cmd ver:Int) (says:Bs) (alone:Bool) (e:Ent):Msg × Int:=(aq8 cmd ver says e,dW6 cmd ver says alone e)
theorem eX4:aU9≤100000:=Nat.le_of_ble_eq_true (by kernel_rfl)
def dr7 (b:Bs):Bool:=b.take 2==[255,255]
noncomputable def aT9 (b:Bs):List Msg × Int × Int:=
 if (cd6 b).2≠0 then ([],(cd6 b).1,(cd6 b).2)
 else if bt b 1=2∧dr7 (aa4 b 4 20)=true then
  (if b.length=24 then ([],24,8) else goR (rt (bt b 0) (bt b 1) ((aa4 b 4 20).drop 2) (decide (b.length=44))) b ((b.length - 24) / 20) 24 [])
 else goR (rt (bt b 0) (bt b 1) [] (decide (b.length=24))) b ((b.length - 4) / 20) 4 []
end Go.VP
namespace Go.VP
open Go Go.VI
theorem eV4 {x:Int} (h:0≤x):ae4 .i64 x 8=x / 256:=by
 unfold ae4
 rw [show (2:Int) ^ (min (8:Int).toNat IntKind.i64.bits)=256 by decide]
 exact Int.fdiv_eq_ediv_of_nonneg _ (by decide)
theorem dE3 {c:Nat}:∀ (i m:Nat) (x:Int) (acc:Bs),i≤acc.length→acc.length≤100→i < m→0≤x→aL8 c m x ((i:Int) - 1) acc=some ((be i x++acc.drop i,true,()),())
 | 0,m,x,acc,h1,h2,hm,hx=>by
  obtain ⟨m,rfl⟩:∃ k,m=k+1:=⟨m - 1,by omega⟩
  rw [aK0,ifn (by omega)]; simp [be]
 | i+1,m,x,acc,h1,h2,hm,hx=>by
  obtain ⟨m,rfl⟩:∃ k,m=k+1:=⟨m - 1,by omega⟩
  have e:(((i+1:Nat):Int) - 1)=(i:Int):=by omega
  rw [aK0,e,ifd (by omega),if_pos (by omega),Int.toNat_natCast,if_pos (by omega),w64 (by omega) (by omega),eV4 hx,dE3 i m (x / 256) _ (by simp; omega) (by simp; omega) (by omega) (by omega),wu8,be]
  have:(acc.set i (aa1 (x % 256))).drop i=aa1 (x % 256)::acc.drop (i+1):=by
   rw [List.drop_eq_getElem_cons (by simp; omega),List.getElem_set_self,List.drop_set_of_lt (by omega)]
  rw [this]; simp
theorem cT7 {n:Int} {k:Nat} (hn:IntKind.has .i64 n) (h1:1≤k) (h7:k≤7) (hf:ac5 n k=true):ak1 (n,(k:Int),())=some ((be k n,true,()),()):=by
 show bx5 fuel (n,(k:Int),())=_
 have h0:0≤n:=by unfold ac5 at hf; rw [decide_eq_true_eq] at hf; exact hf.1
 rw [co6,ap8 hn h1 h7,Option.bind_some,hf]
 dsimp only
 have hr:(k:Int)≤ah8:=by unfold ah8; omega
 rw [aj6,if_pos ⟨by omega,hr⟩,w64 (by omega) (by omega),Int.toNat_natCast,dE3 k fuel n _ (by simp) (by simp; omega) (ag7 (by omega)) h0]
 simp
def aK4 (e:Ent):Bs:=be 2 e.family++be 2 e.tag++e.addr++e.mask++e.next++be 4 e.metric
theorem en7 {n:Int} (h:0≤n∧n≤65535):ac5 n 2=true:=by unfold ac5; rw [decide_eq_true_eq]; omega
theorem eV5 {n:Int} (h:0≤n∧n≤4294967295):ac5 n 4=true:=by unfold ac5; rw [decide_eq_true_eq]; omega
theorem ex4 {e:Ent} (h:aE1 e):aM7 (e,())=some ((aK4 e,true,()),()):=by
 have h1:=h.addr; have h2:=h.mask; have h3:=h.next; have h4:=h.fam; have h5:=h.tag; have h6:=h.metric
 have hf:IntKind.has .i64 e.family:=has64.2 (by omega)
 have ht:IntKind.has .i64 e.tag:=has64.2 (by omega)
 have hm:IntKind.has .i64 e.metric:=has64.2 (by omega)
 have a1:=ap8 (k:=4) hm (by omega) (by omega)
 have a2:=ap8 (k:=2) hf (by omega) (by omega)
 have a3:=ap8 (k:=2) ht (by omega) (by omega)
 have b1:=cT7 (k:=2) hf (by omega) (by omega) (en7 h4)
 have b2:=cT7 (k:=2) ht (by omega) (by omega) (en7 h5)
 have b3:=cT7 (k:=4) hm (by omega) (by omega) (eV5 h6)
 rw [eV5 h6] at a1; rw [en7 h4] at a2; rw [en7 h5] at a3
 rw [show ((2:Nat):Int)=2 from rfl] at *
 rw [show ((4:Nat):Int)=4 from rfl] at *
 rw [du6,if_neg (by simp; omega),if_neg (by simp; omega),if_neg (by simp; omega),a1,Option.bind_some]
 dsimp only
 rw [aj6,a2,Option.bind_some]
 dsimp only
 rw [aj6,a3,Option.bind_some]
 dsimp only
 rw [aj6,b1,Option.bind_some,b2,Option.bind_some,b3,Option.bind_some]
 dsimp only
 have l2:=ab6 2
 have l4:=ab6 4
 rw [if_pos (af6 (by simp [l2])),if_pos (af6 (by simp [l2,h1])),if_pos (af6 (by simp [l2,h1,h2])),if_pos (af6 (by simp [l2,h1,h2,h3])),if_pos (af6 (by simp [l2,l4,h1,h2,h3]))]
 rfl
def ao9 (m:Msg):Ent:=⟨m.family,m.tag,m.prefix_,(if m.family=2∧m.ver=2 then at7 m.plen else z4),m.next,m.metric⟩
def ad5 (m:Msg):Bs:=aK4 (ao9 m)
theorem dy4 {m:Msg} (h:okR m):aE1 (ao9 m):=by
 obtain ⟨_,_,_,_,hp,hn,_,h⟩:=h
 refine ⟨?_,?_,hp,?_,hn,?_⟩
 ·show 0≤m.family∧m.family≤65535; omega
 ·show 0≤m.tag∧m.tag≤65535; omega
 ·unfold ao9; dsimp only; split
  ·exact dW4 _
  ·rfl
 ·show 0≤m.metric∧m.metric≤4294967295; omega
theorem bp2 {m:Msg} (h:okR m):(ad5 m).length=20:=by
 have g:=dy4 h
 unfold ad5 aK4
 have h1:=g.addr; have h2:=g.mask; have h3:=g.next
 simp [ab6,h1,h2,h3]
theorem eV6:an4 (4,())=some ((z4,()),()):=by
 rw [bV3,if_pos (by unfold ah8; decide)]; rfl
theorem eP6 {m:Msg} (h:okR m):bj0 (m,())=some ((ad5 m,()),()):=by
 have g:=ex4 (dy4 h)
 rw [dH9,eV6,Option.bind_some]
 refine ac8 (fun f2=>ac8 (fun v2=>?_) (fun v2=>?_)) (fun f2=>?_)
 ·have hp:0≤m.plen∧m.plen≤32:=by obtain ⟨_,_,_,_,_,_,_,h⟩:=h; omega
  rw [ex2 hp.1 hp.2,Option.bind_some]
  have e:ao9 m=⟨m.family,m.tag,m.prefix_,at7 m.plen,m.next,m.metric⟩:=by unfold ao9; rw [if_pos ⟨f2,v2⟩]
  rw [e] at g
  dsimp only
  rw [g,Option.bind_some,← e]; rfl
 ·have e:ao9 m=⟨m.family,m.tag,m.prefix_,z4,m.next,m.metric⟩:=by unfold ao9; rw [if_neg (fun c=>v2 c.2)]
  rw [e] at g
  dsimp only
  rw [g,Option.bind_some,← e]; rfl
 ·have e:ao9 m=⟨m.family,m.tag,m.prefix_,z4,m.next,m.metric⟩:=by unfold ao9; rw [if_neg (fun c=>f2 c.1)]
  rw [e] at g
  dsimp only
  rw [g,Option.bind_some,← e]; rfl
def bd9 (f m:Msg):Prop:=m.cmd=f.cmd∧m.ver=f.ver∧m.auth=f.auth∧m.family≠0∧f.family≠0
instance (f m:Msg):Decidable (bd9 f m):=by unfold bd9; infer_instance
def bc1 (f:Msg) (most:Int):List Msg→Nat→Bs→Bs × Int × Int
 | [],_,acc=>(acc,0,0)
 | m::r,i,acc=>if (i:Int)=most then ([],(i:Int),8) else if 0 < i∧¬bd9 f m then ([],(i:Int),7) else bc1 f most r (i+1) (acc++ad5 m)
theorem eV7 (f m:Msg):∃ b,aV1 (f,m,())=some ((b,()),())∧(b=true↔bd9 f m):=by
 rw [cU9]
 by_cases h1:m.cmd=f.cmd
 ·rw [if_pos (by simp [h1])]
  by_cases h2:m.ver=f.ver
  ·rw [if_pos (by simp [h2])]
   by_cases h3:m.auth=f.auth
   ·rw [if_pos (by simp [h3])]
    by_cases h4:m.family=0
    ·rw [if_neg (by simp [h4])]; exact ⟨_,rfl,by simp [bd9,h4]⟩
    ·rw [if_pos (by simp [h4])]; exact ⟨_,rfl,by simp [bd9,h1,h2,h3,h4]⟩
   ·rw [if_neg (by simpa using h3)]; exact ⟨_,rfl,by simp [bd9,h3]⟩
  ·rw [if_neg (by simpa using h2)]; exact ⟨_,rfl,by simp [bd9,h2]⟩
 ·rw [if_neg (by simpa using h1)]; exact ⟨_,rfl,by simp [bd9,h1]⟩
theorem ex5 {n:Nat} {l:List Msg} {f:Msg} {most:Int} (hf:l[0]?=some f) (hok:∀ m∈l,okR m) (hl:l.length≤1000):∀ (d m i:Nat) (acc:Bs),i+d=l.length→d < m→acc.length≤1000+20 * i→
  ax0 n m l most acc i=some (((bc1 f most (l.drop i) i acc).1,(bc1 f most (l.drop i) i acc).2.1,(bc1 f most (l.drop i) i acc).2.2,()),()):=by
 intro d
 induction d with
 | zero=>
  intro m i acc hd hm ha
  obtain ⟨m,rfl⟩:∃ k,m=k+1:=⟨m - 1,by omega⟩
  rw [bJ8,ifn (by omega),List.drop_eq_nil_of_le (by omega)]; rfl
 | succ d ih=>
  intro m i acc hd hm ha
  obtain ⟨m,rfl⟩:∃ k,m=k+1:=⟨m - 1,by omega⟩
  have hi:i < l.length:=by omega
  have ho:=hok _ (List.getElem_mem hi)
  have:=ih m (i+1) (acc++ad5 l[i]) (by omega) (by omega) (by simp [bp2 ho]; omega)
  rw [show ((i+1:Nat):Int)=(i:Int)+1 by omega] at this
  rw [bJ8,ifd (by omega),if_pos (by omega),Int.toNat_natCast,aj0 hi,List.drop_eq_getElem_cons hi,hf,Option.bind_some,eP6 ho,Option.bind_some,if_pos (ah7 (by rw [bp2 ho]; omega)),w64 (by omega) (by omega),this,bc1]
  refine ac8 (fun h=>?_) (fun h=>?_)
  ·rw [if_pos h]
  rw [if_neg h]
  obtain ⟨b,hb,hb'⟩:=eV7 f l[i]
  rw [hb,Option.bind_some]
  refine aN6 (fun h0=>?_) (fun h0=>?_)
  ·refine bN3 (fun hz=>?_) (fun hz=>?_)
   ·rw [if_pos ⟨by omega,by rw [← hb']; dsimp only at hz; rw [hz]; simp⟩]
   ·rw [if_neg (fun c=>c.2 (hb'.1 hz))]
  ·rw [if_neg (fun c=>h0 (by omega))]
open Classical in
noncomputable def bX7:List Msg→Nat→Option Nat
 | [],_=>none
 | m::r,i=>if okR m then bX7 r (i+1) else some i
def aK5 (f:Msg):Int:=if f.auth=[] then 25 else 24
def av9 (f:Msg):Bs:=[aa1 (f.cmd % 256),aa1 (f.ver % 256),0,0]++(if f.auth=[] then [] else [255,255]++f.auth)
noncomputable def aU0 (l:List Msg):Bs × Int × Int:=match bX7 l 0 with
 | some i=>([],(i:Int),1)
 | none=>match l with
  | []=>([],0,8)
  | f::_=>bc1 f (aK5 f) l 0 (av9 f)
theorem cR0:∀ {l:List Msg} {i:Nat},bX7 l i=none→∀ m∈l,okR m
 | [],_,_,m,hm=>by cases hm
 | x::r,i,h,m,hm=>by
  unfold bX7 at h
  split at h
  ·rename_i hx
   rcases List.mem_cons.1 hm with rfl | hm
   ·exact hx
   ·exact cR0 h m hm
  ·cases h
theorem ef9:∀ {l:List Msg} {i:Nat},(∀ m∈l,okR m)→bX7 l i=none
 | [],_,_=>rfl
 | x::r,i,h=>by
  unfold bX7; rw [if_pos (h x (by simp))]; exact ef9 (fun m hm=>h m (by simp [hm]))
theorem bX8 {f:Msg} (h:okR f):(av9 f).length=if f.auth=[] then 4 else 24:=by
 obtain ⟨_,_,_,_,_,_,ha,_⟩:=h
 unfold av9
 by_cases e:f.auth=[]
 ·rw [if_pos e,if_pos e]; rfl
 ·rw [if_neg e,if_neg e]
  have:f.auth.length=18:=by rcases ha with h | h; exact absurd h e; exact h.2
  simp [this]
theorem eV8 {l:List Msg} (g:∀ m∈l,RM m) (hl:l.length≤1000):bP5 (l,())=some (((aU0 l).1,(aU0 l).2.1,(aU0 l).2.2,()),()):=by
 show bP4 fuel (l,())=_
 rw [dn2]
 have main:∀ (d m i:Nat),i+d=l.length→d < m→bX7 l 0=bX7 (l.drop i) i→aV2 fuel m l i=some (((aU0 l).1,(aU0 l).2.1,(aU0 l).2.2,()),()):=by
  intro d
  induction d with
  | zero=>
   intro m i hd hm hb
   obtain ⟨m,rfl⟩:∃ k,m=k+1:=⟨m - 1,by omega⟩
   rw [List.drop_eq_nil_of_le (by omega)] at hb
   have hn:bX7 l 0=none:=hb
   have hok:=cR0 hn
   rw [bJ7,ifn (by omega)]
   cases l with
   | nil=>rfl
   | cons f r=>
    have hf:=hok f (by simp)
    have hl4:=bX8 hf
    have he:aU0 (f::r)=bc1 f (aK5 f) (f::r) 0 (av9 f):=by unfold aU0; rw [hn]
    rw [he,if_neg (by simp; omega)]
    simp only [List.getElem?_cons_zero,Option.bind_some]
    have L:=fun (most:Int) (acc:Bs) (h:acc.length≤1000)=>ex5 (n:=fuel) (f:=f) (most:=most) (l:=f::r) rfl hok hl (f::r).length fuel 0 acc (by omega) (ag7 (by omega)) (by omega)
    rw [dH8,wu8,wu8]
    by_cases ha:f.auth=[]
    ·rw [if_pos (by simp [ha]),Option.bind_some]
     have e1:av9 f=[aa1 (f.cmd % 256),aa1 (f.ver % 256),0,0]:=by unfold av9; rw [if_pos ha]; rfl
     have e2:aK5 f=25:=by unfold aK5; rw [if_pos ha]
     dsimp only
     rw [bd2,e1,e2]
     exact L 25 _ (by simp)
    ·have h18:f.auth.length=18:=by
      obtain ⟨_,_,_,_,_,_,ha',_⟩:=hf
      rcases ha' with h | h
      ·exact absurd h ha
      ·exact h.2
     rw [if_neg (by simp; omega),if_pos (af6 (by omega)),Option.bind_some]
     have e1:av9 f=[aa1 (f.cmd % 256),aa1 (f.ver % 256),0,0]++([255,255]++f.auth):=by unfold av9; rw [if_neg ha]
     have e2:aK5 f=24:=by unfold aK5; rw [if_neg ha]
     dsimp only
     rw [ift,if_pos (ah7 (by simp; omega)),e1,e2]
     exact L 24 _ (by simp; omega)
  | succ d ih=>
   intro m i hd hm hb
   obtain ⟨m,rfl⟩:∃ k,m=k+1:=⟨m - 1,by omega⟩
   have hi:i < l.length:=by omega
   rw [List.drop_eq_getElem_cons hi,bX7] at hb
   rw [bJ7,ifd (by omega),if_pos (by omega),Int.toNat_natCast,aj0 hi,eb8 (g _ (List.getElem_mem hi)),Option.bind_some]
   dsimp only
   by_cases ho:okR l[i]
   ·rw [if_pos ho] at hb
    have:=ih m (i+1) (by omega) (by omega) hb
    rw [aN5.2 ho,aj6,w64 (by omega) (by omega)]
    exact this
   ·rw [if_neg ho] at hb
    have:aT8 l[i]=false:=by cases e':aT8 l[i] with | false=>rfl | true=>exact absurd (aN5.1 e') ho
    rw [this,aS8]
    unfold aU0; rw [hb]
 exact main l.length fuel 0 (by omega) (ag7 (by omega)) rfl
end Go.VP
namespace Go.VP
open Go Go.VI
theorem eV9 {m:Msg} (g:ax8 m) (h:Few m):RM m:=by
 obtain ⟨g1,g2,g3,g4,g5,g6,g7,g8,g9,g10,g11,g12,g13,g14,g15,g16,g17,g18,g19,g20,g21,_⟩:=g
 exact ⟨g9,g8,by have:=h.list; omega,by have:=h.subs; omega⟩
theorem dy5 {P:Msg→Prop} {f:Ent→Msg × Int} {b:Bs} (hf:∀ e,P (f e).1):∀ (k at_:Nat) (acc:List Msg),(∀ m∈acc,P m)→∀ m∈(goR f b k at_ acc).1,P m
 | 0,_,acc,h=>h
 | k+1,at_,acc,h=>by
  rw [goR]
  split
  ·intro m hm; cases hm
  ·exact dy5 hf k (at_+20) _ (fun m hm=>by
    rcases List.mem_append.1 hm with hm | hm
    ·exact h m hm
    ·rw [List.mem_singleton] at hm; rw [hm]; exact hf _)
theorem en8 {P:Msg→Prop} {b:Bs} (hP:∀ c v s e,P (aq8 c v s e)):∀ m∈(aT9 b).1,P m:=by
 unfold aT9
 split
 ·intro m hm; cases hm
 split
 ·split
  ·intro m hm; cases hm
  ·exact dy5 (fun e=>hP _ _ _ e) _ _ _ (fun m hm=>by cases hm)
 ·exact dy5 (fun e=>hP _ _ _ e) _ _ _ (fun m hm=>by cases hm)
end Go.VP
namespace Go.VP
open Go Go.VI
theorem db5 (c v:Int) (s:Bs) (e:Ent):bareB (aq8 c v s e)=true:=by
 have:bareOf (aq8 c v s e)=some (aq8 c v s e):=by unfold bareOf; rw [if_pos (show (aq8 c v s e).kind=1 from rfl)]; rfl
 unfold bareB; rw [this]; exact aT0 _
theorem cq5 (s:Bs) (p q:Nat) (n m:Nat) (h:q=p+n):aa4 s p n++aa4 s q m=aa4 s p (n+m:Nat):=by
 subst h
 unfold aa4
 rw [show ((p:Int)+(n:Int)).toNat=p+n by omega,show (((p+n:Nat):Int)+(m:Int)).toNat=p+n+m by omega,show ((p:Int)+((n+m:Nat):Int)).toNat=p+n+m by omega,Int.toNat_natCast,Int.toNat_natCast]
 rw [List.drop_take,List.drop_take,List.drop_take,← List.drop_drop,show p+n - p=n by omega,show p+n+m - (p+n)=m by omega,show p+n+m - p=n+m by omega,List.take_add]
theorem eg0 {s:Bs} {p:Nat} (h:p+2≤s.length):be 2 (num (aa4 s p 2))=aa4 s p 2:=do6 2 _ (aN7 (n:=2) h)
theorem eP7 {s:Bs} {p:Nat} (h:p+4≤s.length):be 4 (num (aa4 s p 4))=aa4 s p 4:=do6 4 _ (aN7 (n:=4) h)
theorem ex6 {s:Bs} (h:s.length=20):aK4 (cj2 s)=s:=by
 unfold aK4 cj2
 dsimp only
 have a:=eg0 (s:=s) (p:=0) (by omega)
 have b:=eg0 (s:=s) (p:=2) (by omega)
 have c:=eP7 (s:=s) (p:=16) (by omega)
 rw [show ((0:Nat):Int)=0 from rfl] at a
 rw [show ((2:Nat):Int)=2 from rfl] at b
 rw [show ((16:Nat):Int)=16 from rfl] at c
 rw [a,b,c]
 have e1:aa4 s 0 2++aa4 s 2 2=aa4 s 0 4:=cq5 s 0 2 2 2 rfl
 have e2:aa4 s 0 4++aa4 s 4 4=aa4 s 0 8:=cq5 s 0 4 4 4 rfl
 have e3:aa4 s 0 8++aa4 s 8 4=aa4 s 0 12:=cq5 s 0 8 8 4 rfl
 have e4:aa4 s 0 12++aa4 s 12 4=aa4 s 0 16:=cq5 s 0 12 12 4 rfl
 have e5:aa4 s 0 16++aa4 s 16 4=aa4 s 0 20:=cq5 s 0 16 16 4 rfl
 have f:aa4 s 0 20=s:=by unfold aa4; simp [← h]
 rw [e1,e2,e3,e4,e5,f]
theorem en9 {c v:Int} {s:Bs} {al:Bool} {e:Ent} (h:aE1 e) (hc:c=1∨c=2) (hv:v=1∨v=2) (hs:s=[]∨(v=2∧s.length=18)) (he:dW6 c v s al e=0):okR (aq8 c v s e)∧ao9 (aq8 c v s e)=e∧(e.family=0→al=true):=by
 unfold dW6 at he
 by_cases f0:e.family=0
 ·rw [if_pos f0] at he
  split at he
  ·rename_i hh
   obtain ⟨ha,hm,ho⟩:=hh
   refine ⟨ho,?_,fun _=>ha⟩
   unfold ao9 aq8
   dsimp only
   rw [if_neg (by omega),← hm]
  ·simp at he
 rw [if_neg f0] at he
 split at he
 ·simp at he
 rename_i f2
 have f2:e.family=2:=by omega
 have h1:=h.tag
 by_cases v1:v=1
 ·rw [if_pos v1] at he
  split at he
  ·simp at he
  rename_i hz
  split at he
  ·simp at he
  rename_i hm
  have hz1:e.tag=0:=by grind
  have hz2:e.mask=z4:=by grind
  have hz3:e.next=z4:=by grind
  refine ⟨⟨rfl,db5 ..,hc,hv,h.addr,h.next,hs,.inr ⟨f2,?_,?_,.inl ⟨v1,hz1,?_,hz3⟩⟩⟩,?_,fun c=>absurd c f0⟩
  ·show 1≤e.metric; omega
  ·show e.metric≤16; omega
  ·show (if e.family=0 then (0:Int) else if v=1 then 32 else (az2 e.mask).1)=32
   rw [if_neg f0,if_pos v1]
  ·unfold ao9 aq8
   dsimp only
   rw [if_neg (by omega),← hz2]
 ·rw [if_neg v1] at he
  split at he
  ·simp at he
  rename_i hp
  split at he
  ·simp at he
  rename_i hm
  have hp1:(az2 e.mask).2=true:=by grind
  have hp2:bo1 e.addr (az2 e.mask).1=true:=by grind
  have hk:=eG3 hp1
  have hpl:(aq8 c v s e).plen=(az2 e.mask).1:=by
   show (if e.family=0 then (0:Int) else if v=1 then 32 else (az2 e.mask).1)=_
   rw [if_neg f0,if_neg v1]
  refine ⟨⟨rfl,db5 ..,hc,hv,h.addr,h.next,hs,.inr ⟨f2,?_,?_,.inr ⟨?_,?_,?_,?_,?_,?_⟩⟩⟩,?_,fun c=>absurd c f0⟩
  ·show 1≤e.metric; omega
  ·show e.metric≤16; omega
  ·show v=2; omega
  ·show 0≤e.tag; omega
  ·show e.tag≤65535; omega
  ·rw [hpl]; omega
  ·rw [hpl]; omega
  ·rw [hpl]; exact hp2
  ·unfold ao9
   rw [hpl,if_pos (show (aq8 c v s e).family=2∧(aq8 c v s e).ver=2 from ⟨f2,by show v=2; omega⟩),hk.2.2]; rfl
theorem dy6 {c v:Int} {s:Bs} {al:Bool} {b:Bs} (hc:c=1∨c=2) (hv:v=1∨v=2) (hs:s=[]∨(v=2∧s.length=18)):∀ (k at_:Nat) (acc:List Msg),at_+20 * k=b.length→(goR (rt c v s al) b k at_ acc).2.2=0→
  ∃ r,(goR (rt c v s al) b k at_ acc)=(acc++r,0,0)∧r.length=k∧(∀ m∈r,okR m∧m.cmd=c∧m.ver=v∧m.auth=s∧(m.family=0→al=true))∧r.flatMap ad5=b.drop at_
 | 0,at_,acc,h,_=>⟨[],by simp [goR],rfl,by simp,by simp; omega⟩
 | k+1,at_,acc,h,he=>by
  have hl:(aa4 b at_ 20).length=20:=aN7 (n:=20) (by omega)
  rw [goR] at he ⊢
  by_cases h0:(rt c v s al (cj2 (aa4 b at_ 20))).2=0
  ·rw [if_neg (fun c=>c h0)] at he ⊢
   obtain ⟨r,h1,h2,h3,h4⟩:=dy6 hc hv hs k (at_+20) _ (by omega) he
   obtain ⟨o1,o2,o3⟩:=en9 (al:=al) (eP5 hl) hc hv hs h0
   refine ⟨aq8 c v s (cj2 (aa4 b at_ 20))::r,by rw [h1]; simp [rt],by simp [h2],fun m hm=>?_,?_⟩
   ·rcases List.mem_cons.1 hm with rfl | hm
    ·exact ⟨o1,rfl,rfl,rfl,o3⟩
    ·exact h3 m hm
   ·rw [List.flatMap_cons,h4]
    unfold ad5
    rw [o2,ex6 hl]
    have:aa4 b at_ 20=(b.drop at_).take 20:=by
     unfold aa4
     rw [show ((at_:Int)+20).toNat=at_+20 by omega,Int.toNat_natCast,List.drop_take,show at_+20 - at_=20 by omega]
    rw [this,← List.drop_drop,List.take_append_drop]
  ·rw [if_pos h0] at he; exact absurd he h0
theorem dg5 {f:Msg} {most:Int}:∀ (l:List Msg) (i:Nat) (acc:Bs),(i+l.length:Nat)≤most→(∀ (j:Nat) (h:j < l.length),0 < i+j→bd9 f l[j])→bc1 f most l i acc=(acc++l.flatMap ad5,0,0)
 | [],i,acc,_,_=>by simp [bc1]
 | m::r,i,acc,h,ht=>by
  rw [bc1,if_neg (by simp at h; omega),if_neg (fun c=>c.2 (ht 0 (by simp) (by omega))),dg5 r (i+1) _ (by simp at h ⊢; omega) (fun j hj _=>by
   have:=ht (j+1) (by simp; omega) (by omega)
   simpa using this)]
  simp
end Go.VP
namespace Go.VP
open Go Go.VI
theorem eo0 {b:Bs} (h:(aT9 b).2.2=0):∃ r,aT9 b=(r,0,0)∧1≤r.length∧r.length≤25∧(∀ m∈r,okR m)∧aU0 r=(b,0,0):=by
 unfold aT9 at h ⊢
 by_cases h0:(cd6 b).2=0
 rotate_left
 ·rw [if_pos h0] at h; exact absurd h h0
 obtain ⟨k1,k2,k3,k4,k5,k6,k7⟩:=eG4 h0
 rw [if_neg (fun c=>c h0)] at h ⊢
 obtain ⟨w,x,y,z,t,rfl⟩:=ef8 (b:=b) (by omega)
 have e0:bt (w::x::y::z::t) 0=(w.toNat:Int):=rfl
 have e1:bt (w::x::y::z::t) 1=(x.toNat:Int):=rfl
 have hy:y=0:=cS7 (show (y.toNat:Int)=((0:UInt8).toNat:Int) from k5)
 have hz:z=0:=cS7 (show (z.toNat:Int)=((0:UInt8).toNat:Int) from k6)
 subst hy; subst hz
 have fin:∀ (r:List Msg) (s:Bs) (al:Bool) (at_:Nat),(s=[]∨(bt (w::x::0::0::t) 1=2∧s.length=18))→(al=true→r.length=1)→1≤r.length→r.length+(if s=[] then 0 else 1)≤25→
   (∀ m∈r,okR m∧m.cmd=bt (w::x::0::0::t) 0∧m.ver=bt (w::x::0::0::t) 1∧m.auth=s∧(m.family=0→al=true))→r.flatMap ad5=(w::x::0::0::t).drop at_→[w,x,0,0]++(if s=[] then [] else [255,255]++s)=(w::x::0::0::t).take at_→aU0 r=(w::x::0::0::t,0,0):=by
  intro r s al at_ hs hal hr1 hr2 hm hfl htk
  unfold aU0
  rw [ef9 (fun m h=>(hm m h).1)]
  cases r with
  | nil=>simp at hr1
  | cons f r=>
   obtain ⟨f1,f2,f3,f4,f5⟩:=hm f (by simp)
   dsimp only
   have hmo:(((f::r).length:Nat):Int)≤aK5 f:=by
    unfold aK5
    rw [f4]
    by_cases hs0:s=[]
    ·rw [if_pos hs0] at hr2 ⊢; omega
    ·rw [if_neg hs0] at hr2 ⊢; omega
   rw [dg5 (f::r) 0 _ (by simpa using hmo) (fun j hj h0=>?_)]
   ·have:av9 f=(w::x::0::0::t).take at_:=by
     rw [← htk]
     unfold av9
     rw [f2,f3,f4,e0,e1,aB9 (by omega),aB9 (by omega),ax9,ax9]
    rw [this,hfl,List.take_append_drop]
   ·obtain ⟨g1,g2,g3,g4,g5⟩:=hm ((f::r)[j]) (List.getElem_mem hj)
    have nal:¬al=true:=fun c=>by have:=hal c; omega
    exact ⟨by rw [g2,f2],by rw [g3,f3],by rw [g4,f4],fun c=>nal (g5 c),fun c=>nal (f5 c)⟩
 generalize hB:(w::x::0::0::t)=B at *
 have hl:(aa4 B 4 20).length=20:=aN7 (p:=4) (n:=20) (by omega)
 have tk4:B.take 4=[w,x,0,0]:=by rw [← hB]; rfl
 by_cases h1:bt B 1=2∧dr7 (aa4 B 4 20)=true
 ·rw [if_pos h1] at h ⊢
  by_cases h2:B.length=24
  ·rw [if_pos h2] at h; simp at h
  rw [if_neg h2] at h ⊢
  have hs:((aa4 B 4 20).drop 2).length=18:=by simp [hl]
  obtain ⟨r,r1,r2,r3,r4⟩:=dy6 k3 k4 (.inr ⟨h1.1,hs⟩) ((B.length - 24) / 20) 24 [] (by omega) h
  rw [r1]
  refine ⟨r,by simp,by omega,by omega,fun m hm=>(r3 m hm).1,fin r _ _ 24 (.inr ⟨h1.1,hs⟩) (fun c=>by simp at c; omega) (by omega) (by split <;> omega) r3 r4 ?_⟩
  have hne:¬((aa4 B 4 20).drop 2=[]):=fun c=>by rw [c] at hs; simp at hs
  rw [if_neg hne,← tk4]
  have h2:(aa4 B 4 20).take 2=[255,255]:=by have:=h1.2; unfold dr7 at this; simpa using this
  rw [← h2,List.take_append_drop]
  have:aa4 B 4 20=(B.take 24).drop 4:=rfl
  rw [this]
  have:=List.take_append_drop 4 (B.take 24)
  rw [List.take_take,show min 4 24=4 by decide] at this
  exact this
 ·rw [if_neg h1] at h ⊢
  obtain ⟨r,r1,r2,r3,r4⟩:=dy6 k3 k4 (.inl rfl) ((B.length - 4) / 20) 4 [] (by omega) h
  rw [r1]
  exact ⟨r,by simp,by omega,by omega,fun m hm=>(r3 m hm).1,fin r _ _ 4 (.inl rfl) (fun c=>by simp at c; omega) (by omega) (by simp; omega) r3 r4 (by rw [if_pos rfl,tk4]; rfl)⟩
end Go.VP
namespace Go.VP
open Go Go.VI
theorem dW7 {f:Msg} {most:Int}:∀ (l:List Msg) (i:Nat) (acc:Bs),(i:Int)≤most→(bc1 f most l i acc).2.2=0→((i+l.length:Nat):Int)≤most∧(∀ (j:Nat) (h:j < l.length),0 < i+j→bd9 f l[j])
 | [],i,acc,hi,h=>⟨by simpa using hi,fun j hj=>by simp at hj⟩
 | m::r,i,acc,hi,h=>by
  rw [bc1] at h
  by_cases h1:(i:Int)=most
  ·rw [if_pos h1] at h; simp at h
  ·rw [if_neg h1] at h
   by_cases h2:0 < i∧¬bd9 f m
   ·rw [if_pos h2] at h; simp at h
   ·rw [if_neg h2] at h
    obtain ⟨a,b⟩:=dW7 r (i+1) _ (by omega) h
    refine ⟨by simp only [List.length_cons]; omega,fun j hj h0=>?_⟩
    cases j with
    | zero=>
     show bd9 f m
     exact Classical.byContradiction fun c=>h2 ⟨by omega,c⟩
    | succ j=>
     have:=b j (by simpa using hj) (by omega)
     simpa using this
theorem dW8 {n:Int} (h:0≤n∧n≤65535):num (be 2 n)=n:=bV5 2 n h.1 (by omega)
theorem eP8 {n:Int} (h:0≤n∧n≤4294967295):num (be 4 n)=n:=bV5 4 n h.1 (by omega)
theorem cq6 (a m z:Bs) (p n:Int) (hp:p=a.length) (hn:n=m.length):aa4 (a++(m++z)) p n=m:=by
 subst hp; subst hn
 unfold aa4
 rw [show ((a.length:Int)+(m.length:Int)).toNat=a.length+m.length by omega,Int.toNat_natCast,← List.append_assoc,List.take_left' (by simp),List.drop_left' rfl]
theorem ex7 {e:Ent} (h:aE1 e):cj2 (aK4 e)=e:=by
 obtain ⟨a,b,c,d,f,g⟩:=e
 have h1:=h.addr; have h2:=h.mask; have h3:=h.next; have h4:=h.fam; have h5:=h.tag; have h6:=h.metric
 dsimp only at h1 h2 h3 h4 h5 h6
 have l2:=ab6 2
 have l4:=ab6 4
 have c1:aa4 (aK4 ⟨a,b,c,d,f,g⟩) 0 2=be 2 a:=by
  have:=cq6 [] (be 2 a) (be 2 b++(c++(d++(f++be 4 g)))) 0 2 rfl (by rw [l2]; rfl)
  rw [← this]; unfold aK4; simp only [List.append_assoc,List.nil_append]
 have c2:aa4 (aK4 ⟨a,b,c,d,f,g⟩) 2 2=be 2 b:=by
  have:=cq6 (be 2 a) (be 2 b) (c++(d++(f++be 4 g))) 2 2 (by rw [l2]; rfl) (by rw [l2]; rfl)
  unfold aK4; simp only [List.append_assoc] at this ⊢; exact this
 have c3:aa4 (aK4 ⟨a,b,c,d,f,g⟩) 4 4=c:=by
  have:=cq6 (be 2 a++be 2 b) c (d++(f++be 4 g)) 4 4 (by simp [l2]) (by rw [h1]; rfl)
  unfold aK4; simp only [List.append_assoc] at this ⊢; exact this
 have c4:aa4 (aK4 ⟨a,b,c,d,f,g⟩) 8 4=d:=by
  have:=cq6 (be 2 a++be 2 b++c) d (f++be 4 g) 8 4 (by simp [l2,h1]) (by rw [h2]; rfl)
  unfold aK4; simp only [List.append_assoc] at this ⊢; exact this
 have c5:aa4 (aK4 ⟨a,b,c,d,f,g⟩) 12 4=f:=by
  have:=cq6 (be 2 a++be 2 b++c++d) f (be 4 g) 12 4 (by simp [l2,h1,h2]) (by rw [h3]; rfl)
  unfold aK4; simp only [List.append_assoc] at this ⊢; exact this
 have c6:aa4 (aK4 ⟨a,b,c,d,f,g⟩) 16 4=be 4 g:=by
  have:=cq6 (be 2 a++be 2 b++c++d++f) (be 4 g) [] 16 4 (by simp [l2,h1,h2,h3]) (by rw [l4]; rfl)
  rw [← this]; unfold aK4; simp only [List.append_assoc,List.append_nil]
 unfold cj2
 rw [c1,c2,c3,c4,c5,c6,dW8 h4,dW8 h5,eP8 h6]
theorem ex8 {m:Msg} (h1:m.kind=1) (h:bareB m=true):m=⟨1,m.cmd,m.ver,m.auth,m.family,0,m.prefix_,m.plen,m.tag,m.next,m.metric,[],0,0,0,0,0,0,0,[],[],[],0,[],[]⟩:=by
 have hb:bareOf m=some ⟨m.kind,m.cmd,m.ver,m.auth,m.family,0,m.prefix_,m.plen,m.tag,m.next,m.metric,[],0,0,0,0,0,0,0,[],[],[],0,[],[]⟩:=by unfold bareOf; rw [if_pos h1]
 unfold bareB at h
 rw [hb] at h
 have:=dB9.1 h
 rw [h1] at this
 exact this
theorem eo1 {m:Msg} {al:Bool} (h:okR m) (ha:m.family=0→al=true):rt m.cmd m.ver m.auth al (ao9 m)=(m,0):=by
 have hb:=ex8 h.1 h.2.1
 have ho:=h
 obtain ⟨_,_,hc,hv,hp,hn,hau,hx⟩:=h
 have hM:aq8 m.cmd m.ver m.auth (ao9 m)=m:=by
  have hpl:(if (ao9 m).family=0 then (0:Int) else if m.ver=1 then 32 else (az2 (ao9 m).mask).1)=m.plen:=by
   show (if m.family=0 then (0:Int) else if m.ver=1 then 32 else (az2 (if m.family=2∧m.ver=2 then at7 m.plen else z4)).1)=m.plen
   rcases hx with ⟨f0,_,_,p0,_⟩ | ⟨f2,_,_,⟨v1,_,p32,_⟩ | ⟨v2,_,_,p1,p2,_⟩⟩
   ·rw [if_pos f0,p0]
   ·rw [if_neg (by omega),if_pos v1,p32]
   ·rw [if_neg (by omega),if_neg (by omega),if_pos ⟨f2,v2⟩,db4 p1 p2]
  unfold aq8
  rw [hpl]
  exact hb.symm
 unfold rt
 rw [hM]
 have:dW6 m.cmd m.ver m.auth al (ao9 m)=0:=by
  unfold dW6
  rw [hM]
  rcases hx with ⟨f0,_,_,p0,_⟩ | ⟨f2,m1,m2,⟨v1,t0,p32,nz⟩ | ⟨v2,_,_,p1,p2,hcl⟩⟩
  ·rw [if_pos (show (ao9 m).family=0 from f0),if_pos ⟨ha f0,by show (if m.family=2∧m.ver=2 then at7 m.plen else z4)=z4; rw [if_neg (by omega)],ho⟩]
  ·have e1:(ao9 m).mask=z4:=by show (if m.family=2∧m.ver=2 then at7 m.plen else z4)=z4; rw [if_neg (by omega)]
   rw [if_neg (show ¬(ao9 m).family=0 by show ¬m.family=0; omega),if_neg (show ¬(ao9 m).family≠2 by show ¬m.family≠2; omega),if_pos v1,if_neg (by rintro (c | c | c); exact c t0; exact c e1; exact c nz),if_neg (show ¬((ao9 m).metric < 1∨16 < (ao9 m).metric) by show ¬(m.metric < 1∨16 < m.metric); omega)]
  ·have e1:(ao9 m).mask=at7 m.plen:=by show (if m.family=2∧m.ver=2 then at7 m.plen else z4)=_; rw [if_pos ⟨f2,v2⟩]
   rw [if_neg (show ¬(ao9 m).family=0 by show ¬m.family=0; omega),if_neg (show ¬(ao9 m).family≠2 by show ¬m.family≠2; omega),if_neg (by omega),e1,db4 p1 p2,if_neg (fun c=>c ⟨rfl,hcl⟩),if_neg (show ¬((ao9 m).metric < 1∨16 < (ao9 m).metric) by show ¬(m.metric < 1∨16 < m.metric); omega)]
 rw [this]
theorem go_back {c v:Int} {s:Bs} {al:Bool} {b:Bs}:∀ (l:List Msg) (at_:Nat) (acc:List Msg),(∀ m∈l,okR m∧m.cmd=c∧m.ver=v∧m.auth=s∧(m.family=0→al=true))→b.drop at_=l.flatMap ad5→goR (rt c v s al) b l.length at_ acc=(acc++l,0,0)
 | [],at_,acc,_,_=>by simp [goR]
 | m::r,at_,acc,hm,hd=>by
  obtain ⟨h1,h2,h3,h4,h5⟩:=hm m (by simp)
  have hl:=bp2 h1
  rw [List.flatMap_cons] at hd
  have hcut:aa4 b at_ 20=ad5 m:=by
   unfold aa4
   rw [show ((at_:Int)+20).toNat=at_+20 by omega,Int.toNat_natCast,List.drop_take,show at_+20 - at_=20 by omega,hd,List.take_left' hl]
  have hn:b.drop (at_+20)=r.flatMap ad5:=by rw [← List.drop_drop,hd,List.drop_left' hl]
  have hr:=eo1 (al:=al) h1 h5
  rw [h2,h3,h4] at hr
  rw [List.length_cons,goR,hcut]
  unfold ad5
  rw [ex7 (dy4 h1),hr,if_neg (by simp),go_back r (at_+20) _ (fun x hx=>hm x (by simp [hx])) hn]
  simp
theorem dg6:∀ {l:List Msg},(∀ m∈l,okR m)→(l.flatMap ad5).length=20 * l.length
 | [],_=>rfl
 | m::r,h=>by
  rw [List.flatMap_cons,List.length_append,bp2 (h m (by simp)),dg6 (fun x hx=>h x (by simp [hx])),List.length_cons]; omega
theorem dW9 {b:Bs} (k1:24≤b.length) (k2:b.length≤504) (k3:bt b 0=1∨bt b 0=2) (k4:bt b 1=1∨bt b 1=2) (k5:bt b 2=0∧bt b 3=0) (k7:((b.length:Int) - 4) % 20=0):cd6 b=(0,0):=by
 unfold cd6
 rw [if_neg (by omega),if_neg (fun c=>c k3),if_neg (fun c=>c k4),if_neg (fun c=>c k5),if_neg (by omega),if_neg (by omega),if_neg (by omega)]
theorem eo2 {f:Msg} {r:List Msg} (hok:∀ m∈f::r,okR m) (ht:∀ m∈r,bd9 f m) (hfam:f.family=0→r=[]) (hlen:(((f::r).length:Nat):Int)≤aK5 f):aT9 (av9 f++(f::r).flatMap ad5)=(f::r,0,0):=by
 have hf:=hok f (by simp)
 have hl:=bX8 hf
 have hfl:=dg6 hok
 have hfo:=hf
 obtain ⟨_,_,hc,hv,_,_,hau,hx⟩:=hf
 have hmem:∀ al:Bool,(r=[]→al=true)→∀ m∈f::r,okR m∧m.cmd=f.cmd∧m.ver=f.ver∧m.auth=f.auth∧(m.family=0→al=true):=fun al hal m hm=>by
  refine ⟨hok m hm,?_⟩
  rcases List.mem_cons.1 hm with rfl | hm
  ·exact ⟨rfl,rfl,rfl,fun c=>hal (hfam c)⟩
  ·obtain ⟨t1,t2,t3,t4,_⟩:=ht m hm
   exact ⟨t1,t2,t3,fun c=>absurd c t4⟩
 have ub:∀ x:Int,x=1∨x=2→((aa1 (x % 256)).toNat:Int)=x:=fun x hx=>by rw [ah0]; omega
 have hline:∃ p q t,ad5 f=p::q::t∧¬(p=255):=by
  have:be 2 f.family=[0,0]∨be 2 f.family=[0,2]:=by
   rcases hx with ⟨f0,_⟩ | ⟨f2,_⟩
   ·rw [f0]; exact .inl rfl
   ·rw [f2]; exact .inr rfl
  unfold ad5 aK4 ao9
  dsimp only
  rcases this with e | e <;> rw [e] <;> exact ⟨_,_,_,rfl,by decide⟩
 by_cases ha:f.auth=[]
 ·have hE:av9 f=[aa1 (f.cmd % 256),aa1 (f.ver % 256),0,0]:=by unfold av9; rw [if_pos ha]; rfl
  rw [if_pos ha] at hl
  generalize hX:(f::r).flatMap ad5=X at *
  have hb:av9 f++X=aa1 (f.cmd % 256)::aa1 (f.ver % 256)::0::0::X:=by rw [hE]; rfl
  rw [hb]
  have b0:bt (aa1 (f.cmd % 256)::aa1 (f.ver % 256)::0::0::X) 0=f.cmd:=ub _ hc
  have b1:bt (aa1 (f.cmd % 256)::aa1 (f.ver % 256)::0::0::X) 1=f.ver:=ub _ hv
  have b2:bt (aa1 (f.cmd % 256)::aa1 (f.ver % 256)::0::0::X) 2=0:=rfl
  have b3:bt (aa1 (f.cmd % 256)::aa1 (f.ver % 256)::0::0::X) 3=0:=rfl
  have dr:(aa1 (f.cmd % 256)::aa1 (f.ver % 256)::0::0::X).drop 4=X:=rfl
  have hL:(aa1 (f.cmd % 256)::aa1 (f.ver % 256)::0::0::X).length=4+20 * (f::r).length:=by simp only [List.length_cons] at hfl ⊢; omega
  have hm25:(f::r).length≤25:=by unfold aK5 at hlen; rw [if_pos ha] at hlen; omega
  have h1:1≤(f::r).length:=by simp
  have hna:¬dr7 (aa4 (aa1 (f.cmd % 256)::aa1 (f.ver % 256)::0::0::X) 4 20)=true:=by
   have e:aa4 (aa1 (f.cmd % 256)::aa1 (f.ver % 256)::0::0::X) 4 20=X.take 20:=by
    show ((aa1 (f.cmd % 256)::aa1 (f.ver % 256)::0::0::X).take 24).drop 4=X.take 20
    rfl
   rw [e]
   obtain ⟨p,q,t,e1,e2⟩:=hline
   have:X=p::q::(t++r.flatMap ad5):=by rw [← hX,List.flatMap_cons,e1]; rfl
   rw [this]
   simp [dr7,e2]
  generalize hB:aa1 (f.cmd % 256)::aa1 (f.ver % 256)::0::0::X=B at *
  unfold aT9
  rw [dW9 (by omega) (by omega) (by rw [b0]; exact hc) (by rw [b1]; exact hv) ⟨b2,b3⟩ (by omega),if_neg (by simp),if_neg (fun c=>hna c.2),show (B.length - 4) / 20=(f::r).length by omega,b0,b1]
  have:=go_back (c:=f.cmd) (v:=f.ver) (s:=[]) (al:=decide (B.length=24)) (b:=B) (f::r) 4 [] (by have:=hmem (decide (B.length=24)) (fun c=>by rw [c] at hL; simp at hL; simp; omega); rw [ha] at this; exact this) (by rw [dr,hX])
  rw [this]; rfl
 ·have h18:f.ver=2∧f.auth.length=18:=by rcases hau with h | h; exact absurd h ha; exact h
  have hE:av9 f=[aa1 (f.cmd % 256),aa1 (f.ver % 256),0,0]++([255,255]++f.auth):=by unfold av9; rw [if_neg ha]
  rw [if_neg ha] at hl
  generalize hX:(f::r).flatMap ad5=X at *
  have hb:av9 f++X=aa1 (f.cmd % 256)::aa1 (f.ver % 256)::0::0::(([255,255]++f.auth)++X):=by rw [hE]; rfl
  have dr:(av9 f++X).drop 24=X:=List.drop_left' hl
  have hL:(av9 f++X).length=24+20 * (f::r).length:=by rw [List.length_append,hl,hfl]
  rw [hb] at dr hL ⊢
  generalize hY:([255,255]++f.auth)++X=Y at *
  have b0:bt (aa1 (f.cmd % 256)::aa1 (f.ver % 256)::0::0::Y) 0=f.cmd:=ub _ hc
  have b1:bt (aa1 (f.cmd % 256)::aa1 (f.ver % 256)::0::0::Y) 1=f.ver:=ub _ hv
  have b2:bt (aa1 (f.cmd % 256)::aa1 (f.ver % 256)::0::0::Y) 2=0:=rfl
  have b3:bt (aa1 (f.cmd % 256)::aa1 (f.ver % 256)::0::0::Y) 3=0:=rfl
  have hm24:(f::r).length≤24:=by unfold aK5 at hlen; rw [if_neg ha] at hlen; omega
  have h1:1≤(f::r).length:=by simp
  have e:aa4 (aa1 (f.cmd % 256)::aa1 (f.ver % 256)::0::0::Y) 4 20=[255,255]++f.auth:=by
   show Y.take 20=_
   rw [← hY,List.take_left' (by simp [h18.2])]
  generalize hB:aa1 (f.cmd % 256)::aa1 (f.ver % 256)::0::0::Y=B at *
  unfold aT9
  rw [dW9 (by omega) (by omega) (by rw [b0]; exact hc) (by rw [b1]; exact hv) ⟨b2,b3⟩ (by omega),if_neg (by simp),e,if_pos ⟨by rw [b1]; exact h18.1,rfl⟩,if_neg (by omega),show (B.length - 24) / 20=(f::r).length by omega,b0,b1,show (([255,255]:Bs)++f.auth).drop 2=f.auth from rfl]
  have:=go_back (c:=f.cmd) (v:=f.ver) (s:=f.auth) (al:=decide (B.length=44)) (b:=B) (f::r) 24 [] (hmem _ (fun c=>by rw [c] at hL; simp at hL; simp; omega)) (by rw [dr,hX])
  rw [this]; rfl
end Go.VP
namespace Go.VP
open Go Go.VI
def aP3 (l:List Sub):Bool:=l.all (aX5 0 255)
def cj3 (l:List Sub):Prop:=∀ y∈l,0≤y.type_∧y.type_≤255∧y.data.length≤255
theorem ap6 {l:List Sub}:aP3 l=true↔cj3 l:=by simp [aP3,aX5,cj3]
theorem cd7 {l:List Sub} (hl:l.length≤1000000000):aC8 (l,())=some ((aP3 l,()),()):=by
 rw [du8,ed8 hl]; rfl
theorem u8t {y:Sub} (h:0≤y.type_∧y.type_≤255∧y.data.length≤255):aa1 (IntKind.wrap .u8 y.type_)=aa1 y.type_∧aa1 (IntKind.wrap .u8 (y.data.length:Int))=aa1 y.data.length:=by
 rw [wu8,wu8,aB9 h.1,aB9 (by omega)]; exact ⟨rfl,rfl⟩
theorem ex9 {l:List Sub} {n:Nat} (hr:cj3 l) (h1:l.length≤1000000):∀ (d m i:Nat) (acc:Bs),i+d=l.length→d < m→acc.length≤257 * i→
  bx9 n m l acc i=some ((acc++ab3 (l.drop i),true,()),()):=by
 intro d
 induction d with
 | zero=>
  intro m i acc hd hm ha
  obtain ⟨m,rfl⟩:∃ k,m=k+1:=⟨m - 1,by omega⟩
  rw [co8,ifn (by omega),List.drop_eq_nil_of_le (by omega),ab3,List.append_nil]
 | succ d ih=>
  intro m i acc hd hm ha
  obtain ⟨m,rfl⟩:∃ k,m=k+1:=⟨m - 1,by omega⟩
  have hlt:i < l.length:=by omega
  have hy:=hr l[i] (List.getElem_mem hlt)
  have:=ih m (i+1) (acc++[aa1 l[i].type_,aa1 l[i].data.length]++l[i].data) (by omega) (by omega) (by simp; omega)
  rw [show ((i+1:Nat):Int)=(i:Int)+1 by omega] at this
  rw [co8,ifd (by omega),if_pos (by omega),Int.toNat_natCast,aj0 hlt,(u8t hy).1,(u8t hy).2,if_pos (ah7 (by simp; omega)),if_pos (ah7 (by simp; omega)),w64 (by omega) (by omega),this,List.drop_eq_getElem_cons hlt,ab3]
  simp
def dX0 (l:List Sub):Bs × Bool:=if aP3 l=true then (ab3 l,true) else ([],false)
theorem dy7 {l:List Sub} (h:aP3 l=true):dX0 l=(ab3 l,true):=by unfold dX0; rw [if_pos h]
theorem dy8 {l:List Sub} (hl:az5 l) (h1:l.length≤1000000):bA0 (l,())=some (((dX0 l).1,(dX0 l).2,()),()):=by
 show cH7 fuel _=_
 have hs:=de0 hl
 rw [dR4,cd7 hl.1,Option.bind_some]
 unfold dX0
 dsimp only
 by_cases h:aP3 l=true
 ·have:=ex9 (n:=fuel) (ap6.1 h) h1 l.length fuel 0 [] (by omega) (ag7 (by omega)) (by simp)
  rw [show ((0:Nat):Int)=0 from rfl] at this
  rw [h,aj6,dS4 hl,Option.bind_some,if_pos (show 0≤ak4 l∧ak4 l≤ah8 by unfold ah8; omega),this,ift]
  simp
 ·rw [Bool.not_eq_true] at h
  rw [h,aS8,bd2]
def goE (s:Bs):Nat→Nat→List Sub→List Sub × Int × Int
 | 0,_,acc=>(acc,0,0)
 | d+1,p,acc=>
  if p < s.length then
   if (s.length:Int) < p+2+bt s (p+1) then ([],p,2)
   else goE s d (p+2+(bt s (p+1)).toNat) (acc++[⟨bt s p,aa4 s (p+2) (bt s (p+1))⟩])
  else (acc,0,0)
def at2 (s:Bs):List Sub × Int × Int:=goE s (s.length+1) 0 []
end Go.VP
namespace Go.VP
open Go Go.VI
theorem cd8 (b:Bs) (p k:Nat):aa4 b p (k:Int)=(b.drop p).take k:=by
 unfold aa4
 rw [show ((p:Int)+(k:Int)).toNat=p+k by omega,Int.toNat_natCast,List.drop_take]
 congr 1
 omega
theorem ey0 {s:Bs}:∀ (d p:Nat) (acc:List Sub),s.length < p+d→(goE s d p acc).2.2=0→(goE s d p acc).2.1=0∧∃ l,(goE s d p acc).1=acc++l∧cj3 l∧ab3 l=s.drop p∧2 * l.length+p≤s.length+p
 | 0,p,acc,hd,h=>⟨rfl,[],by simp [goE],(fun y hy=>by cases hy),by rw [List.drop_eq_nil_of_le (by omega)]; rfl,by simp⟩
 | d+1,p,acc,hd,h=>by
  unfold goE at h ⊢
  by_cases h1:p < s.length
  ·rw [if_pos h1] at h ⊢
   by_cases h2:(s.length:Int) < p+2+bt s (p+1)
   ·rw [if_pos h2] at h; cases h
   ·rw [if_neg h2] at h ⊢
    have hb:=ai5 s (p+1)
    have hb0:=ai5 s p
    obtain ⟨k0,l,k1,k2,k3,k4⟩:=ey0 d _ _ (by omega) h
    have hcl:(aa4 s (p+2) (bt s (p+1))).length=(bt s (p+1)).toNat:=by
     have:=aj4 (s:=s) (p:=(p:Int)+2) (n:=bt s (p+1)) (by omega) (by omega) (by omega)
     omega
    refine ⟨k0,⟨bt s p,aa4 s (p+2) (bt s (p+1))⟩::l,by rw [k1]; simp,fun y hy=>?_,?_,?_⟩
    ·rcases List.mem_cons.1 hy with rfl | hy
     ·exact ⟨hb0.1,by show bt s p≤255; omega,by show (aa4 s (p+2) (bt s (p+1))).length≤255; omega⟩
     ·exact k2 y hy
    ·unfold ab3
     rw [k3]
     dsimp only
     rw [hcl]
     have e1:aa1 (bt s p)=s[p]:=by
      have:bt s p=(s[p].toNat:Int):=by unfold bt; simp [h1]
      rw [this,ax9]
     have hp1:p+1 < s.length:=by omega
     have e2:aa1 (((bt s (p+1)).toNat:Nat):Int)=s[p+1]:=by
      have:bt s (p+1)=(s[p+1].toNat:Int):=by unfold bt; simp [hp1]
      rw [this,Int.toNat_natCast,ax9]
     have e3:aa4 s ((p:Int)+2) (bt s (p+1))=(s.drop (p+2)).take (bt s (p+1)).toNat:=by
      have:=cd8 s (p+2) (bt s (p+1)).toNat
      rw [show ((p+2:Nat):Int)=(p:Int)+2 by omega,show (((bt s (p+1)).toNat:Nat):Int)=bt s (p+1) by omega] at this
      exact this
     rw [e1,e2,e3,List.drop_eq_getElem_cons h1,List.drop_eq_getElem_cons hp1,show p+1+1=p+2 by omega,show s.drop (p+2+(bt s (p+1)).toNat)=(s.drop (p+2)).drop (bt s (p+1)).toNat by rw [List.drop_drop],List.take_append_drop]
    ·have:=congrArg List.length k3
     simp only [List.length_cons]
     have e:=aN3 l
     have hlen:∀ l:List Sub,2 * (l.length:Int)≤ak4 l:=fun l=>by
      induction l with
      | nil=>simp [ak4]
      | cons y l ih=>simp only [ak4,List.length_cons]; omega
     have:=hlen l
     rw [List.length_drop] at *
     omega
  ·rw [if_neg h1] at h ⊢
   exact ⟨rfl,[],by simp,(fun y hy=>by cases hy),by rw [List.drop_eq_nil_of_le (by omega)]; rfl,by simp⟩
theorem eP9 {s:Bs} (h:(at2 s).2.2=0):(at2 s).2.1=0∧cj3 (at2 s).1∧ab3 (at2 s).1=s∧2 * (at2 s).1.length≤s.length:=by
 obtain ⟨k0,l,k1,k2,k3,k4⟩:=ey0 (s:=s) (s.length+1) 0 [] (by omega) h
 rw [List.nil_append] at k1
 unfold at2
 rw [k1]
 exact ⟨k0,k2,by rw [k3]; rfl,by omega⟩
theorem dX1:∀ (l:List Sub) (d p:Nat) (s:Bs) (acc:List Sub),cj3 l→s.drop p=ab3 l→p≤s.length→s.length < p+d→goE s d p acc=(acc++l,0,0)
 | [],d,p,s,acc,hl,hs,hp,hd=>by
  have:=congrArg List.length hs
  rw [List.length_drop] at this
  unfold ab3 at this
  simp at this
  obtain ⟨d,rfl⟩:∃ k,d=k+1:=⟨d - 1,by omega⟩
  unfold goE
  rw [if_neg (by omega),List.append_nil]
 | y::l,d,p,s,acc,hl,hs,hp,hd=>by
  obtain ⟨d,rfl⟩:∃ k,d=k+1:=⟨d - 1,by omega⟩
  have hy:=hl y (List.mem_cons_self ..)
  have hlen:=congrArg List.length hs
  rw [List.length_drop] at hlen
  unfold ab3 at hs hlen
  simp only [List.length_cons,List.length_append] at hlen
  have g0:s[p]?=some (aa1 y.type_):=by
   have:(s.drop p)[0]?=some (aa1 y.type_):=by rw [hs]; rfl
   rwa [List.getElem?_drop] at this
  have g1:s[p+1]?=some (aa1 (y.data.length:Int)):=by
   have:(s.drop p)[1]?=some (aa1 (y.data.length:Int)):=by rw [hs]; rfl
   rwa [List.getElem?_drop] at this
  have b0:bt s p=y.type_:=by
   unfold bt; rw [g0]; show ((aa1 y.type_).toNat:Int)=_; rw [ah0]; omega
  have b1:bt s (p+1)=y.data.length:=by
   unfold bt; rw [g1]; show ((aa1 (y.data.length:Int)).toNat:Int)=_; rw [ah0]; omega
  have hd2:s.drop (p+2)=y.data++ab3 l:=by
   rw [← List.drop_drop,hs]; rfl
  have hc:aa4 s ((p:Int)+2) (y.data.length:Int)=y.data:=by
   have:=cd8 s (p+2) y.data.length
   rw [show ((p+2:Nat):Int)=(p:Int)+2 by omega] at this
   rw [this,hd2,List.take_left]
  unfold goE
  rw [b0,b1,if_pos (by omega),if_neg (by omega),hc,Int.toNat_natCast]
  have:=dX1 l d (p+2+y.data.length) s (acc++[⟨y.type_,y.data⟩]) (fun z hz=>hl z (List.mem_cons_of_mem _ hz)) (by rw [← List.drop_drop,hd2,List.drop_left]) (by omega) (by omega)
  rw [this]
  simp
theorem aI2 {l:List Sub} (h:cj3 l):at2 (ab3 l)=(l,0,0):=by
 have:=dX1 l ((ab3 l).length+1) 0 (ab3 l) [] h rfl (by omega) (by omega)
 rw [List.nil_append] at this
 exact this
end Go.VP
namespace Go.VP
open Go Go.VI
def z16:Bs:=[0,0,0,0,0,0,0,0,0,0,0,0,0,0,0,0]
theorem eg1:an4 (16,())=some ((z16,()),()):=by
 rw [bV3,if_pos (by unfold ah8; decide)]; rfl
def dg7 (a:Bs) (n:Int):Bool:=decide (0≤n∧n≤128) && bo1 a n
theorem eb9 {a:Bs} {n:Int} (h:a.length=16) (hn:IntKind.has .i64 n):af3 (a,n,())=some ((dg7 a n,()),()):=by
 have h8:IntKind.wrap .i64 (8 * (a.length:Int))=128:=by rw [h]; rfl
 rw [bJ6,h8]
 unfold dg7
 refine ac8 (fun q=>by omega) (fun _=>?_)
 refine ac8 (fun _=>?_) (fun q=>by omega)
 refine aK3 (fun h0=>?_) (fun h0=>?_)
 ·refine aK3 (fun h1=>?_) (fun h1=>?_)
  ·rw [de3 (by omega) hn,Option.bind_some,decide_eq_true ⟨h0,h1⟩,Bool.true_and]
  ·rw [decide_eq_false (fun q=>h1 q.2),Bool.false_and]
 ·rw [decide_eq_false (fun q=>h0 q.1),Bool.false_and]
structure NgR (m:Msg):Prop where
 kind:m.kind=2
 bare:bareB m=true
 cmd:m.cmd=1∨m.cmd=2
 tag:0≤m.tag∧m.tag < 65536
 metric:1≤m.metric∧m.metric≤16
 len:m.prefix_.length=16
 pre:dg7 m.prefix_ m.plen=true
 next:m.next=z16∨ai0 m.next=true
open Classical in
noncomputable def ngB (m:Msg):Bool:=decide (NgR m)
theorem bg8 {m:Msg}:ngB m=true↔NgR m:=by simp [ngB]
theorem ey1 {m:Msg} (h:¬NgR m):ngB m=false:=by simp [ngB,h]
theorem NgR.next16 {m:Msg} (h:NgR m):m.next.length=16:=by
 rcases h.next with e | e
 ·rw [e]; rfl
 ·exact (aw8 e).1
theorem NgR.plen {m:Msg} (h:NgR m):0≤m.plen∧m.plen≤128:=by
 have:=h.pre; unfold dg7 at this; simp at this; exact this.1
structure dr8 (m:Msg):Prop where
 tag:IntKind.has .i64 m.tag
 plen:IntKind.has .i64 m.plen
 cmd:IntKind.has .i64 m.cmd
 list:m.list.length≤1000000000
 subs:m.subs.length≤1000000000
theorem eQ0 {m:Msg} {r:Option ((Bool × Unit) × Unit)} (h:r=some ((ai0 m.next,()),())) (hk:NgR m↔(m.next=z16∨ai0 m.next=true)):(if (m.next==z16)=true then (some ((true,()),()):Option ((Bool × Unit) × Unit)) else r.bind fun r5=>some ((r5.1.1,()),()))=some ((ngB m,()),()):=by
 refine dy1 (fun q=>by rw [bg8.2 (hk.2 (.inl q))]) (fun q=>?_)
 rw [h,Option.bind_some]
 cases hl:ai0 m.next with
 | true=>rw [bg8.2 (hk.2 (.inr hl))]
 | false=>rw [ey1 (fun x=>by rcases hk.1 x with e | e; exact q e; rw [hl] at e; cases e)]
theorem eo3 {m:Msg} (g:dr8 m):ba6 (m,())=some ((ngB m,()),()):=by
 rw [dd4]
 have no:¬NgR m→(some ((false,()),()):Option ((Bool × Unit) × Unit))=some ((ngB m,()),()):=fun h=>by rw [ey1 h]
 have tail:(m.kind=2)→bareB m=true→(m.cmd=1∨m.cmd=2)→((ab1 (m.tag,2,())).bind fun r6=>(if (!r6.1.1)=true then some ((false,()),()) else (if (decide (m.metric < 1))=true then some ((false,()),()) else (if (decide (16 < m.metric))=true then some ((false,()),()) else (if ((m.prefix_.length:Int) != 16)=true then some ((false,()),()) else ((af3 (m.prefix_,m.plen,())).bind fun r7=>(if (!r7.1.1)=true then some ((false,()),()) else ((an4 (16,())).bind fun r8=>(if (m.next==r8.1.1)=true then some ((true,()),()) else ((ar7 (m.next,())).bind fun r9=>some ((r9.1.1,()),())))))))))))= (some ((ngB m,()),()):Option ((Bool × Unit) × Unit)):=by
  intro hk hb hc
  rw [show ab1 (m.tag,2,())=some ((ac5 m.tag 2,()),()) from ap8 (k:=2) g.tag (by omega) (by omega),Option.bind_some]
  dsimp only
  cases hf:ac5 m.tag 2 with
  | false=>rw [aS8]; exact no (fun h=>by rw [bV8.2 h.tag] at hf; cases hf)
  | true=>
   rw [aj6]
   refine aK3 (fun q=>no (fun h=>by have:=h.metric; omega)) (fun h1=>?_)
   refine aK3 (fun q=>no (fun h=>by have:=h.metric; omega)) (fun h2=>?_)
   refine ah3 (fun q=>no (fun h=>by have:=h.len; omega)) (fun h3=>?_)
   rw [eb9 (by omega) g.plen,Option.bind_some]
   dsimp only
   cases hp:dg7 m.prefix_ m.plen with
   | false=>rw [aS8]; exact no (fun h=>by rw [h.pre] at hp; cases hp)
   | true=>
    rw [aj6,eg1,Option.bind_some]
    exact eQ0 (cT1 _) ⟨fun h=>h.next,fun h=>⟨hk,hb,hc,bV8.1 hf,by omega,by omega,hp,h⟩⟩
 refine ah3 (fun q=>no (fun h=>q h.kind)) (fun hk=>?_)
 rw [bare_is,Option.bind_some]
 dsimp only
 cases hb:bareB m with
 | false=>rw [aS8]; exact no (fun h=>by rw [h.bare] at hb; cases hb)
 | true=>
  rw [aj6]
  refine ah3 (fun q1=>?_) (fun q1=>tail hk hb (.inl q1))
  exact ah3 (fun q2=>no (fun h=>by have:=h.cmd; omega)) (fun q2=>tail hk hb (.inr q2))
abbrev cR1:=ae7
def bI3 (s:Bs):cR1:=⟨bt s 18,num (aa4 s 16 2),s.take 16,[],[],bt s 19⟩
def aD9 (a:Bs) (t f m:Int):Bs:=a++(be 2 t++[aa1 f,aa1 m])
theorem bw6 {a:Bs} (h:a.length=16) (t f m:Int):(aD9 a t f m).length=20:=by unfold aD9; simp [ab6]; omega
theorem ey2 {a:Bs} {t f m:Int} (ha:a.length=16) (ht:0≤t∧t < 65536) (hf:0≤f∧f < 256) (hm:0≤m∧m < 256):bZ9 (⟨f,t,a,[],[],m⟩,())=some ((aD9 a t f m,true,()),()):=by
 have f1:∀ {n:Int},0≤n∧n < 256→ac5 n 1=true:=fun h=>by unfold ac5; rw [decide_eq_true_eq]; omega
 rw [dR3]
 dsimp only
 refine ah3 (fun q=>by omega) (fun _=>?_)
 rw [if_pos (af6 (by simp)),if_neg (by simp),show ab1 (t,2,())=some ((ac5 t 2,()),()) from ap8 (k:=2) (has64.2 (by omega)) (by omega) (by omega),Option.bind_some,bV8.2 ht]
 dsimp only
 rw [aj6,show ab1 (f,1,())=some ((ac5 f 1,()),()) from ap8 (k:=1) (has64.2 (by omega)) (by omega) (by omega),Option.bind_some,f1 hf]
 dsimp only
 rw [aj6,show ab1 (m,1,())=some ((ac5 m 1,()),()) from ap8 (k:=1) (has64.2 (by omega)) (by omega) (by omega),Option.bind_some,f1 hm]
 dsimp only
 rw [aj6,if_pos (af6 (by simp; omega)),u8w hf.1,u8w hm.1]
 unfold aD9
 rw [← be2 ht]; rfl
end Go.VP
namespace Go.VP
open Go Go.VI
def cw0 (b:Bs):Int × Int:=
 if 65535 < b.length then (65535,10) else if b.length < 4 then (b.length,2) else if ¬(bt b 0=1∨bt b 0=2) then (0,4) else if ¬bt b 1=1 then (1,4)
 else if ¬(bt b 2=0∧bt b 3=0) then (2,5) else if ((b.length:Int) - 4) % 20≠0 then (b.length,2) else (0,0)
theorem eG5 {b:Bs} (h:(cw0 b).2=0):4≤b.length∧b.length≤65535∧(bt b 0=1∨bt b 0=2)∧bt b 1=1∧bt b 2=0∧bt b 3=0∧((b.length:Int) - 4) % 20=0:=by
 unfold cw0 at h
 repeat (split at h; · simp at h)
 rename_i h1 h2 h3 h4 h5 h6
 exact ⟨by omega,by omega,by omega,by omega,by omega,by omega,by omega⟩
def cj4 (e:cR1):Int:=if e.metric=255 then (if e.tag=0∧e.family=0 then 0 else 5) else if ¬dg7 e.addr e.family=true then 7 else if e.metric < 1∨16 < e.metric then 6 else 0
def bz0 (nx:Bs) (e:cR1):Bs:=if e.metric=255 then (if ai0 e.addr=true then e.addr else z16) else nx
def cR2 (c:Int) (nx:Bs) (e:cR1):Msg:=aa0.mk 2 c 0 [] 0 0 e.addr e.family e.tag nx e.metric [] 0 0 0 0 0 0 0 [] [] [] 0 [] []
def cw1 (c:Int) (nx:Bs) (e:cR1):List Msg:=if e.metric=255 then [] else [cR2 c nx e]
structure eK2 (e:cR1):Prop where
 addr:e.addr.length=16
 tag:0≤e.tag∧e.tag < 65536
 fam:0≤e.family∧e.family < 256
 met:0≤e.metric∧e.metric < 256
theorem eQ1 {s:Bs} (h:s.length=20):eK2 (bI3 s):=by
 have h1:=ai5 s 18
 have h2:=ai5 s 19
 have h3:=bN1 (aa4 s 16 2)
 have hl:(aa4 s 16 2).length=2:=by have:=aj4 (s:=s) (p:=16) (n:=2) (by omega) (by omega) (by omega); omega
 rw [hl] at h3
 exact ⟨by show (s.take 16).length=16; rw [List.length_take]; omega,by show 0≤num (aa4 s 16 2)∧num (aa4 s 16 2) < 65536; exact ⟨h3.1,by have:=h3.2; omega⟩,h1,h2⟩
def be0 (c:Int) (b:Bs):Nat→Nat→Bs→List Msg→List Msg × Int × Int
 | 0,_,_,acc=>if acc=[] then ([],b.length,8) else (acc,0,0)
 | k+1,p,nx,acc=>if cj4 (bI3 (aa4 b p 20))≠0 then ([],(p:Int),cj4 (bI3 (aa4 b p 20))) else be0 c b k (p+20) (bz0 nx (bI3 (aa4 b p 20))) (acc++cw1 c nx (bI3 (aa4 b p 20)))
noncomputable def aU1 (b:Bs):List Msg × Int × Int:=if (cw0 b).2≠0 then ([],cw0 b) else be0 (bt b 0) b ((b.length - 4) / 20) 4 z16 []
end Go.VP
namespace Go.VP
open Go Go.VI
def eo4 (nx:Bs) (m:Msg):Bs:=if m.next=nx then [] else aD9 m.next 0 0 255
def bc2 (nx:Bs) (m:Msg):Bs:=eo4 nx m++aD9 m.prefix_ m.tag m.plen m.metric
theorem cR3 {nx:Bs} {m:Msg} (h:NgR m):(bc2 nx m).length=if m.next=nx then 20 else 40:=by
 unfold bc2 eo4
 split <;> simp [bw6 h.len,bw6 h.next16]
def bw7 (c:Int):List Msg→Nat→Bs→Bs→Bs × Int × Int
 | [],_,acc,_=>(acc,0,0)
 | m::r,i,acc,nx=>if m.cmd≠c then ([],(i:Int),7) else if 65535 < (acc++bc2 nx m).length then ([],(i:Int),10) else bw7 c r (i+1) (acc++bc2 nx m) m.next
theorem dg8 {acc nx a:Bs} {t f m:Int} (ha:a.length=16) (ht:0≤t∧t < 65536) (hf:0≤f∧f < 256) (hm:0≤m∧m < 256) (hl:acc.length≤1000000) :
  ao4 (⟨acc,nx⟩,⟨f,t,a,[],[],m⟩,())=some ((),(⟨acc++aD9 a t f m,nx⟩,())):=by
 rw [co7,ey2 ha ht hf hm,Option.bind_some]
 dsimp only
 rw [if_pos (ah7 (by rw [bw6 ha]; omega))]
theorem eo5 {acc nx:Bs} {m:Msg} (h:NgR m) (hl:acc.length≤100000):av4 (⟨acc,nx⟩,m,())=some ((),(⟨acc++bc2 nx m,m.next⟩,())):=by
 have hp:=h.plen
 have hm:=h.metric
 rw [bY1]
 unfold bc2 eo4
 refine ed9 (fun q=>?_) (fun q=>?_)
 ·rw [if_neg q,dg8 h.next16 (by omega) (by omega) (by omega) (by show acc.length≤_; omega),Option.bind_some]
  dsimp only
  rw [dg8 h.len h.tag (by omega) (by omega) (by rw [List.length_append,bw6 h.next16]; omega),Option.bind_some,List.append_assoc]
 ·dsimp only at q
  rw [if_pos q,dg8 h.len h.tag (by omega) (by omega) (by omega),Option.bind_some,q]
  rfl
theorem eo6 {n:Nat} {l:List Msg} {f:Msg} (hf:l[0]?=some f) (hok:∀ m∈l,NgR m) (hl:l.length≤1000000):∀ (d m i:Nat) (acc nx:Bs),i+d=l.length→d < m→acc.length≤65535→
  aI9 n m l acc nx i=some (bd4 (bw7 f.cmd (l.drop i) i acc nx),()):=by
 intro d
 induction d with
 | zero=>
  intro m i acc nx hd hm ha
  obtain ⟨m,rfl⟩:∃ k,m=k+1:=⟨m - 1,by omega⟩
  rw [bs0,ifn (by omega),List.drop_eq_nil_of_le (by omega)]; try rfl
 | succ d ih=>
  intro m i acc nx hd hm ha
  obtain ⟨m,rfl⟩:∃ k,m=k+1:=⟨m - 1,by omega⟩
  have hi:i < l.length:=by omega
  have ho:=hok _ (List.getElem_mem hi)
  rw [bs0,ifd (by omega),if_pos (by omega),Int.toNat_natCast,aj0 hi,hf,Option.bind_some,List.drop_eq_getElem_cons hi,bw7,eo5 ho (by omega),Option.bind_some]
  refine ah3 (fun h=>?_) (fun h=>?_)
  ·rw [if_pos h]; try rfl
  rw [if_neg (show ¬l[i].cmd≠f.cmd from fun c=>c h)]
  refine aN6 (fun h=>?_) (fun h=>?_)
  ·rw [if_pos (show 65535 < (acc++bc2 nx l[i]).length by dsimp only at h; omega)]; try rfl
  ·dsimp only at h
   have:=ih m (i+1) (acc++bc2 nx l[i]) l[i].next (by omega) (by omega) (by omega)
   rw [show ((i+1:Nat):Int)=(i:Int)+1 by omega] at this
   rw [if_neg (show ¬65535 < (acc++bc2 nx l[i]).length by omega),w64 (by omega) (by omega)]
   exact this
def be1 (f:Msg→Bool):List Msg→Nat→Option Nat
 | [],_=>none
 | m::r,i=>if f m=true then be1 f r (i+1) else some i
theorem bC7 {f:Msg→Bool}:∀ {l:List Msg} {i:Nat},be1 f l i=none→∀ m∈l,f m=true
 | [],_,_,m,hm=>by cases hm
 | x::r,i,h,m,hm=>by
  unfold be1 at h
  split at h
  ·rename_i hx
   rcases List.mem_cons.1 hm with rfl | hm
   ·exact hx
   ·exact bC7 h m hm
  ·cases h
theorem dy9 {f:Msg→Bool}:∀ {l:List Msg} {i:Nat},(∀ m∈l,f m=true)→be1 f l i=none
 | [],_,_=>rfl
 | x::r,i,h=>by
  unfold be1; rw [if_pos (h x (by simp))]; exact dy9 (fun m hm=>h m (by simp [hm]))
noncomputable def aK6 (l:List Msg):Bs × Int × Int:=match be1 ngB l 0 with
 | some i=>([],(i:Int),1)
 | none=>match l with
  | []=>([],0,8)
  | f::_=>bw7 f.cmd l 0 [aa1 f.cmd,1,0,0] z16
theorem eG6 {l:List Msg} (g:∀ m∈l,dr8 m) (hl:l.length≤1000000):bt0 (l,())=some (bd4 (aK6 l),()):=by
 show bs9 fuel (l,())=_
 rw [cV0]
 have main:∀ (d m i:Nat),i+d=l.length→d < m→be1 ngB l 0=be1 ngB (l.drop i) i→aI8 fuel m l i=some (bd4 (aK6 l),()):=by
  intro d
  induction d with
  | zero=>
   intro m i hd hm hb
   obtain ⟨m,rfl⟩:∃ k,m=k+1:=⟨m - 1,by omega⟩
   rw [List.drop_eq_nil_of_le (by omega)] at hb
   have hn:be1 ngB l 0=none:=hb
   have hok:=bC7 hn
   rw [br9,ifn (by omega)]
   cases l with
   | nil=>rfl
   | cons f r=>
    have hf:=bg8.1 (hok f (by simp))
    have he:aK6 (f::r)=bw7 f.cmd (f::r) 0 [aa1 f.cmd,1,0,0] z16:=by unfold aK6; rw [hn]
    have L:=eo6 (n:=fuel) (f:=f) (l:=f::r) rfl (fun m hm=>bg8.1 (hok m hm)) hl (f::r).length fuel 0 [aa1 f.cmd,1,0,0] z16 (by omega) (ag7 (by omega)) (by simp)
    have hc:=hf.cmd
    rw [he,if_neg (by simp; omega),show (f::r)[0]?=some f from rfl,Option.bind_some,eg1,Option.bind_some,wu8,aB9 (by omega)]
    exact L
  | succ d ih=>
   intro m i hd hm hb
   obtain ⟨m,rfl⟩:∃ k,m=k+1:=⟨m - 1,by omega⟩
   have hi:i < l.length:=by omega
   rw [List.drop_eq_getElem_cons hi,be1] at hb
   rw [br9,ifd (by omega),if_pos (by omega),Int.toNat_natCast,aj0 hi,eo3 (g _ (List.getElem_mem hi)),Option.bind_some]
   dsimp only
   cases ho:ngB l[i] with
   | true=>
    rw [if_pos ho] at hb
    have:=ih m (i+1) (by omega) (by omega) hb
    rw [aj6,w64 (by omega) (by omega)]
    exact this
   | false=>
    rw [if_neg (by rw [ho]; simp)] at hb
    rw [aS8]
    unfold aK6; rw [hb]; try rfl
 exact main l.length fuel 0 (by omega) (ag7 (by omega)) rfl
end Go.VP
namespace Go.VP
open Go Go.VI
def cd9 (m:Msg):cR1:=⟨m.plen,m.tag,m.prefix_,[],[],m.metric⟩
theorem NgR.is {m:Msg} (h:NgR m):m=cR2 m.cmd m.next (cd9 m):=by
 have hb:=h.bare
 unfold bareB bareOf at hb
 rw [if_neg (by have:=h.kind; omega),if_pos h.kind] at hb
 have:=(eqB_true.1 hb).symm
 rw [h.kind] at this
 exact this
theorem eQ2 {c:Int} {nx:Bs} {e:cR1} (hc:c=1∨c=2) (hn:nx=z16∨ai0 nx=true) (he:eK2 e) (h0:cj4 e=0) (hm:e.metric≠255):NgR (cR2 c nx e):=by
 unfold cj4 at h0
 rw [if_neg hm] at h0
 by_cases hp:dg7 e.addr e.family=true
 ·rw [if_neg (fun c=>c hp)] at h0
  by_cases hq:e.metric < 1∨16 < e.metric
  ·rw [if_pos hq] at h0; omega
  ·refine ⟨rfl,?_,hc,he.tag,?_,he.addr,hp,hn⟩
   ·unfold bareB bareOf
    rw [if_neg (show ¬((cR2 c nx e).kind=1) from fun q=>absurd (show (2:Int)=1 from q) (by decide)),if_pos (show (cR2 c nx e).kind=2 from rfl)]
    exact aT0 _
   ·show 1≤e.metric∧e.metric≤16
    omega
 ·rw [if_pos hp] at h0; omega
theorem dg9 (b:Bs) (p k:Nat):aa4 b p (k:Int)=(b.drop p).take k:=by
 unfold aa4
 rw [show ((p:Int)+(k:Int)).toNat=p+k by omega,Int.toNat_natCast,List.drop_take]
 congr 1
 omega
theorem ey3 {a:Bs} {t f m:Int} (ha:a.length=16) (ht:0≤t∧t < 65536) (hf:0≤f∧f < 256) (hm:0≤m∧m < 256):bI3 (aD9 a t f m)=⟨f,t,a,[],[],m⟩:=by
 have h2:(be 2 t).length=2:=ab6 2 t
 have e1:bt (aD9 a t f m) 18=f:=by
  unfold bt aD9
  rw [List.getElem?_append_right (by omega),List.getElem?_append_right (by omega),ha,h2]
  show (((aa1 f)).toNat:Int)=f
  rw [ah0]; omega
 have e2:bt (aD9 a t f m) 19=m:=by
  unfold bt aD9
  rw [List.getElem?_append_right (by omega),List.getElem?_append_right (by omega),ha,h2]
  show (((aa1 m)).toNat:Int)=m
  rw [ah0]; omega
 have e3:num (aa4 (aD9 a t f m) 16 2)=t:=by
  have:=dg9 (aD9 a t f m) 16 2
  rw [show ((16:Nat):Int)=16 from rfl,show ((2:Nat):Int)=2 from rfl] at this
  rw [this]
  unfold aD9
  rw [show List.drop 16 (a++(be 2 t++[aa1 f,aa1 m]))=be 2 t++[aa1 f,aa1 m] by rw [← ha,List.drop_left],List.take_left' h2]
  exact bV5 2 t ht.1 (by omega)
 have e4:(aD9 a t f m).take 16=a:=by unfold aD9; rw [← ha,List.take_left]
 unfold bI3
 rw [e1,e2,e3,e4]
def ao6:Bs→List Msg→Bs
 | _,[]=>[]
 | nx,m::r=>bc2 nx m++ao6 m.next r
theorem dE4 {c:Int} {b rest:Bs} {p k:Nat} {m:Msg} {acc:List Msg} (h:NgR m) (hc:m.cmd=c) (hd:b.drop p=aD9 m.prefix_ m.tag m.plen m.metric++rest):be0 c b (k+1) p m.next acc=be0 c b k (p+20) m.next (acc++[m])∧b.drop (p+20)=rest:=by
 have hl:=bw6 h.len m.tag m.plen m.metric
 have hp:=h.plen
 have hme:=h.metric
 have e:aa4 b p 20=aD9 m.prefix_ m.tag m.plen m.metric:=by
  rw [show (20:Int)=((20:Nat):Int) from rfl,dg9,hd,List.take_left' hl]
 have he:bI3 (aa4 b p 20)=cd9 m:=by rw [e]; exact ey3 h.len h.tag (by omega) (by omega)
 have hm:(cd9 m).metric≠255:=by show m.metric≠255; omega
 have h0:cj4 (cd9 m)=0:=by
  unfold cj4
  rw [if_neg hm,if_neg (fun q=>q h.pre),if_neg (show ¬((cd9 m).metric < 1∨16 < (cd9 m).metric) by show ¬(m.metric < 1∨16 < m.metric); omega)]
 have ho:cw1 c m.next (cd9 m)=[m]:=by
  unfold cw1
  rw [if_neg hm,← hc,← h.is]
 have hn:bz0 m.next (cd9 m)=m.next:=by unfold bz0; rw [if_neg hm]
 refine ⟨?_,by rw [← List.drop_drop,hd,List.drop_left' hl]⟩
 rw [be0,he,if_neg (fun q=>q h0),ho,hn]
theorem eQ3 {c:Int} {b rest nx:Bs} {p k:Nat} {m:Msg} {acc:List Msg} (h:NgR m) (hd:b.drop p=aD9 m.next 0 0 255++rest):be0 c b (k+1) p nx acc=be0 c b k (p+20) m.next acc∧b.drop (p+20)=rest:=by
 have hl:=bw6 h.next16 0 0 255
 have e:aa4 b p 20=aD9 m.next 0 0 255:=by
  rw [show (20:Int)=((20:Nat):Int) from rfl,dg9,hd,List.take_left' hl]
 have he:bI3 (aa4 b p 20)=⟨0,0,m.next,[],[],255⟩:=by rw [e]; exact ey3 h.next16 (by omega) (by omega) (by omega)
 have h0:cj4 ⟨0,0,m.next,[],[],255⟩=0:=by unfold cj4; rw [if_pos rfl,if_pos ⟨rfl,rfl⟩]
 have ho:cw1 c nx ⟨0,0,m.next,[],[],255⟩=[]:=by unfold cw1; rw [if_pos rfl]
 have hn:bz0 nx ⟨0,0,m.next,[],[],255⟩=m.next:=by
  unfold bz0
  rw [if_pos rfl]
  rcases h.next with q | q
  ·dsimp only; rw [q]; split <;> rfl
  ·exact if_pos q
 refine ⟨?_,by rw [← List.drop_drop,hd,List.drop_left' hl]⟩
 rw [be0,he,if_neg (fun q=>q h0),ho,hn,List.append_nil]
theorem dr9:∀ {l:List Msg} {nx:Bs},(∀ m∈l,NgR m)→∃ k,(ao6 nx l).length=20 * k∧l.length≤k
 | [],_,_=>⟨0,rfl,Nat.le_refl _⟩
 | m::r,nx,h=>by
  obtain ⟨k,hk,hr⟩:=dr9 (nx:=m.next) fun x hx=>h x (List.mem_cons_of_mem _ hx)
  have:=cR3 (nx:=nx) (h m (List.mem_cons_self ..))
  by_cases hn:m.next=nx
  ·rw [if_pos hn] at this
   exact ⟨k+1,by unfold ao6; rw [List.length_append,this,hk]; omega,by simp; omega⟩
  ·rw [if_neg hn] at this
   exact ⟨k+2,by unfold ao6; rw [List.length_append,this,hk]; omega,by simp; omega⟩
theorem ey4 {c:Int} {b:Bs}:∀ (l:List Msg) (k p:Nat) (nx:Bs) (acc:List Msg),b.drop p=ao6 nx l→p+20 * k=b.length→(∀ m∈l,NgR m∧m.cmd=c)→
  be0 c b k p nx acc=if acc++l=[] then ([],(b.length:Int),8) else (acc++l,0,0):=by
 intro l
 induction l with
 | nil=>
  intro k p nx acc hd hk _
  have:=congrArg List.length hd
  rw [List.length_drop] at this
  have hk0:k=0:=by unfold ao6 at this; simp at this; omega
  subst hk0
  rw [be0,List.append_nil]
 | cons m r ih=>
  intro k p nx acc hd hk h
  obtain ⟨hm,hc⟩:=h m (List.mem_cons_self ..)
  have hlen:=congrArg List.length hd
  rw [List.length_drop] at hlen
  unfold ao6 at hd hlen
  rw [List.length_append,cR3 hm] at hlen
  have hr:=fun x hx=>h x (List.mem_cons_of_mem _ hx)
  have e:acc++m::r=(acc++[m])++r:=by simp
  unfold bc2 eo4 at hd
  by_cases hn:m.next=nx
  ·rw [if_pos hn] at hd hlen
   obtain ⟨k,rfl⟩:∃ j,k=j+1:=⟨k - 1,by omega⟩
   obtain ⟨h1,h2⟩:=dE4 (k:=k) (acc:=acc) hm hc hd
   rw [← hn,h1,ih k (p+20) m.next (acc++[m]) h2 (by omega) hr,e]
  ·rw [if_neg hn] at hd hlen
   obtain ⟨k,rfl⟩:∃ j,k=j+2:=⟨k - 2,by omega⟩
   rw [List.append_assoc] at hd
   obtain ⟨h1,h2⟩:=eQ3 (c:=c) (nx:=nx) (k:=k+1) (acc:=acc) hm hd
   obtain ⟨h3,h4⟩:=dE4 (k:=k) (acc:=acc) hm hc h2
   rw [h1,h3,ih k (p+20+20) m.next (acc++[m]) h4 (by omega) hr,e]
theorem eg2 {c:Int}:∀ {l:List Msg} {i:Nat} {acc nx:Bs},(bw7 c l i acc nx).2.2=0→(∀ m∈l,m.cmd=c)∧bw7 c l i acc nx=(acc++ao6 nx l,0,0)∧(acc.length≤65535→(acc++ao6 nx l).length≤65535)
 | [],i,acc,nx,_=>⟨(fun m hm=>by cases hm),by simp [bw7,ao6],by simp [ao6]⟩
 | m::r,i,acc,nx,h=>by
  unfold bw7 at h ⊢
  by_cases h1:m.cmd≠c
  ·rw [if_pos h1] at h; cases h
  by_cases h2:65535 < (acc++bc2 nx m).length
  ·rw [if_neg h1,if_pos h2] at h; cases h
  rw [if_neg h1,if_neg h2] at h ⊢
  obtain ⟨k1,k2,k3⟩:=eg2 h
  rw [List.append_assoc] at k2 k3
  exact ⟨fun x hx=>by rcases List.mem_cons.1 hx with rfl | hx; exact Classical.byContradiction h1; exact k1 x hx,k2,fun _=>k3 (by omega)⟩
theorem dE5 {c:Int}:∀ {l:List Msg} {i:Nat} {acc nx:Bs},(∀ m∈l,m.cmd=c)→(acc++ao6 nx l).length≤65535→bw7 c l i acc nx=(acc++ao6 nx l,0,0)
 | [],i,acc,nx,_,_=>by simp [bw7,ao6]
 | m::r,i,acc,nx,h,hl=>by
  unfold ao6 at hl ⊢
  rw [← List.append_assoc] at hl ⊢
  unfold bw7
  rw [if_neg (fun q=>q (h m (List.mem_cons_self ..))),if_neg (by rw [List.length_append] at hl; omega)]
  exact dE5 (fun x hx=>h x (List.mem_cons_of_mem _ hx)) hl
theorem eG7 {l:List Msg} (h:(aK6 l).2.2=0):(∀ m∈l,NgR m)∧l≠[]:=by
 unfold aK6 at h
 split at h
 ·cases h
 ·rename_i hb
  cases l with
  | nil=>cases h
  | cons f r=>exact ⟨fun m hm=>bg8.1 (bC7 hb m hm),by simp⟩
theorem eK3 {f:Msg} {r:List Msg} (h:∀ m∈f::r,NgR m):aK6 (f::r)=bw7 f.cmd (f::r) 0 [aa1 f.cmd,1,0,0] z16:=by
 unfold aK6
 rw [dy9 fun m hm=>bg8.2 (h m hm)]
theorem eo7 {c:Int} {x:Bs} {k:Nat} (hc:c=1∨c=2) (hx:x.length=20 * k) (hl:4+x.length≤65535):cw0 ([aa1 c,1,0,0]++x)=(0,0)∧bt ([aa1 c,1,0,0]++x) 0=c:=by
 have e0:bt ([aa1 c,1,0,0]++x) 0=c:=by
  show ((aa1 c).toNat:Int)=c
  rw [ah0]; omega
 have e1:bt ([aa1 c,1,0,0]++x) 1=1:=rfl
 have e2:bt ([aa1 c,1,0,0]++x) 2=0:=rfl
 have e3:bt ([aa1 c,1,0,0]++x) 3=0:=rfl
 have hL:([aa1 c,1,0,0]++x).length=4+x.length:=by simp; omega
 refine ⟨?_,e0⟩
 unfold cw0
 rw [hL,e0,e1,e2,e3,if_neg (by omega),if_neg (by omega),if_neg (by omega),if_neg (by omega),if_neg (by omega),if_neg (by omega)]
theorem eQ4 {l:List Msg} (h:(aK6 l).2.2=0):aU1 (aK6 l).1=(l,0,0)∧(aK6 l).1.length≤65535:=by
 obtain ⟨hr,hne⟩:=eG7 h
 cases l with
 | nil=>exact absurd rfl hne
 | cons f r=>
  rw [eK3 hr] at h ⊢
  obtain ⟨h1,h2,h3⟩:=eg2 h
  have h3:=h3 (by simp)
  rw [h2]
  dsimp only
  obtain ⟨k,hk,_⟩:=dr9 (nx:=z16) hr
  rw [List.length_append] at h3
  obtain ⟨g1,g2⟩:=eo7 (hr f (by simp)).cmd hk (by simp at h3; omega)
  have hL:([aa1 f.cmd,1,0,0]++ao6 z16 (f::r)).length=4+20 * k:=by rw [List.length_append,hk]; rfl
  refine ⟨?_,by rw [List.length_append]; exact h3⟩
  unfold aU1
  rw [g1,g2,if_neg (by simp),hL,show (4+20 * k - 4) / 20=k by omega]
  have:=ey4 (c:=f.cmd) (b:=[aa1 f.cmd,1,0,0]++ao6 z16 (f::r)) (f::r) k 4 z16 [] rfl (by rw [hL]) (fun m hm=>⟨hr m hm,h1 m hm⟩)
  rw [this,if_neg (by simp)]
  rfl
theorem dX2 {c:Int} {b:Bs} (hc:c=1∨c=2):∀ {k p:Nat} {nx:Bs} {acc:List Msg},p+20 * k=b.length→(nx=z16∨ai0 nx=true)→(be0 c b k p nx acc).2.2=0→(be0 c b k p nx acc).2.1=0∧∃ l,(be0 c b k p nx acc).1=acc++l∧acc++l≠[]∧(∀ m∈l,NgR m∧m.cmd=c)∧l.length≤k∧
  ∀ nx',(ao6 nx' l).length≤20 * k+if nx'=nx then 0 else 20
 | 0,p,nx,acc,hk,hn,h=>by
  unfold be0 at h ⊢
  by_cases q:acc=[]
  ·rw [if_pos q] at h; cases h
  ·rw [if_neg q]; exact ⟨rfl,[],by simp,by simpa using q,(fun m hm=>by cases hm),Nat.le_refl _,fun nx'=>by simp [ao6]⟩
 | k+1,p,nx,acc,hk,hn,h=>by
  unfold be0 at h ⊢
  by_cases q:cj4 (bI3 (aa4 b p 20))≠0
  ·rw [if_pos q] at h; exact absurd h q
  ·rw [if_neg q] at h ⊢
   have q0:cj4 (bI3 (aa4 b p 20))=0:=Classical.byContradiction q
   have hl:(aa4 b p 20).length=20:=aN7 (n:=20) (by omega)
   have he:=eQ1 hl
   generalize bI3 (aa4 b p 20)=e at *
   by_cases hm:e.metric=255
   ·have ho:cw1 c nx e=[]:=by unfold cw1; rw [if_pos hm]
    have hn':bz0 nx e=z16∨ai0 (bz0 nx e)=true:=by
     unfold bz0
     rw [if_pos hm]
     split
     ·exact .inr (by assumption)
     ·exact .inl rfl
    rw [ho,List.append_nil] at h ⊢
    obtain ⟨k0,l,k1,k2,k3,k4,k5⟩:=dX2 hc (by omega) hn' h
    refine ⟨k0,l,k1,k2,k3,by omega,fun nx'=>?_⟩
    have:=k5 nx'
    split at this <;> split <;> omega
   ·have ho:cw1 c nx e=[cR2 c nx e]:=by unfold cw1; rw [if_neg hm]
    have hnn:bz0 nx e=nx:=by unfold bz0; rw [if_neg hm]
    rw [ho,hnn] at h ⊢
    obtain ⟨k0,l,k1,k2,k3,k4,k5⟩:=dX2 hc (by omega) hn h
    have hr:=eQ2 hc hn he q0 hm
    refine ⟨k0,cR2 c nx e::l,by rw [k1]; simp,by simp,fun m hmm=>?_,by simp; omega,fun nx'=>?_⟩
    ·rcases List.mem_cons.1 hmm with rfl | hmm
     ·exact ⟨hr,rfl⟩
     ·exact k3 m hmm
    ·have h1:=k5 nx
     rw [if_pos rfl] at h1
     have h2:=cR3 (nx:=nx') hr
     have e1:(cR2 c nx e).next=nx:=rfl
     unfold ao6
     rw [List.length_append,h2,e1]
     by_cases q3:nx'=nx
     ·rw [if_pos q3.symm,if_pos q3]; omega
     ·rw [if_neg (fun q=>q3 q.symm),if_neg q3]; omega
theorem eG8 {b:Bs} (h:(aU1 b).2.2=0):(aU1 b).2.1=0∧(∀ m∈(aU1 b).1,NgR m)∧(aU1 b).1≠[]∧(aU1 b).1.length≤3277∧(aK6 (aU1 b).1).2.2=0∧(aK6 (aU1 b).1).1.length≤b.length:=by
 unfold aU1 at h ⊢
 by_cases q:(cw0 b).2≠0
 ·rw [if_pos q] at h; exact absurd h q
 ·rw [if_neg q] at h ⊢
  obtain ⟨h1,h2,h3,_,_,_,h7⟩:=eG5 (Classical.byContradiction q)
  obtain ⟨k0,l,k1,k2,k3,k4,k5⟩:=dX2 h3 (by omega) (.inl rfl) h
  rw [List.nil_append] at k1 k2
  rw [k1]
  have hr:∀ m∈l,NgR m:=fun m hm=>(k3 m hm).1
  have:=k5 z16
  rw [if_pos rfl] at this
  refine ⟨k0,hr,k2,by omega,?_⟩
  cases l with
  | nil=>exact absurd rfl k2
  | cons f r=>
   have hf:=(k3 f (by simp)).2
   rw [eK3 hr,dE5 (fun m hm=>by rw [(k3 m hm).2,hf]) (by rw [List.length_append]; simp; omega)]
   exact ⟨rfl,by rw [List.length_append]; simp; omega⟩
end Go.VP
namespace Go.VP
open Go Go.VI
def W32 (n:Int):Prop:=0≤n∧n < 4294967296
def W8 (n:Int):Prop:=0≤n∧n < 256
theorem bp3 {n:Int}:ac5 n 4=true↔W32 n:=by simp [ac5,W32]
theorem dX3 {n:Int}:ac5 n 1=true↔W8 n:=by simp [ac5,W8]
theorem pf4 {n:Int} (h:IntKind.has .i64 n):ab1 (n,4,())=some ((ac5 n 4,()),()):=ap8 (k:=4) h (by omega) (by omega)
theorem pf1 {n:Int} (h:IntKind.has .i64 n):ab1 (n,1,())=some ((ac5 n 1,()),()):=ap8 (k:=1) h (by omega) (by omega)
structure RqR (m:Msg):Prop where
 kind:m.kind=3
 bare:bareB m=true
 flags:0≤m.flags∧m.flags≤31
 addr:m.addr.length=4
 orig:m.orig.length=4
 nonce:W32 m.nonce
 seq:W32 m.seq
 seq2:W32 m.seq2
 hops:W8 m.hops
 subs:aP3 m.subs=true
structure RpR (m:Msg):Prop where
 kind:m.kind=4
 bare:bareB m=true
 flags:0≤m.flags∧m.flags≤3
 plen:0≤m.plen∧m.plen≤31
 addr:m.addr.length=4
 orig:m.orig.length=4
 seq:W32 m.seq
 life:W32 m.interval
 hops:W8 m.hops
 subs:aP3 m.subs=true
structure AkR (m:Msg):Prop where
 kind:m.kind=6
 bare:bareB m=true
 subs:aP3 m.subs=true
def bp4 (d:ci2):Bool:=decide (d.addr.length=4) && ac5 d.seq 4
structure ReR (m:Msg):Prop where
 kind:m.kind=5
 bare:bareB m=true
 flags:m.flags=0∨m.flags=1
 len:1≤m.list.length∧m.list.length≤255
 list:m.list.all bp4=true
 subs:aP3 m.subs=true
open Classical in
noncomputable def rqB (m:Msg):Bool:=decide (RqR m)
open Classical in
noncomputable def rpB (m:Msg):Bool:=decide (RpR m∨AkR m)
open Classical in
noncomputable def reB (m:Msg):Bool:=decide (ReR m)
theorem aN8 {m:Msg}:rqB m=true↔RqR m:=by simp [rqB]
theorem aN9 {m:Msg}:rpB m=true↔(RpR m∨AkR m):=by simp [rpB]
theorem bw8 {m:Msg}:reB m=true↔ReR m:=by simp [reB]
theorem eG9 {a b:Bool} (h:a=true↔b=true):a=b:=by cases a <;> cases b <;> simp_all
theorem eH0 {b:Bool} (h:¬b=true):b=false:=by cases b <;> simp_all
structure aK7 (m:Msg):Prop where
 nonce:IntKind.has .i64 m.nonce
 seq:IntKind.has .i64 m.seq
 seq2:IntKind.has .i64 m.seq2
 hops:IntKind.has .i64 m.hops
 life:IntKind.has .i64 m.interval
 list:m.list.length≤1000000
 ds:∀ d∈m.list,IntKind.has .i64 d.seq
 subs:az5 m.subs
 subs1:m.subs.length≤1000000
theorem eQ5 {n k:Nat} {m:Msg} (g:aK7 m):aV3 n (k+4) m [m.nonce,m.seq,m.seq2] 3 0=some ((ac5 m.nonce 4 && (ac5 m.seq 4 && (ac5 m.seq2 4 && (ac5 m.hops 1 && aP3 m.subs))),()),()):=by
 rw [aE5,ifd (by decide),if_pos (by decide),show ([m.nonce,m.seq,m.seq2])[(0:Int).toNat]?=some m.nonce from rfl,Option.bind_some,pf4 g.nonce,Option.bind_some]
 dsimp only
 cases ac5 m.nonce 4 with
 | false=>rfl
 | true=>
  rw [aj6,show IntKind.wrap .i64 ((0:Int)+1)=1 from rfl,aE5,ifd (by decide),if_pos (by decide),show ([m.nonce,m.seq,m.seq2])[(1:Int).toNat]?=some m.seq from rfl,Option.bind_some,pf4 g.seq,Option.bind_some]
  dsimp only
  cases ac5 m.seq 4 with
  | false=>rfl
  | true=>
   rw [aj6,show IntKind.wrap .i64 ((1:Int)+1)=2 from rfl,aE5,ifd (by decide),if_pos (by decide),show ([m.nonce,m.seq,m.seq2])[(2:Int).toNat]?=some m.seq2 from rfl,Option.bind_some,pf4 g.seq2,Option.bind_some]
   dsimp only
   cases ac5 m.seq2 4 with
   | false=>rfl
   | true=>
    rw [aj6,show IntKind.wrap .i64 ((2:Int)+1)=3 from rfl,aE5,ifn (by decide),pf1 g.hops,Option.bind_some]
    dsimp only
    cases ac5 m.hops 1 with
    | false=>rfl
    | true=>rw [ift,cd7 g.subs.1]; rfl
theorem eQ6 {m:Msg} (hk:m.kind=3) (hb:bareB m=true) (h0:0≤m.flags) (h1:m.flags≤31) (ha:m.addr.length=4) (ho:m.orig.length=4):rqB m=(ac5 m.nonce 4 && (ac5 m.seq 4 && (ac5 m.seq2 4 && (ac5 m.hops 1 && aP3 m.subs)))):=by
 apply eG9
 simp only [Bool.and_eq_true,aN8,bp3,dX3]
 exact ⟨fun h=>⟨h.nonce,h.seq,h.seq2,h.hops,h.subs⟩,fun ⟨a,b,c,d,e⟩=>⟨hk,hb,⟨h0,h1⟩,ha,ho,a,b,c,d,e⟩⟩
theorem ds2 {m:Msg} (g:aK7 m):bj7 (m,())=some ((rqB m,()),()):=by
 show bP8 fuel _=_
 have no:¬RqR m→(some ((false,()),()):Option ((Bool × Unit) × Unit))=some ((rqB m,()),()):=fun h=>by rw [eH0 (fun q=>h (aN8.1 q))]
 rw [dn3]
 refine ah3 (fun q=>no (fun h=>q h.kind)) (fun hk=>?_)
 rw [bare_is,Option.bind_some]
 refine bN3 (fun q=>no (fun h=>by have:=h.bare; dsimp only at q; rw [q] at this; cases this)) (fun hb=>?_)
 refine aN6 (fun q=>no (fun h=>by have:=h.flags; omega)) (fun h0=>?_)
 refine aN6 (fun q=>no (fun h=>by have:=h.flags; omega)) (fun h1=>?_)
 refine ah3 (fun q=>no (fun h=>by have:=h.addr; omega)) (fun ha=>?_)
 refine ah3 (fun q=>no (fun h=>by have:=h.orig; omega)) (fun ho=>?_)
 have hf:=ag7 (n:=4) (by omega)
 have:=eQ5 (n:=fuel) (k:=fuel - 4) g
 rw [show fuel - 4+4=fuel by omega] at this
 rw [eQ6 hk hb (by omega) (by omega) (by omega) (by omega)]
 exact this
theorem eQ7 {m:Msg} (hk:m.kind=4) (hb:bareB m=true) (hs:aP3 m.subs=true) (h0:0≤m.flags) (h1:m.flags≤3) (h2:0≤m.plen) (h3:m.plen≤31) (c1:ac5 m.hops 1=true) (c2:ac5 m.seq 4=true) (c3:ac5 m.interval 4=true) (ha:m.addr.length=4):rpB m=((m.orig.length:Int)==4):=by
 apply eG9
 simp only [aN9,beq_iff_eq]
 constructor
 ·rintro (h | h)
  ·have:=h.orig; omega
  ·have:=h.kind; omega
 ·intro ho
  exact .inl ⟨hk,hb,⟨h0,h1⟩,⟨h2,h3⟩,ha,by omega,bp3.1 c2,bp3.1 c3,dX3.1 c1,hs⟩
theorem ds3 {m:Msg} (g:aK7 m):aR7 (m,())=some ((rpB m,()),()):=by
 have no:¬RpR m→¬AkR m→(some ((false,()),()):Option ((Bool × Unit) × Unit))=some ((rpB m,()),()):=fun h h2=>by rw [eH0 (fun q=>(aN9.1 q).elim h h2)]
 rw [dn4,bare_is,Option.bind_some]
 dsimp only
 cases hb:bareB m with
 | false=>exact no (fun h=>by have:=h.bare; rw [hb] at this; cases this) (fun h=>by have:=h.bare; rw [hb] at this; cases this)
 | true=>
  rw [aj6,cd7 g.subs.1,Option.bind_some]
  dsimp only
  cases hs:aP3 m.subs with
  | false=>exact no (fun h=>by have:=h.subs; rw [hs] at this; cases this) (fun h=>by have:=h.subs; rw [hs] at this; cases this)
  | true=>
   rw [aj6]
   refine ac8 (fun hk=>by rw [aN9.2 (.inr ⟨hk,hb,hs⟩)]) (fun hk6=>?_)
   have no':¬RpR m→(some ((false,()),()):Option ((Bool × Unit) × Unit))=some ((rpB m,()),()):=fun h=>no h (fun q=>hk6 q.kind)
   refine ac8 (fun hk=>?_) (fun q=>no' (fun h=>q h.kind))
   refine aK3 (fun h0=>?_) (fun q=>no' (fun h=>by have:=h.flags; omega))
   refine aK3 (fun h1=>?_) (fun q=>no' (fun h=>by have:=h.flags; omega))
   refine aK3 (fun h2=>?_) (fun q=>no' (fun h=>by have:=h.plen; omega))
   refine aK3 (fun h3=>?_) (fun q=>no' (fun h=>by have:=h.plen; omega))
   rw [pf1 g.hops,Option.bind_some,pf4 g.seq,Option.bind_some,pf4 g.life,Option.bind_some]
   dsimp only
   cases c1:ac5 m.hops 1 with
   | false=>exact no' (fun h=>by have:=dX3.2 h.hops; rw [c1] at this; cases this)
   | true=>cases c2:ac5 m.seq 4 with
    | false=>exact no' (fun h=>by have:=bp3.2 h.seq; rw [c2] at this; cases this)
    | true=>cases c3:ac5 m.interval 4 with
     | false=>exact no' (fun h=>by have:=bp3.2 h.life; rw [c3] at this; cases this)
     | true=>
      rw [ift,ift,ift]
      refine ac8 (fun ha=>?_) (fun q=>no' (fun h=>by have:=h.addr; omega))
      rw [eQ7 hk hb hs h0 (by omega) h2 (by omega) c1 c2 c3 (by omega)]
end Go.VP
namespace Go.VP
open Go Go.VI
theorem eQ8 {n:Nat} {m:Msg} (g:aK7 m):∀ (d k i:Nat),i+d=m.list.length→d < k→ax1 n k m i=some (((m.list.drop i).all bp4 && aP3 m.subs,()),()):=by
 have gl:=g.list
 intro d
 induction d with
 | zero=>
  intro k i hd hk
  obtain ⟨k,rfl⟩:∃ j,k=j+1:=⟨k - 1,by omega⟩
  rw [bJ9,ifn (by omega),List.drop_eq_nil_of_le (by omega),cd7 g.subs.1]; rfl
 | succ d ih=>
  intro k i hd hk
  obtain ⟨k,rfl⟩:∃ j,k=j+1:=⟨k - 1,by omega⟩
  have hi:i < m.list.length:=by omega
  have:=ih k (i+1) (by omega) (by omega)
  rw [show ((i+1:Nat):Int)=(i:Int)+1 by omega] at this
  rw [bJ9,ifd (by omega),if_pos (by omega),Int.toNat_natCast,aj0 hi,pf4 (g.ds _ (List.getElem_mem hi)),Option.bind_some,w64 (by omega) (by omega),this,List.drop_eq_getElem_cons hi,List.all_cons]
  unfold bp4
  refine ah3 (fun q=>?_) (fun q=>?_)
  ·rw [decide_eq_false (by omega)]; rfl
  ·rw [decide_eq_true (by omega)]
   dsimp only
   cases ac5 m.list[i].seq 4 <;> rfl
theorem eQ9 {m:Msg} (hk:m.kind=5) (hb:bareB m=true) (hf:m.flags=0∨m.flags=1) (hl:1≤m.list.length∧m.list.length≤255):reB m=(m.list.all bp4 && aP3 m.subs):=by
 apply eG9
 simp only [Bool.and_eq_true,bw8]
 exact ⟨fun h=>⟨h.list,h.subs⟩,fun ⟨a,b⟩=>⟨hk,hb,hf,hl,a,b⟩⟩
theorem db6 {m:Msg} (g:aK7 m):bj8 (m,())=some ((reB m,()),()):=by
 show bQ1 fuel _=_
 have no:¬ReR m→(some ((false,()),()):Option ((Bool × Unit) × Unit))=some ((reB m,()),()):=fun h=>by rw [eH0 (fun q=>h (bw8.1 q))]
 rw [dn5]
 refine ah3 (fun q=>no (fun h=>q h.kind)) (fun hk=>?_)
 rw [bare_is,Option.bind_some]
 refine bN3 (fun q=>no (fun h=>by have:=h.bare; dsimp only at q; rw [q] at this; cases this)) (fun hb=>?_)
 have tail:(m.flags=0∨m.flags=1)→(if ((m.list.length:Int)==0)=true then some ((false,()),()) else (if (decide (255 < (m.list.length:Int)))=true then some ((false,()),()) else (ax1 fuel fuel m 0)))=some ((reB m,()),()):=by
  intro hf
  refine ac8 (fun q=>no (fun h=>by have:=h.len; omega)) (fun h0=>?_)
  refine aN6 (fun q=>no (fun h=>by have:=h.len; omega)) (fun h1=>?_)
  rw [eQ9 hk hb hf (by omega)]
  have:=eQ8 (n:=fuel) g m.list.length fuel 0 (by omega) (ag7 (by omega))
  rw [List.drop_zero] at this
  exact this
 refine ah3 (fun q=>?_) (fun q=>tail (.inl q))
 exact ah3 (fun q2=>no (fun h=>by have:=h.flags; omega)) (fun q2=>tail (.inr q2))
def am4 (m:Msg):Bs:=[1,aa1 (8 * m.flags),0,aa1 m.hops]++(be 4 m.nonce++(m.addr++(be 4 m.seq++(m.orig++(be 4 m.seq2++ab3 m.subs)))))
def am5 (m:Msg):Bs:=[2,aa1 (64 * m.flags),aa1 m.plen,aa1 m.hops]++(m.addr++(be 4 m.seq++(m.orig++(be 4 m.interval++ab3 m.subs))))
def aO0 (m:Msg):Bs:=[4,0]++ab3 m.subs
def bp5:List ci2→Bs
 | []=>[]
 | d::l=>(d.addr++be 4 d.seq)++bp5 l
def aB2 (m:Msg):Bs:=[3,aa1 (128 * m.flags),0,aa1 m.list.length]++(bp5 m.list++ab3 m.subs)
theorem W32.has {n:Int} (h:W32 n):IntKind.has .i64 n:=has64.2 ⟨by have:=h.1; omega,by have:=h.2; omega⟩
theorem pp4 {n:Int} (h:W32 n):ak1 (n,4,())=some ((be 4 n,true,()),()):=cT7 (k:=4) h.has (by omega) (by omega) (bp3.2 h)
theorem dh0 {n:Int} (h:W32 n):aM9 (n,())=some ((be 4 n,()),()):=by
 rw [dv0,pp4 h]; rfl
theorem dX4 {x:Int} {k:Nat} (hx:0≤x∧x < 65536) (hk:k≤15):aa1 (IntKind.wrap .u8 (am6 .i64 x (k:Int)))=aa1 (2 ^ k * x):=by
 rw [dw1 hx hk,wu8,aB9]
 exact Int.mul_nonneg (Int.pow_nonneg (by decide)) hx.1
theorem dz0 {m:Msg} (g:aK7 m):(ab3 m.subs).length≤302000000:=by
 have h:=de0 g.subs
 have:=aN3 m.subs
 have:=g.subs1
 omega
theorem u8x {x:Int} (h:0≤x):aa1 (IntKind.wrap .u8 x)=aa1 x:=by rw [wu8,aB9 h]
noncomputable def dL7 (m:Msg):Bs × Bool:=if rqB m=true then (am4 m,true) else ([],false)
theorem eH1 {m:Msg} (g:aK7 m):bK9 (m,())=some (((dL7 m).1,(dL7 m).2,()),()):=by
 have hl:=dz0 g
 rw [dI1,ds2 g,Option.bind_some]
 unfold dL7
 dsimp only
 cases hr:rqB m with
 | false=>rfl
 | true=>
  have h:=aN8.1 hr
  have ha:=h.addr
  have ho:=h.orig
  have b4:∀ n,(be 4 n).length=4:=ab6 4
  rw [aj6,ift,dy8 g.subs g.subs1,Option.bind_some,dy7 h.subs,dh0 h.nonce,Option.bind_some,dh0 h.seq,Option.bind_some,dh0 h.seq2,Option.bind_some]
  dsimp only
  rw [show ((3:Int))=((3:Nat):Int) from rfl,dX4 (by have:=h.flags; omega) (by omega),u8x h.hops.1]
  repeat rw [if_pos (af6 (by simp only [List.length_append,List.length_cons,List.length_nil,b4,ha,ho]; omega))]
  unfold am4
  simp only [List.append_assoc]
  rfl
noncomputable def dL8 (m:Msg):Bs × Bool:=if rpB m=true then (if m.kind=6 then aO0 m else am5 m,true) else ([],false)
theorem eH2 {m:Msg} (g:aK7 m):bL0 (m,())=some (((dL8 m).1,(dL8 m).2,()),()):=by
 have hl:=dz0 g
 rw [dI2,ds3 g,Option.bind_some]
 unfold dL8
 dsimp only
 cases hr:rpB m with
 | false=>rfl
 | true=>
  have h:=aN9.1 hr
  have hs:aP3 m.subs=true:=h.elim (fun h=>h.subs) (fun h=>h.subs)
  have b4:∀ n,(be 4 n).length=4:=ab6 4
  rw [aj6,ift,dy8 g.subs g.subs1,Option.bind_some,dy7 hs]
  dsimp only
  refine ac8 (fun hk=>?_) (fun hk=>?_)
  ·rw [if_pos hk,if_pos (af6 (by omega))]; rfl
  ·have h:=h.resolve_right (fun q=>hk q.kind)
   have ha:=h.addr
   have ho:=h.orig
   rw [if_neg hk,pp4 h.seq,Option.bind_some,pp4 h.life,Option.bind_some]
   dsimp only
   rw [show ((6:Int))=((6:Nat):Int) from rfl,dX4 (by have:=h.flags; omega) (by omega),u8x h.hops.1,u8x h.plen.1]
   repeat rw [if_pos (af6 (by simp only [List.length_append,List.length_cons,List.length_nil,b4,ha,ho]; omega))]
   unfold am5
   simp only [List.append_assoc]
   rfl
theorem cw2 {d:ci2} (h:bp4 d=true):d.addr.length=4∧W32 d.seq:=by
 unfold bp4 at h
 simp only [Bool.and_eq_true,decide_eq_true_eq,bp3] at h
 exact h
noncomputable def dL9 (m:Msg):Bs × Bool:=if reB m=true then (aB2 m,true) else ([],false)
theorem ec0 {n:Nat} {m:Msg} (g:aK7 m) (h:ReR m):∀ (d k i:Nat) (acc:Bs),i+d=m.list.length→d < k→acc.length≤4+8 * i→bk1 n k m acc i=some ((acc++(bp5 (m.list.drop i)++ab3 m.subs),true,()),()):=by
 have gl:=g.list
 have hl:=dz0 g
 have hle:=h.len
 intro d
 induction d with
 | zero=>
  intro k i acc hd hk ha
  obtain ⟨k,rfl⟩:∃ j,k=j+1:=⟨k - 1,by omega⟩
  rw [cb6,ifn (by omega),List.drop_eq_nil_of_le (by omega),dy8 g.subs g.subs1,Option.bind_some,dy7 h.subs]
  dsimp only
  rw [if_pos (af6 (by omega))]; rfl
 | succ d ih=>
  intro k i acc hd hk ha
  obtain ⟨k,rfl⟩:∃ j,k=j+1:=⟨k - 1,by omega⟩
  have hi:i < m.list.length:=by omega
  obtain ⟨h1,h2⟩:=cw2 (List.all_eq_true.1 h.list _ (List.getElem_mem hi))
  have b4:∀ n,(be 4 n).length=4:=ab6 4
  have:=ih k (i+1) (acc++m.list[i].addr++be 4 m.list[i].seq) (by omega) (by omega) (by simp only [List.length_append,h1,b4]; omega)
  rw [show ((i+1:Nat):Int)=(i:Int)+1 by omega] at this
  rw [cb6,ifd (by omega),if_pos (by omega),Int.toNat_natCast,aj0 hi,pp4 h2,Option.bind_some]
  dsimp only
  rw [if_pos (ah7 (by omega)),if_pos (ah7 (by rw [List.length_append,b4]; omega)),w64 (by omega) (by omega),this,List.drop_eq_getElem_cons hi,bp5]
  simp only [List.append_assoc]
theorem ey5 {m:Msg} (g:aK7 m):bL1 (m,())=some (((dL9 m).1,(dL9 m).2,()),()):=by
 show ct1 fuel _=_
 rw [dI3,db6 g,Option.bind_some]
 unfold dL9
 dsimp only
 cases hr:reB m with
 | false=>rfl
 | true=>
  have h:=bw8.1 hr
  have hle:=h.len
  have:=ec0 (n:=fuel) g h m.list.length fuel 0 [3,aa1 (128 * m.flags),0,aa1 m.list.length] (by omega) (ag7 (by omega)) (by simp)
  rw [List.drop_zero] at this
  rw [aj6,ift,show ((7:Int))=((7:Nat):Int) from rfl,dX4 (by have:=h.flags; omega) (by omega),u8x (by omega)]
  exact this
end Go.VP
namespace Go.VP
open Go Go.VI
def zM:Msg:=aa0.mk 0 0 0 [] 0 0 [] 0 0 [] 0 [] 0 0 0 0 0 0 0 [] [] [] 0 [] []
def cT8 (b:Bs):Msg:=aa0.mk 3 0 0 [] 0 0 [] 0 0 [] 0 [] (num (aa4 b 12 4)) (num (aa4 b 20 4)) 0 (bt b 1 / 8) (bt b 3) (num (aa4 b 4 4)) 0 (aa4 b 8 4) (aa4 b 16 4) [] 0 [] (at2 (b.drop 24)).1
def bp6 (b:Bs) (p:Nat) (m:Msg):Msg × Int × Int:=if (at2 (b.drop p)).2.2≠0 then (zM,p+(at2 (b.drop p)).2.1,(at2 (b.drop p)).2.2) else (m,0,0)
def cw3 (b:Bs):Msg × Int × Int:=
 if b.length < 24 then (zM,b.length,2) else if ¬(bt b 1 % 8=0∧bt b 2=0) then (zM,1,5) else bp6 b 24 (cT8 b)
def cT9 (b:Bs):Msg:=aa0.mk 4 0 0 [] 0 0 [] (bt b 2) 0 [] 0 [] (num (aa4 b 8 4)) 0 (num (aa4 b 16 4)) (bt b 1 / 64) (bt b 3) 0 0 (aa4 b 4 4) (aa4 b 12 4) [] 0 [] (at2 (b.drop 20)).1
def cU0 (b:Bs):Msg:=aa0.mk 6 0 0 [] 0 0 [] 0 0 [] 0 [] 0 0 0 0 0 0 0 [] [] [] 0 [] (at2 (b.drop 2)).1
def bc3 (b:Bs):Msg × Int × Int:=
 if bt b 0=4 then (if b.length < 2 then (zM,b.length,2) else if ¬bt b 1=0 then (zM,1,5) else bp6 b 2 (cU0 b))
 else if b.length < 20 then (zM,b.length,2) else if ¬(bt b 1 % 64=0∧bt b 2 < 32) then (zM,1,5) else bp6 b 20 (cT9 b)
end Go.VP
namespace Go.VP
open Go Go.VI
def aQ4 (b:Bs):Nat→Nat→List ci2
 | 0,_=>[]
 | k+1,p=>⟨aa4 b p 4,num (aa4 b ((p:Int)+4) 4)⟩::aQ4 b k (p+8)
def cU1 (b:Bs):Msg:=aa0.mk 5 0 0 [] 0 0 [] 0 0 [] 0 [] 0 0 0 (bt b 1 / 128) 0 0 0 [] [] (aQ4 b (bt b 3).toNat 4) 0 [] (at2 (b.drop (4+8 * (bt b 3).toNat))).1
def cw4 (b:Bs):Msg × Int × Int:=
 if b.length < 4 then (zM,b.length,2) else if ¬(bt b 1 % 128=0∧bt b 2=0) then (zM,1,5) else if bt b 3=0 then (zM,3,8)
 else if b.length < 4+8 * (bt b 3).toNat then (zM,b.length,2) else bp6 b (4+8 * (bt b 3).toNat) (cU1 b)
end Go.VP
namespace Go.VP
open Go Go.VI
noncomputable def avB (m:Msg):Bool:=rqB m || (rpB m || reB m)
noncomputable def al2 (m:Msg):Bs:=if rqB m=true then am4 m else if rpB m=true then (if m.kind=6 then aO0 m else am5 m) else if reB m=true then aB2 m else []
noncomputable def aw0 (l:List Msg):Bs × Int × Int:=match be1 avB l 0 with
 | some i=>([],(i:Int),1)
 | none=>match l with
  | []=>([],0,8)
  | [m]=>if 65535 < (al2 m).length then ([],0,10) else (al2 m,0,0)
  | _=>([],1,8)
def aK8 (b:Bs):Msg × Int × Int:=if bt b 0=1 then cw3 b else if bt b 0=3 then cw4 b else bc3 b
def bN4 (b:Bs):List Msg × Int × Int:=
 if 65535 < b.length then ([],65535,10) else if b.length=0 then ([],0,2) else if bt b 0 < 1∨4 < bt b 0 then ([],0,4)
 else if (aK8 b).2.2≠0 then ([],(aK8 b).2.1,(aK8 b).2.2) else ([(aK8 b).1],0,0)
theorem eo8 {m:Msg} (g:aK7 m):bj9 (m,())=some ((avB m,()),()):=by
 rw [dn6,ds2 g,Option.bind_some]
 unfold avB
 dsimp only
 cases rqB m with
 | true=>rfl
 | false=>
  rw [bd2,ds3 g,Option.bind_some]
  dsimp only
  cases rpB m with
  | true=>rfl
  | false=>rw [bd2,db6 g]; try rfl
theorem eH3 {l:List Msg} (g:∀ m∈l,aK7 m) (hl:l.length≤1000000):bE6 (l,())=some (bd4 (aw0 l),()):=by
 show bE5 fuel (l,())=_
 rw [dd5]
 have main:∀ (d m i:Nat),i+d=l.length→d < m→be1 avB l 0=be1 avB (l.drop i) i→aP7 fuel m l i=some (bd4 (aw0 l),()):=by
  intro d
  induction d with
  | zero=>
   intro m i hd hm hb
   obtain ⟨m,rfl⟩:∃ k,m=k+1:=⟨m - 1,by omega⟩
   rw [List.drop_eq_nil_of_le (by omega)] at hb
   have hn:be1 avB l 0=none:=hb
   have hok:=bC7 hn
   rw [bB7,ifn (by omega)]
   match l,g,hn,hok with
   | [],_,_,_=>rfl
   | x::y::r,_,hn,_=>
    have he:aw0 (x::y::r)=([],1,8):=by unfold aw0; rw [hn]
    rw [he,if_neg (by simp; omega),ifd (by simp; omega)]
   | [x],g,hn,hok=>
    have g:=g x (by simp)
    have hx:=hok x (by simp)
    have he:aw0 [x]=if 65535 < (al2 x).length then ([],0,10) else (al2 x,0,0):=by unfold aw0; rw [hn]
    have fin:∀ s:Bs,s=al2 x→(if (decide (65535 < (s.length:Int)))=true then some ((([]:Bs),0,10,()),()) else some ((s,0,0,()),()))=some (bd4 (aw0 [x]),()):=by
     intro s hs
     rw [he,← hs]
     refine aN6 (fun h=>?_) (fun h=>?_)
     ·rw [if_pos (by omega)]
     ·rw [if_neg (by omega)]
    rw [if_neg (by simp),ifn (by simp),show [x][0]?=some x from rfl]
    simp only [Option.bind_some]
    rw [eH1 g,Option.bind_some]
    dsimp only
    unfold dL7
    cases h1:rqB x with
    | true=>
     simp only [if_true]
     rw [aj6]
     exact fin _ (by unfold al2; rw [if_pos h1])
    | false=>
     rw [bd2,aS8,eH2 g,Option.bind_some]
     dsimp only
     unfold dL8
     cases h2:rpB x with
     | true=>
      simp only [if_true]
      rw [aj6]
      exact fin _ (by unfold al2; rw [if_neg (show ¬rqB x=true by rw [h1]; simp),if_pos h2])
     | false=>
      rw [bd2,aS8,ey5 g,Option.bind_some]
      have h3:reB x=true:=by unfold avB at hx; rw [h1,h2] at hx; simpa using hx
      refine fin _ ?_
      unfold dL9 al2
      rw [if_pos h3,if_neg (show ¬rqB x=true by rw [h1]; simp),if_neg (show ¬rpB x=true by rw [h2]; simp),if_pos h3]
  | succ d ih=>
   intro m i hd hm hb
   obtain ⟨m,rfl⟩:∃ k,m=k+1:=⟨m - 1,by omega⟩
   have hi:i < l.length:=by omega
   rw [List.drop_eq_getElem_cons hi,be1] at hb
   rw [bB7,ifd (by omega),if_pos (by omega),Int.toNat_natCast,aj0 hi,eo8 (g _ (List.getElem_mem hi)),Option.bind_some]
   dsimp only
   cases ho:avB l[i] with
   | true=>
    rw [if_pos ho] at hb
    have:=ih m (i+1) (by omega) (by omega) hb
    rw [aj6,w64 (by omega) (by omega)]
    exact this
   | false=>
    rw [if_neg (by rw [ho]; simp)] at hb
    rw [aS8]
    unfold aw0; rw [hb]
 exact main l.length fuel 0 (by omega) (ag7 (by omega)) rfl
end Go.VP
namespace Go.VP
open Go Go.VI
theorem at3 {b x r:Bs} {p n:Nat} (h:b.drop p=x++r) (hx:x.length=n):b.drop (p+n)=r∧aa4 b p (n:Int)=x:=by
 rw [cd8,h,← List.drop_drop,h]
 exact ⟨List.drop_left' hx,List.take_left' hx⟩
theorem bp7 (b:Bs) (p:Nat):aa4 b p 4++b.drop (p+4)=b.drop p:=by
 have:=cd8 b p 4
 rw [show ((4:Nat):Int)=4 from rfl] at this
 rw [this,← List.drop_drop,List.take_append_drop]
theorem be3 {b:Bs} {p:Nat} (h:p+4≤b.length):(aa4 b p 4).length=4:=by
 have:=aj4 (s:=b) (p:=p) (n:=4) (by omega) (by omega) (by omega)
 omega
theorem dz1 {b:Bs} {p:Nat} (h:p+4≤b.length):W32 (num (aa4 b p 4)):=by
 have:=bN1 (aa4 b p 4)
 rw [be3 h] at this
 exact ⟨this.1,by have:=this.2; omega⟩
theorem bN5 {b:Bs} {p:Nat} (h:p+4≤b.length):be 4 (num (aa4 b p 4))=aa4 b p 4:=do6 4 _ (be3 h)
theorem bw9 {n:Int} (h:W32 n):num (be 4 n)=n:=bV5 4 n h.1 (by have:=h.2; omega)
theorem cw5 {c:Int} (h:0≤c∧c < 256):((aa1 c).toNat:Int)=c:=by rw [ah0]; omega
theorem cU2 {m x:Msg} (h:bareB m=true) (hx:bareOf m=some x):m=x:=by
 unfold bareB at h
 rw [hx] at h
 exact (eqB_true.1 h).symm
theorem cU3 {m:Msg} (h:bareOf m=some m):bareB m=true:=by
 unfold bareB; rw [h]; exact aT0 m
theorem RqR.is {m:Msg} (h:RqR m):m=aa0.mk 3 0 0 [] 0 0 [] 0 0 [] 0 [] m.seq m.seq2 0 m.flags m.hops m.nonce 0 m.addr m.orig [] 0 [] m.subs:=by
 have hk:=h.kind
 have:=cU2 h.bare (by unfold bareOf; rw [if_neg (by omega),if_neg (by omega),if_pos hk])
 rw [hk] at this
 exact this
theorem eR0 {m:Msg} (h:RqR m):cw3 (am4 m)=(m,0,0)∧bt (am4 m) 0=1:=by
 have b4:∀ n,(be 4 n).length=4:=ab6 4
 have hf:=h.flags
 have hh:=h.hops
 have hae:=ap6.1 h.subs
 obtain ⟨d1,c1⟩:=at3 (b:=am4 m) (p:=4) (n:=4) (x:=be 4 m.nonce) rfl (b4 _)
 obtain ⟨d2,c2⟩:=at3 d1 h.addr
 obtain ⟨d3,c3⟩:=at3 d2 (b4 _)
 obtain ⟨d4,c4⟩:=at3 d3 h.orig
 obtain ⟨d5,c5⟩:=at3 d4 (b4 _)
 have hlen:=congrArg List.length d5
 rw [List.length_drop] at hlen
 have hL:24≤(am4 m).length:=by unfold am4; simp only [List.length_append,List.length_cons,List.length_nil,b4,h.addr,h.orig]; omega
 have e1:bt (am4 m) 1=8 * m.flags:=cw5 (by omega)
 have e2:bt (am4 m) 2=0:=rfl
 have e3:bt (am4 m) 3=m.hops:=cw5 hh
 refine ⟨?_,rfl⟩
 unfold cw3
 rw [if_neg (by omega),e1,e2,if_neg (by omega)]
 unfold bp6
 rw [show (4+4+4+4+4+4:Nat)=24 from rfl] at d5
 rw [d5,aI2 hae,if_neg (show ¬(0:Int)≠0 by decide)]
 unfold cT8
 rw [d5,aI2 hae,e1,e3]
 have c1:aa4 (am4 m) 4 4=_:=c1
 have c2:aa4 (am4 m) 8 4=_:=c2
 have c3:aa4 (am4 m) 12 4=_:=c3
 have c4:aa4 (am4 m) 16 4=_:=c4
 have c5:aa4 (am4 m) 20 4=_:=c5
 rw [c1,c2,c3,c4,c5,bw9 h.nonce,bw9 h.seq,bw9 h.seq2,show 8 * m.flags / 8=m.flags by omega]
 rw [← h.is]
theorem eo9 {b:Bs} (h:¬b.length < 4):[aa1 (bt b 0),aa1 (bt b 1),aa1 (bt b 2),aa1 (bt b 3)]++b.drop 4=b:=by
 obtain ⟨w,x,y,z,r,rfl⟩:=ef8 h
 show [aa1 (w.toNat:Int),aa1 (x.toNat:Int),aa1 (y.toNat:Int),aa1 (z.toNat:Int)]++r=_
 rw [ax9,ax9,ax9,ax9]; rfl
theorem cw6 {b:Bs} {p:Nat} {m:Msg} (h:(bp6 b p m).2.2=0):bp6 b p m=(m,0,0)∧cj3 (at2 (b.drop p)).1∧ab3 (at2 (b.drop p)).1=b.drop p∧2 * (at2 (b.drop p)).1.length≤b.length:=by
 unfold bp6 at h ⊢
 by_cases q:(at2 (b.drop p)).2.2≠0
 ·rw [if_pos q] at h; exact absurd h q
 ·rw [if_neg q]
  obtain ⟨_,k1,k2,k3⟩:=eP9 (Classical.byContradiction q)
  rw [List.length_drop] at k3
  exact ⟨rfl,k1,k2,by omega⟩
theorem eH4 {b:Bs} (h0:bt b 0=1) (h:(cw3 b).2.2=0):cw3 b=(cT8 b,0,0)∧RqR (cT8 b)∧am4 (cT8 b)=b∧(cT8 b).subs.length≤b.length:=by
 unfold cw3 at h ⊢
 by_cases h1:b.length < 24
 ·rw [if_pos h1] at h; cases h
 by_cases h2:¬(bt b 1 % 8=0∧bt b 2=0)
 ·rw [if_neg h1,if_pos h2] at h; cases h
 rw [if_neg h1,if_neg h2] at h ⊢
 obtain ⟨k1,k2,k3,k4⟩:=cw6 h
 have h2:=Classical.byContradiction h2
 have hx:=ai5 b 1
 have hz:=ai5 b 3
 refine ⟨k1,⟨rfl,cU3 rfl,by show 0≤bt b 1 / 8∧bt b 1 / 8≤31; omega,be3 (p:=8) (by omega),be3 (p:=16) (by omega),dz1 (p:=4) (by omega),dz1 (p:=12) (by omega),dz1 (p:=20) (by omega),hz,ap6.2 k2⟩,?_,by show (at2 (b.drop 24)).1.length≤_; omega⟩
 show [1,aa1 (8 * (bt b 1 / 8)),0,aa1 (bt b 3)]++(be 4 (num (aa4 b (4:Nat) 4))++(aa4 b (8:Nat) 4++(be 4 (num (aa4 b (12:Nat) 4))++(aa4 b (16:Nat) 4++(be 4 (num (aa4 b (20:Nat) 4))++ab3 (at2 (b.drop 24)).1)))))=b
 rw [k3,bN5 (by omega),bN5 (by omega),bN5 (by omega),bp7 b 20,bp7 b 16,bp7 b 12,bp7 b 8,bp7 b 4,show 8 * (bt b 1 / 8)=bt b 1 by omega]
 have:=eo9 (b:=b) (by omega)
 rw [h0,h2.2] at this
 exact this
theorem RpR.is {m:Msg} (h:RpR m):m=aa0.mk 4 0 0 [] 0 0 [] m.plen 0 [] 0 [] m.seq 0 m.interval m.flags m.hops 0 0 m.addr m.orig [] 0 [] m.subs:=by
 have hk:=h.kind
 have:=cU2 h.bare (by unfold bareOf; rw [if_neg (by omega),if_neg (by omega),if_neg (by omega),if_pos hk])
 rw [hk] at this
 exact this
theorem AkR.is {m:Msg} (h:AkR m):m=aa0.mk 6 0 0 [] 0 0 [] 0 0 [] 0 [] 0 0 0 0 0 0 0 [] [] [] 0 [] m.subs:=by
 have hk:=h.kind
 have:=cU2 h.bare (by unfold bareOf; rw [if_neg (by omega),if_neg (by omega),if_neg (by omega),if_neg (by omega),if_neg (by omega),if_pos hk])
 rw [hk] at this
 exact this
theorem eR1 {m:Msg} (h:RpR m):bc3 (am5 m)=(m,0,0)∧bt (am5 m) 0=2:=by
 have b4:∀ n,(be 4 n).length=4:=ab6 4
 have hf:=h.flags
 have hh:=h.hops
 have hp:=h.plen
 have hae:=ap6.1 h.subs
 obtain ⟨d1,c1⟩:=at3 (b:=am5 m) (p:=4) (n:=4) (x:=m.addr) rfl h.addr
 obtain ⟨d2,c2⟩:=at3 d1 (b4 _)
 obtain ⟨d3,c3⟩:=at3 d2 h.orig
 obtain ⟨d4,c4⟩:=at3 d3 (b4 _)
 have hL:20≤(am5 m).length:=by unfold am5; simp only [List.length_append,List.length_cons,List.length_nil,b4,h.addr,h.orig]; omega
 have e0:bt (am5 m) 0=2:=rfl
 have e1:bt (am5 m) 1=64 * m.flags:=cw5 (by omega)
 have e2:bt (am5 m) 2=m.plen:=cw5 (by omega)
 have e3:bt (am5 m) 3=m.hops:=cw5 hh
 refine ⟨?_,rfl⟩
 unfold bc3
 rw [e0,if_neg (by decide),if_neg (by omega),e1,e2,if_neg (by omega)]
 unfold bp6
 rw [show (4+4+4+4+4:Nat)=20 from rfl] at d4
 rw [d4,aI2 hae,if_neg (show ¬(0:Int)≠0 by decide)]
 unfold cT9
 rw [d4,aI2 hae,e1,e2,e3]
 have c1:aa4 (am5 m) 4 4=_:=c1
 have c2:aa4 (am5 m) 8 4=_:=c2
 have c3:aa4 (am5 m) 12 4=_:=c3
 have c4:aa4 (am5 m) 16 4=_:=c4
 rw [c1,c2,c3,c4,bw9 h.seq,bw9 h.life,show 64 * m.flags / 64=m.flags by omega]
 rw [← h.is]
theorem eR2 {m:Msg} (h:AkR m):bc3 (aO0 m)=(m,0,0)∧bt (aO0 m) 0=4:=by
 have hae:=ap6.1 h.subs
 have d:(aO0 m).drop 2=ab3 m.subs:=rfl
 have e0:bt (aO0 m) 0=4:=rfl
 have e1:bt (aO0 m) 1=0:=rfl
 refine ⟨?_,rfl⟩
 unfold bc3
 rw [e0,if_pos rfl,if_neg (by unfold aO0; simp),e1,if_neg (by decide)]
 unfold bp6
 rw [d,aI2 hae,if_neg (show ¬(0:Int)≠0 by decide)]
 unfold cU0
 rw [d,aI2 hae]
 rw [← h.is]
theorem eH5 {b:Bs} (h4:¬bt b 0=4) (h0:bt b 0=2) (h:(bc3 b).2.2=0):bc3 b=(cT9 b,0,0)∧RpR (cT9 b)∧am5 (cT9 b)=b∧(cT9 b).subs.length≤b.length:=by
 unfold bc3 at h ⊢
 rw [if_neg h4] at h ⊢
 by_cases h1:b.length < 20
 ·rw [if_pos h1] at h; cases h
 by_cases h2:¬(bt b 1 % 64=0∧bt b 2 < 32)
 ·rw [if_neg h1,if_pos h2] at h; cases h
 rw [if_neg h1,if_neg h2] at h ⊢
 obtain ⟨k1,k2,k3,k4⟩:=cw6 h
 have h2:=Classical.byContradiction h2
 have hx:=ai5 b 1
 have hy:=ai5 b 2
 have hz:=ai5 b 3
 refine ⟨k1,⟨rfl,cU3 rfl,by show 0≤bt b 1 / 64∧bt b 1 / 64≤3; omega,by show 0≤bt b 2∧bt b 2≤31; omega,be3 (p:=4) (by omega),be3 (p:=12) (by omega),dz1 (p:=8) (by omega),dz1 (p:=16) (by omega),hz,ap6.2 k2⟩,?_,by show (at2 (b.drop 20)).1.length≤_; omega⟩
 show [2,aa1 (64 * (bt b 1 / 64)),aa1 (bt b 2),aa1 (bt b 3)]++(aa4 b (4:Nat) 4++(be 4 (num (aa4 b (8:Nat) 4))++(aa4 b (12:Nat) 4++(be 4 (num (aa4 b (16:Nat) 4))++ab3 (at2 (b.drop 20)).1))))=b
 rw [k3,bN5 (by omega),bN5 (by omega),bp7 b 16,bp7 b 12,bp7 b 8,bp7 b 4,show 64 * (bt b 1 / 64)=bt b 1 by omega]
 have:=eo9 (b:=b) (by omega)
 rw [h0] at this
 exact this
theorem eH6 {b:Bs} (hb:1≤b.length) (h0:bt b 0=4) (h:(bc3 b).2.2=0):bc3 b=(cU0 b,0,0)∧AkR (cU0 b)∧aO0 (cU0 b)=b∧(cU0 b).subs.length≤b.length:=by
 unfold bc3 at h ⊢
 rw [if_pos h0] at h ⊢
 by_cases h1:b.length < 2
 ·rw [if_pos h1] at h; cases h
 by_cases h2:¬bt b 1=0
 ·rw [if_neg h1,if_pos h2] at h; cases h
 rw [if_neg h1,if_neg h2] at h ⊢
 obtain ⟨k1,k2,k3,k4⟩:=cw6 h
 have h2:=Classical.byContradiction h2
 refine ⟨k1,⟨rfl,cU3 rfl,ap6.2 k2⟩,?_,by show (at2 (b.drop 2)).1.length≤_; omega⟩
 show [4,0]++ab3 (at2 (b.drop 2)).1=b
 rw [k3]
 match b,h1,h0,h2 with
 | w::x::r,_,h0,h2=>
  have e0:w=4:=cS7 (a:=w) (b:=4) h0
  have e1:x=0:=cS7 (a:=x) (b:=0) h2
  rw [e0,e1]; rfl
 | [],h1,_,_=>simp at h1
 | [_],h1,_,_=>simp at h1
theorem ReR.is {m:Msg} (h:ReR m):m=aa0.mk 5 0 0 [] 0 0 [] 0 0 [] 0 [] 0 0 0 m.flags 0 0 0 [] [] m.list 0 [] m.subs:=by
 have hk:=h.kind
 have:=cU2 h.bare (by unfold bareOf; rw [if_neg (by omega),if_neg (by omega),if_neg (by omega),if_neg (by omega),if_pos hk])
 rw [hk] at this
 exact this
theorem ds4 {b:Bs}:∀ (l:List ci2) (p:Nat) (r:Bs),(∀ d∈l,bp4 d=true)→b.drop p=bp5 l++r→aQ4 b l.length p=l∧b.drop (p+8 * l.length)=r
 | [],p,r,_,h=>⟨rfl,h⟩
 | d::l,p,r,hl,h=>by
  obtain ⟨h1,h2⟩:=cw2 (hl d (List.mem_cons_self ..))
  unfold bp5 at h
  rw [List.append_assoc,List.append_assoc] at h
  obtain ⟨d1,c1⟩:=at3 h h1
  obtain ⟨d2,c2⟩:=at3 d1 (ab6 4 _)
  obtain ⟨k1,k2⟩:=ds4 l (p+4+4) r (fun x hx=>hl x (List.mem_cons_of_mem _ hx)) d2
  have c1:aa4 b p 4=d.addr:=c1
  have c2:aa4 b ((p:Int)+4) 4=be 4 d.seq:=c2
  refine ⟨?_,by rw [← k2]; congr 1; simp; omega⟩
  rw [List.length_cons,aQ4,c1,c2,bw9 h2,k1]
theorem eR3 {m:Msg} (h:ReR m):cw4 (aB2 m)=(m,0,0)∧bt (aB2 m) 0=3:=by
 have hf:=h.flags
 have hl:=h.len
 have hae:=ap6.1 h.subs
 have e1:bt (aB2 m) 1=128 * m.flags:=cw5 (by omega)
 have e2:bt (aB2 m) 2=0:=rfl
 have e3:bt (aB2 m) 3=m.list.length:=cw5 (by omega)
 obtain ⟨k1,k2⟩:=ds4 (b:=aB2 m) m.list 4 (ab3 m.subs) (List.all_eq_true.1 h.list) rfl
 have hdl:∀ l:List ci2,(∀ d∈l,bp4 d=true)→(bp5 l).length=8 * l.length:=fun l=>by
  induction l with
  | nil=>intro _; rfl
  | cons d l ih=>
   intro hh
   have:=(cw2 (hh d (List.mem_cons_self ..))).1
   unfold bp5
   rw [List.length_append,List.length_append,ih (fun x hx=>hh x (List.mem_cons_of_mem _ hx)),this,ab6,List.length_cons]
   omega
 have hL:(aB2 m).length=4+8 * m.list.length+(ab3 m.subs).length:=by
  unfold aB2
  rw [List.length_append,List.length_append,hdl _ (List.all_eq_true.1 h.list)]
  simp only [List.length_cons,List.length_nil]; omega
 refine ⟨?_,rfl⟩
 unfold cw4
 rw [if_neg (by omega),e1,e2,if_neg (by omega),e3,if_neg (by omega),Int.toNat_natCast,if_neg (by omega)]
 unfold bp6
 rw [k2,aI2 hae,if_neg (show ¬(0:Int)≠0 by decide)]
 unfold cU1
 rw [e1,e3,Int.toNat_natCast,k1,k2,aI2 hae,show 128 * m.flags / 128=m.flags by omega]
 rw [← h.is]
theorem dE6 (b:Bs):∀ (k p:Nat),(aQ4 b k p).length=k
 | 0,_=>rfl
 | k+1,p=>by rw [aQ4,List.length_cons,dE6 b k]
theorem db7 {b:Bs}:∀ (k p:Nat),p+8 * k≤b.length→(∀ d∈aQ4 b k p,bp4 d=true)∧bp5 (aQ4 b k p)++b.drop (p+8 * k)=b.drop p
 | 0,p,_=>⟨(fun d hd=>by cases hd),rfl⟩
 | k+1,p,h=>by
  obtain ⟨h1,h2⟩:=db7 (b:=b) k (p+8) (by omega)
  have e:((p:Int)+4)=((p+4:Nat):Int):=by omega
  refine ⟨fun d hd=>?_,?_⟩
  ·rw [aQ4] at hd
   rcases List.mem_cons.1 hd with rfl | hd
   ·unfold bp4
    rw [Bool.and_eq_true,decide_eq_true_eq,bp3,e]
    exact ⟨be3 (by omega),dz1 (by omega)⟩
   ·exact h1 d hd
  ·rw [aQ4,bp5,e,bN5 (by omega),List.append_assoc,List.append_assoc,show p+8 * (k+1)=p+8+8 * k by omega,h2]
   show aa4 b p 4++(aa4 b ((p+4:Nat):Int) 4++b.drop (p+4+4))=_
   rw [bp7,bp7]
theorem eH7 {b:Bs} (h0:bt b 0=3) (h:(cw4 b).2.2=0):cw4 b=(cU1 b,0,0)∧ReR (cU1 b)∧aB2 (cU1 b)=b∧(cU1 b).subs.length≤b.length:=by
 unfold cw4 at h ⊢
 by_cases h1:b.length < 4
 ·rw [if_pos h1] at h; cases h
 by_cases h2:¬(bt b 1 % 128=0∧bt b 2=0)
 ·rw [if_neg h1,if_pos h2] at h; cases h
 by_cases h3:bt b 3=0
 ·rw [if_neg h1,if_neg h2,if_pos h3] at h; cases h
 by_cases h4:b.length < 4+8 * (bt b 3).toNat
 ·rw [if_neg h1,if_neg h2,if_neg h3,if_pos h4] at h; cases h
 rw [if_neg h1,if_neg h2,if_neg h3,if_neg h4] at h ⊢
 obtain ⟨k1,k2,k3,k4⟩:=cw6 h
 have h2:=Classical.byContradiction h2
 have hx:=ai5 b 1
 have hz:=ai5 b 3
 obtain ⟨g1,g2⟩:=db7 (b:=b) (bt b 3).toNat 4 (by omega)
 have hlen:=dE6 b (bt b 3).toNat 4
 refine ⟨k1,⟨rfl,cU3 rfl,by show bt b 1 / 128=0∨bt b 1 / 128=1; omega,by show 1≤(aQ4 b (bt b 3).toNat 4).length∧(aQ4 b (bt b 3).toNat 4).length≤255; omega,List.all_eq_true.2 g1,ap6.2 k2⟩,?_,by show (at2 (b.drop (4+8 * (bt b 3).toNat))).1.length≤_; omega⟩
 show [3,aa1 (128 * (bt b 1 / 128)),0,aa1 ((aQ4 b (bt b 3).toNat 4).length:Int)]++(bp5 (aQ4 b (bt b 3).toNat 4)++ab3 (at2 (b.drop (4+8 * (bt b 3).toNat))).1)=b
 rw [k3,g2,hlen,show 128 * (bt b 1 / 128)=bt b 1 by omega,show (((bt b 3).toNat:Nat):Int)=bt b 3 by omega]
 have:=eo9 (b:=b) (by omega)
 rw [h0,h2.2] at this
 exact this
end Go.VP
