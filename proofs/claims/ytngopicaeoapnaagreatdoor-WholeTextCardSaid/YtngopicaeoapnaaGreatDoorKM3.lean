import Derived.Test.YtngopicaeoapnaaGreatDoorKM0
import Derived.Test.YtngopicaeoapnaaGreatDoorKM1
import Derived.Test.YtngopicaeoapnaaGreatDoorKM2
import Derived.Test.YtngopicaeoapnaaGreatDoorKFGood
import Derived.Test.YtngopicaeoapnaaGreatDoorKFQ3
import Derived.Test.YtngopicaeoapnaaGreatDoorKFQ6
import Derived.Test.YtngopicaeoapnaaGreatDoorKXM
import Derived.Test.YtngopicaeoapnaaGreatDoorKFQ0
import Derived.Test.YtngopicaeoapnaaGreatDoorKFQ1
import Derived.Test.YtngopicaeoapnaaGreatDoorKFQ2
set_option linter.unusedVariables false
set_option linter.unusedSimpArgs false
set_option maxRecDepth 100000
namespace Go.VP
open Go Go.VI
theorem dE7 {m:Msg} (h:avB m=true):RqR m∨RpR m∨AkR m∨ReR m:=by
 unfold avB at h
 simp only [Bool.or_eq_true,aN8,aN9,bw8] at h
 rcases h with h | (h | h) | h
 ·exact .inl h
 ·exact .inr (.inl h)
 ·exact .inr (.inr (.inl h))
 ·exact .inr (.inr (.inr h))
theorem ds5 {m:Msg} (h:RqR m∨RpR m∨AkR m∨ReR m):avB m=true:=by
 unfold avB
 simp only [Bool.or_eq_true,aN8,aN9,bw8]
 rcases h with h | h | h | h
 ·exact .inl h
 ·exact .inr (.inl (.inl h))
 ·exact .inr (.inl (.inr h))
 ·exact .inr (.inr h)
theorem ey6 {m:Msg} (h:RqR m):al2 m=am4 m:=by unfold al2; rw [if_pos (aN8.2 h)]
theorem ey7 {m:Msg} (h:RpR m):al2 m=am5 m:=by
 have:=h.kind
 unfold al2; rw [if_neg (fun q=>by have:=(aN8.1 q).kind; omega),if_pos (aN9.2 (.inl h)),if_neg (by omega)]
theorem ey8 {m:Msg} (h:AkR m):al2 m=aO0 m:=by
 have:=h.kind
 unfold al2; rw [if_neg (fun q=>by have:=(aN8.1 q).kind; omega),if_pos (aN9.2 (.inr h)),if_pos (by omega)]
theorem ey9 {m:Msg} (h:ReR m):al2 m=aB2 m:=by
 have:=h.kind
 unfold al2; rw [if_neg (fun q=>by have:=(aN8.1 q).kind; omega),if_neg (fun q=>by rcases aN9.1 q with q | q <;> (have:=q.kind; omega)),if_pos (bw8.2 h)]
theorem eW0 {m:Msg} (h:avB m=true):aK8 (al2 m)=(m,0,0)∧1≤bt (al2 m) 0∧bt (al2 m) 0≤4∧(al2 m).length≠0:=by
 have ne:∀ b:Bs,1≤bt b 0→b.length≠0:=fun b hb q=>by
  have:b=[]:=List.eq_nil_of_length_eq_zero q
  subst this
  have:bt [] 0=0:=rfl
  omega
 unfold aK8
 rcases dE7 h with h | h | h | h
 ·obtain ⟨k1,k2⟩:=eR0 h
  rw [ey6 h,k2,if_pos rfl]
  exact ⟨k1,by omega,by omega,ne _ (by omega)⟩
 ·obtain ⟨k1,k2⟩:=eR1 h
  rw [ey7 h,k2,if_neg (by decide),if_neg (by decide)]
  exact ⟨k1,by omega,by omega,ne _ (by omega)⟩
 ·obtain ⟨k1,k2⟩:=eR2 h
  rw [ey8 h,k2,if_neg (by decide),if_neg (by decide)]
  exact ⟨k1,by omega,by omega,ne _ (by omega)⟩
 ·obtain ⟨k1,k2⟩:=eR3 h
  rw [ey9 h,k2,if_neg (by decide),if_pos rfl]
  exact ⟨k1,by omega,by omega,ne _ (by omega)⟩
theorem dE8 {m:Msg} (h:avB m=true):aw0 [m]=if 65535 < (al2 m).length then ([],0,10) else (al2 m,0,0):=by
 unfold aw0
 rw [dy9 (fun x hx=>by rw [List.mem_singleton.1 hx]; exact h)]
theorem eH8 {l:List Msg} (h:(aw0 l).2.2=0):∃ m,l=[m]∧avB m=true∧aw0 l=(al2 m,0,0)∧(al2 m).length≤65535:=by
 have h0:=h
 unfold aw0 at h0
 split at h0
 ·cases h0
 ·rename_i hb
  have hok:=bC7 hb
  split at h0
  ·cases h0
  ·rename_i m
   have hm:=hok m (by simp)
   rw [dE8 hm] at h ⊢
   by_cases q:65535 < (al2 m).length
   ·rw [if_pos q] at h; cases h
   ·rw [if_neg q]; exact ⟨m,rfl,hm,rfl,by omega⟩
  ·cases h0
theorem eR4 {l:List Msg} (h:(aw0 l).2.2=0):bN4 (aw0 l).1=(l,0,0)∧(aw0 l).1.length≤65535:=by
 obtain ⟨m,rfl,hm,he,hl⟩:=eH8 h
 rw [he]
 obtain ⟨k1,k2,k3,k4⟩:=eW0 hm
 refine ⟨?_,hl⟩
 dsimp only
 unfold bN4
 rw [if_neg (by omega),if_neg k4,if_neg (by omega),k1,if_neg (show ¬(0:Int)≠0 by decide)]
theorem eH9 {b:Bs} (h:(bN4 b).2.2=0):∃ m,bN4 b=([m],0,0)∧avB m=true∧al2 m=b∧aw0 [m]=(b,0,0)∧b.length≤65535∧m.subs.length≤b.length:=by
 unfold bN4 at h ⊢
 by_cases h1:65535 < b.length
 ·rw [if_pos h1] at h; cases h
 by_cases h2:b.length=0
 ·rw [if_neg h1,if_pos h2] at h; cases h
 by_cases h3:bt b 0 < 1∨4 < bt b 0
 ·rw [if_neg h1,if_neg h2,if_pos h3] at h; cases h
 by_cases h4:(aK8 b).2.2≠0
 ·rw [if_neg h1,if_neg h2,if_neg h3,if_pos h4] at h; exact absurd h h4
 rw [if_neg h1,if_neg h2,if_neg h3,if_neg h4]
 have h4:=Classical.byContradiction h4
 have fin:∀ m,aK8 b=(m,0,0)→avB m=true→al2 m=b→m.subs.length≤b.length→∃ m',([(aK8 b).1],(0:Int),(0:Int))=([m'],0,0)∧avB m'=true∧al2 m'=b∧aw0 [m']=(b,0,0)∧b.length≤65535∧m'.subs.length≤b.length:=fun m e hm hp hs=>by
  refine ⟨m,by rw [e],hm,hp,?_,by omega,hs⟩
  rw [dE8 hm,hp,if_neg h1]
 by_cases c1:bt b 0=1
 ·have e:aK8 b=cw3 b:=by unfold aK8; rw [if_pos c1]
  rw [e] at h4 fin ⊢
  obtain ⟨k1,k2,k3,k4⟩:=eH4 c1 h4
  exact fin _ k1 (ds5 (.inl k2)) (by rw [ey6 k2,k3]) k4
 by_cases c3:bt b 0=3
 ·have e:aK8 b=cw4 b:=by unfold aK8; rw [if_neg c1,if_pos c3]
  rw [e] at h4 fin ⊢
  obtain ⟨k1,k2,k3,k4⟩:=eH7 c3 h4
  exact fin _ k1 (ds5 (.inr (.inr (.inr k2)))) (by rw [ey9 k2,k3]) k4
 have e:aK8 b=bc3 b:=by unfold aK8; rw [if_neg c1,if_neg c3]
 rw [e] at h4 fin ⊢
 by_cases c4:bt b 0=4
 ·obtain ⟨k1,k2,k3,k4⟩:=eH6 (by omega) c4 h4
  exact fin _ k1 (ds5 (.inr (.inr (.inl k2)))) (by rw [ey8 k2,k3]) k4
 ·obtain ⟨k1,k2,k3,k4⟩:=eH5 c4 (by have:=ai5 b 0; omega) h4
  exact fin _ k1 (ds5 (.inr (.inl k2))) (by rw [ey7 k2,k3]) k4
theorem cj3.fewS {l:List Sub} (h:cj3 l) (hl:l.length≤1000000):az5 l:=⟨by omega,fun y hy=>by have:=(h y hy).2.2; omega⟩
theorem eI0 {m:Msg} (h:avB m=true) (hs:m.subs.length≤1000000):aK7 m:=by
 have z:IntKind.has .i64 0:=has64.2 (by omega)
 have w8:∀ {n:Int},W8 n→IntKind.has .i64 n:=fun h=>has64.2 (by have:=h.1; have:=h.2; omega)
 rcases dE7 h with h | h | h | h
 ·have hl:m.list=[]:=congrArg aa0.list h.is
  have hi:m.interval=0:=congrArg aa0.interval h.is
  exact ⟨h.nonce.has,h.seq.has,h.seq2.has,w8 h.hops,by rw [hi]; exact z,by rw [hl]; simp,by rw [hl]; intro d hd; (cases hd),(ap6.1 h.subs).fewS hs,hs⟩
 ·have hl:m.list=[]:=congrArg aa0.list h.is
  have h1:m.nonce=0:=congrArg aa0.nonce h.is
  have h2:m.seq2=0:=congrArg aa0.seq2 h.is
  exact ⟨by rw [h1]; exact z,h.seq.has,by rw [h2]; exact z,w8 h.hops,h.life.has,by rw [hl]; simp,by rw [hl]; intro d hd; (cases hd),(ap6.1 h.subs).fewS hs,hs⟩
 ·have hl:m.list=[]:=congrArg aa0.list h.is
  have h1:m.nonce=0:=congrArg aa0.nonce h.is
  have h2:m.seq2=0:=congrArg aa0.seq2 h.is
  have h3:m.seq=0:=congrArg aa0.seq h.is
  have h4:m.hops=0:=congrArg aa0.hops h.is
  have h5:m.interval=0:=congrArg aa0.interval h.is
  exact ⟨by rw [h1]; exact z,by rw [h3]; exact z,by rw [h2]; exact z,by rw [h4]; exact z,by rw [h5]; exact z,by rw [hl]; simp,by rw [hl]; intro d hd; (cases hd),(ap6.1 h.subs).fewS hs,hs⟩
 ·have h1:m.nonce=0:=congrArg aa0.nonce h.is
  have h2:m.seq2=0:=congrArg aa0.seq2 h.is
  have h3:m.seq=0:=congrArg aa0.seq h.is
  have h4:m.hops=0:=congrArg aa0.hops h.is
  have h5:m.interval=0:=congrArg aa0.interval h.is
  exact ⟨by rw [h1]; exact z,by rw [h3]; exact z,by rw [h2]; exact z,by rw [h4]; exact z,by rw [h5]; exact z,by have:=h.len; omega,fun d hd=>(cw2 (List.all_eq_true.1 h.list d hd)).2.has,(ap6.1 h.subs).fewS hs,hs⟩
end Go.VP
namespace Go.VP
open Go Go.VI
structure dM0 (m:Msg):Prop where
 rip:RM m
 ng:dr8 m
 av:aK7 m
 lean:aC4 m
theorem eX5 {m:Msg} (g:ax8 m) (h:Few m):dM0 m:=by
 have hl:=h.lite
 have g0:=g
 obtain ⟨g1,g2,g3,g4,g5,g6,g7,g8,g9,g10,g11,g12,g13,g14,g15,g16,g17,g18,g19,g20,g21,g22,g23,_⟩:=g
 have h1:=hl.list
 have h2:=hl.subs
 exact ⟨eV9 g0 h,⟨g9,g8,g2,by omega,by omega⟩,⟨g18,g13,g14,g17,g15,by omega,fun d hd=>(g22.2 d hd).2.1,hl.fewS,by omega⟩,eX2 g0 hl⟩
open Classical in
noncomputable def cR4 (p:Int) (m:Msg):Bool:=if p=1 then aT8 m else if p=2 then ngB m else if p=3 then avB m else if p=4 then aQ3 m else false
end Go.VP
namespace Go.VP
open Go Go.VI
noncomputable def bC8 (p:Int) (b:Bs):List Msg × Int × Int:=if p=1 then aT9 b else if p=2 then aU1 b else if p=3 then bN4 b else if p=4 then bp1 b else ([],0,1)
noncomputable def bX9 (p:Int) (l:List Msg):Bs × Int × Int:=if p=1 then aU0 l else if p=2 then aK6 l else if p=3 then aw0 l else if p=4 then dy3 l else ([],0,1)
def ds6 (p:Int) (m:Msg):Prop:=(p=1→RM m)∧(p=2→dr8 m)∧(p=3→aK7 m)∧(p=4→aC4 m)
theorem dM0.p {m:Msg} (g:dM0 m) (p:Int):ds6 p m:=⟨fun _=>g.rip,fun _=>g.ng,fun _=>g.av,fun _=>g.lean⟩
theorem eg3 {p:Int} {l:List Msg} (g:∀ m∈l,ds6 p m) (hl:l.length≤100000) (h1:p=1→l.length≤1000):aG6 (p,l,())=some (bd4 (bX9 p l),()):=by
 rw [cU7]
 unfold bX9
 refine ac8 (fun h=>by rw [if_pos h,eV8 (fun m hm=>(g m hm).1 h) (h1 h)]; rfl) (fun h1=>?_)
 rw [if_neg h1]
 refine ac8 (fun h=>by rw [if_pos h,eG6 (fun m hm=>(g m hm).2.1 h) (by omega)]; rfl) (fun h2=>?_)
 rw [if_neg h2]
 refine ac8 (fun h=>by rw [if_pos h,eH3 (fun m hm=>(g m hm).2.2.1 h) (by omega)]; rfl) (fun h3=>?_)
 rw [if_neg h3]
 refine ac8 (fun h=>by rw [if_pos h,eP2 hl (fun m hm=>(g m hm).2.2.2 h)]; rfl) (fun h4=>?_)
 rw [if_neg h4]
theorem ez0 {l:List Msg} (h:(aU0 l).2.2=0):aT9 (aU0 l).1=(l,0,0)∧(aU0 l).1.length≤504:=by
 unfold aU0 at h ⊢
 cases hb:bX7 l 0 with
 | some i=>rw [hb] at h; simp at h
 | none=>
  rw [hb] at h
  have hok:=cR0 hb
  cases l with
  | nil=>simp at h
  | cons f r=>
   dsimp only at h ⊢
   have hmo:((0:Nat):Int)≤aK5 f:=by unfold aK5; split <;> omega
   obtain ⟨h1,h2⟩:=dW7 (f::r) 0 _ hmo h
   rw [dg5 (f::r) 0 _ (by simpa using h1) h2]
   have ht:∀ m∈r,bd9 f m:=fun m hm=>by
    obtain ⟨j,hj,e⟩:=List.mem_iff_getElem.1 hm
    have:=h2 (j+1) (by simpa using hj) (by omega)
    rw [List.getElem_cons_succ,e] at this
    exact this
   have hmo2:(((f::r).length:Nat):Int)≤aK5 f:=by simpa using h1
   refine ⟨eo2 hok ht (fun c=>?_) hmo2,?_⟩
   ·cases r with
    | nil=>rfl
    | cons x _=>exact absurd c (ht x (by simp)).2.2.2.2
   ·have hfl:=dg6 hok
    have hhl:=bX8 (hok f (by simp))
    dsimp only
    rw [List.length_append,hfl]
    unfold aK5 at hmo2
    by_cases ha:f.auth=[]
    ·rw [if_pos ha] at hmo2 hhl; omega
    ·rw [if_neg ha] at hmo2 hhl; omega
theorem eW1 {p:Int} {l:List Msg} (h:(bX9 p l).2.2=0):bC8 p (bX9 p l).1=(l,0,0)∧(bX9 p l).1.length≤65535:=by
 unfold bX9 at h ⊢
 unfold bC8
 by_cases h1:p=1
 ·simp only [if_pos h1] at h ⊢
  have:=ez0 h
  exact ⟨this.1,by omega⟩
 simp only [if_neg h1] at h ⊢
 by_cases h2:p=2
 ·simp only [if_pos h2] at h ⊢; exact eQ4 h
 simp only [if_neg h2] at h ⊢
 by_cases h3:p=3
 ·simp only [if_pos h3] at h ⊢; exact eR4 h
 simp only [if_neg h3] at h ⊢
 by_cases h4:p=4
 ·simp only [if_pos h4] at h ⊢
  obtain ⟨hB,s,d,k1,k2,k3,k4,k5⟩:=eP1 h
  have hp:=ew9 k4 k2
  rw [k3] at k5 ⊢
  exact ⟨hp,by dsimp only at k5 ⊢; omega⟩
 ·simp only [if_neg h4] at h; cases h
theorem dX5 {m:Msg} (h:NgR m):dr8 m∧Small m:=by
 have hl:m.list=[]:=congrArg aa0.list h.is
 have hs:m.subs=[]:=congrArg aa0.subs h.is
 have:=h.tag
 have:=h.plen
 have:=h.cmd
 exact ⟨⟨has64.2 (by omega),has64.2 (by omega),has64.2 (by omega),by rw [hl]; simp,by rw [hs]; simp⟩,by rw [hl]; simp,by rw [hs]; simp⟩
theorem ez1 {b:Bs}:∀ m∈(aT9 b).1,okR m→RM m:=fun m hm ho=>by
 have hs:=en8 (b:=b) (P:=fun m=>m.list.length≤1000000000∧m.subs.length≤1000000000) (fun c v s e=>by simp [aq8]) m hm
 obtain ⟨_,_,_,_,_,_,_,h⟩:=ho
 exact ⟨has64.2 (by omega),has64.2 (by omega),hs.1,hs.2⟩
theorem eI1 {p:Int} {b:Bs} (hb:b.length≤100000) (h:(bC8 p b).2.2=0):(bC8 p b).2.1=0∧(∀ m∈(bC8 p b).1,cR4 p m=true∧ds6 p m∧Small m)∧(bC8 p b).1.length≤65535∧(p=1→(bC8 p b).1.length≤1000):=by
 unfold bC8 at h ⊢
 unfold cR4 ds6
 by_cases h1:p=1
 ·simp only [if_pos h1] at h ⊢
  obtain ⟨r,r1,r2,r3,r4,r5⟩:=eo0 h
  have hrm:=ez1 (b:=b)
  rw [r1] at hrm ⊢
  exact ⟨rfl,fun m hm=>⟨aN5.2 (r4 m hm),⟨fun _=>hrm m hm (r4 m hm),fun q=>by omega,fun q=>by omega,fun q=>by omega⟩,(hrm m hm (r4 m hm)).list,(hrm m hm (r4 m hm)).subs⟩,by dsimp only; omega,fun _=>by dsimp only; omega⟩
 simp only [if_neg h1] at h ⊢
 by_cases h2:p=2
 ·simp only [if_pos h2] at h ⊢
  obtain ⟨k0,k1,k2,k3,_,_⟩:=eG8 h
  exact ⟨k0,fun m hm=>⟨bg8.2 (k1 m hm),⟨fun q=>by omega,fun _=>(dX5 (k1 m hm)).1,fun q=>by omega,fun q=>by omega⟩,(dX5 (k1 m hm)).2⟩,by omega,fun q=>absurd q h1⟩
 simp only [if_neg h2] at h ⊢
 by_cases h3:p=3
 ·simp only [if_pos h3] at h ⊢
  obtain ⟨m,k1,k2,k3,k4,k5,k6⟩:=eH9 h
  rw [k1]
  have hg:=eI0 k2 (by omega)
  exact ⟨rfl,fun x hx=>by rw [List.mem_singleton.1 hx]; exact ⟨k2,⟨fun q=>by omega,fun q=>by omega,fun _=>hg,fun q=>by omega⟩,by have:=hg.list; omega,by have:=hg.subs1; omega⟩,by simp,fun q=>absurd q h1⟩
 simp only [if_neg h3] at h ⊢
 by_cases h4:p=4
 ·simp only [if_pos h4] at h ⊢
  obtain ⟨k1,k2⟩:=dV6 b
  refine ⟨?_,fun m hm=>⟨bg7.2 (k1 m hm).1,⟨fun q=>by omega,fun q=>by omega,fun q=>by omega,fun _=>(k1 m hm).2⟩,(k1 m hm).2.small⟩,k2,fun q=>absurd q h1⟩
  rcases cQ5 b with ⟨q,_⟩ | ⟨l,_,_,_,_,q⟩
  ·exact absurd h q
  ·rw [q]
 ·simp only [if_neg h4] at h; cases h
end Go.VP
namespace Go.VP
open Go Go.VI
theorem eW2:aN1 ()=some ((true,()),()):=by kernel_rfl
theorem eI2 {α:Type} (f:(Bool × Unit) × Unit→Option α):(aN1 ()).bind f=f ((true,()),()):=by rw [eW2]; rfl
end Go.VP
namespace Go.VP
open Go Go.VI
theorem ez2 {m:aa2} (h:bz8 m):bT7 (m,())=some (((ai4 m).getD [],(ai4 m).isSome,()),()):=by
 show aR5 _=_
 unfold aR5
 dsimp only
 rw [if_pos h]
theorem eI3 {s:Bs} (h:s.length≤1000000):by3 (s,())=some (((aB6 s).getD (ak6 0),(aB6 s).isSome,()),()):=by
 show aY1 _=_
 unfold aY1
 dsimp only
 rw [if_pos h]
theorem eI4 {m:aa2} (h:de2 m):bz8 m:=by
 obtain ⟨a,b,c,d,e,f,g,i,j,k,l⟩:=h
 exact ⟨by omega,by omega,by omega,by omega,by omega,by omega,by omega,⟨by omega,fun x hx=>by have:=k x hx; omega⟩,⟨by omega,fun x hx=>by have:=l x hx; omega⟩⟩
theorem ez3 {m:aa2} {s:Bs} (h:ai4 m=some s):(aj9 m=some m∧ad7 m)∧s=an3 m.kind++Go.VI.ad5 m fsM:=by
 unfold ai4 at h
 split at h
 ·rename_i hq; injection h with h; exact ⟨hq,h.symm⟩
 ·cases h
theorem eI5 (k:Int):(an3 k).length≤10:=by
 unfold an3
 split
 ·rename_i h
  have:k=1∨k=2∨k=3∨k=4∨k=5∨k=6∨k=7∨k=8∨k=9∨k=10∨k=11∨k=12∨k=13∨k=14:=by omega
  rcases this with rfl | rfl | rfl | rfl | rfl | rfl | rfl | rfl | rfl | rfl | rfl | rfl | rfl | rfl <;> decide
 ·simp
theorem eg4 {m:aa2} {K:Nat}:∀ (l:List (TFd aa2)),(∀ f∈l,(f.get m).length≤K∧f.w.length≤10)→(Go.VI.ad5 m l).length≤(K+12) * l.length
 | [],_=>by simp [Go.VI.ad5]
 | f::r,h=>by
  have h1:=h f (by simp)
  have h2:=eg4 r (fun g hg=>h g (by simp [hg]))
  rw [Go.VI.ad5,List.length_append,List.length_cons,Nat.mul_succ]
  split
  ·simp; omega
  ·simp only [List.length_cons,List.length_append]; omega
theorem dE9 (c:UInt8) (k:Nat) (l:List Bs) (n:Nat) (h:∀ p∈l,p.length≤k) (hn:l.length≤n):(ai7 c l).length≤(k+1) * n:=
 Nat.le_trans (joinC_le c k l h) (Nat.mul_le_mul_left _ hn)
theorem eR5 {m:aa2} (h:Few m):∀ f∈fsM,(f.get m).length≤40000:=by
 have nl:∀ (w:Bs) (g:aa2→Int) (p:aa2→Int→aa2),((am0 w g p).get m).length≤40000:=fun w g p=>by
  show (if g m=0 then [] else as2 (g m).toNat).length≤_
  split
  ·simp
  ·have:=decT_len (g m).toNat; omega
 have tl:∀ (w:Bs) (g:aa2→Bs) (p:aa2→Bs→aa2),(g m).length≤300→((aq3 w g p).get m).length≤40000:=fun w g p hg=>by
  show (ag9 (g m)).length≤_
  rw [hexs_len]; omega
 have h1:=h.ap; have h2:=h.ni; have h3:=h.ao; have h4:=h.data
 intro f hf
 simp only [fsM,List.mem_cons,List.not_mem_nil,or_false] at hf
 rcases hf with rfl | rfl | rfl | rfl | rfl | rfl | rfl | rfl | rfl | rfl | rfl | rfl | rfl | rfl | rfl | rfl | rfl | rfl | rfl | rfl | rfl | rfl | rfl | rfl
 any_goals exact nl _ _ _
 any_goals exact tl _ _ _ (by omega)
 ·show (ai7 44 ((m.list.map dTo).map an1)).length≤_
  have:=dE9 44 114 ((m.list.map dTo).map an1) 300 (fun p hp=>by
   obtain ⟨x,hx,rfl⟩:=List.mem_map.1 hp
   obtain ⟨d,hd,rfl⟩:=List.mem_map.1 hx
   have e:(an1 (dTo d)).length=(ag9 d.addr).length+(1+(as2 d.seq.toNat).length):=by simp [an1,dTo]; omega
   have:=h.ds d hd; have:=decT_len d.seq.toNat
   rw [hexs_len] at e; omega) (by simp; exact h.list)
  omega
 ·show (ai7 44 ((m.subs.map sTo).map au0)).length≤_
  have:=dE9 44 614 ((m.subs.map sTo).map au0) 60 (fun p hp=>by
   obtain ⟨x,hx,rfl⟩:=List.mem_map.1 hp
   obtain ⟨d,hd,rfl⟩:=List.mem_map.1 hx
   have e:(au0 (sTo d)).length=(as2 d.type_.toNat).length+(1+(ag9 d.data).length):=by simp [au0,sTo]; omega
   have:=h.ss d hd; have:=decT_len d.type_.toNat
   rw [hexs_len] at e; omega) (by simp; exact h.subs)
  omega
theorem eI6:∀ f∈fsM,f.w.length≤10:=by
 intro f hf
 simp only [fsM,List.mem_cons,List.not_mem_nil,or_false] at hf
 rcases hf with rfl | rfl | rfl | rfl | rfl | rfl | rfl | rfl | rfl | rfl | rfl | rfl | rfl | rfl | rfl | rfl | rfl | rfl | rfl | rfl | rfl | rfl | rfl | rfl <;> decide
theorem eI7 {m:aa2} (h:Few m):((ai4 m).getD []).length≤1000000:=by
 cases hp:ai4 m with
 | none=>simp
 | some s=>
  have h1:=eI5 m.kind
  have h2:=eg4 (m:=m) (K:=40000) fsM (fun f hf=>⟨eR5 h f hf,eI6 f hf⟩)
  rw [show fsM.length=24 from rfl] at h2
  rw [(ez3 hp).2]
  show (an3 m.kind++Go.VI.ad5 m fsM).length≤_
  rw [List.length_append]; omega
end Go.VP
namespace Go.VP
open Go Go.VI
theorem at8 {x m:Msg} (e:x=m) (h:ad7 x):ad7 m:=e ▸ h
theorem aa7:rng 0:=⟨by omega,by omega⟩
theorem aE0 {m:Msg} (h:bareB m=true):aj9 m=some m:=by
 have e:bareOf m=aj9 m:=rfl
 unfold bareB at h
 rw [e] at h
 cases hx:aj9 m with
 | none=>rw [hx] at h; simp at h
 | some x=>rw [hx] at h; dsimp only at h; exact congrArg some (by simpa [eqB] using h)
theorem eI8 {m:Msg} (h:okR m):aj9 m=some m∧ad7 m:=by
 obtain ⟨k,b,c,v,_,_,_,d⟩:=h
 have b:=aE0 b
 refine ⟨b,?_⟩
 unfold aj9 at b
 rw [if_pos k] at b
 have e:=Option.some.inj b
 have hc:rng m.cmd:=by unfold rng; omega
 have hv:rng m.ver:=by unfold rng; omega
 have hd:rng m.family∧rng m.tag∧rng m.plen∧rng m.metric:=by
  unfold rng
  rcases d with ⟨a1,_,a2,a3,_,_,a4⟩ | ⟨a1,a2,a3,⟨_,a4,a5,_⟩ | ⟨_,a4,a5,a6,a7,_⟩⟩ <;> omega
 exact at8 e ⟨hc,hv,hd.1,aa7,hd.2.2.1,hd.2.1,hd.2.2.2,aa7,aa7,aa7,aa7,aa7,aa7,aa7,aa7,(fun d hd=>by cases hd),(fun d hd=>by cases hd)⟩
theorem eR6 {m:Msg} (h:NgR m):aj9 m=some m∧ad7 m:=by
 have k:=h.kind
 have b:=aE0 h.bare
 refine ⟨b,?_⟩
 unfold aj9 at b
 rw [if_neg (by omega),if_pos k] at b
 have e:=Option.some.inj b
 have hp:=h.plen
 have hc:rng m.cmd:=by have:=h.cmd; unfold rng; omega
 have ht:rng m.tag:=by have:=h.tag; unfold rng; omega
 have hm:rng m.metric:=by have:=h.metric; unfold rng; omega
 have hpl:rng m.plen:=by unfold rng; omega
 exact at8 e ⟨hc,aa7,aa7,aa7,hpl,ht,hm,aa7,aa7,aa7,aa7,aa7,aa7,aa7,aa7,(fun d hd=>by cases hd),(fun d hd=>by cases hd)⟩
theorem bN6 {n:Int} (h:W32 n):rng n:=by unfold W32 at h; unfold rng; omega
theorem ez4 {n:Int} (h:W8 n):rng n:=by unfold W8 at h; unfold rng; omega
theorem dM1 {l:List Sub} (h:aP3 l=true):∀ d∈l,rng d.type_:=fun d hd=>by
 have:=ap6.1 h d hd
 unfold rng; omega
theorem cw7 {l:List Sub} (h:al9 l=true):∀ d∈l,rng d.type_:=fun d hd=>by
 unfold al9 at h
 simp only [Bool.and_eq_true] at h
 have:=de1.1 h.1 d hd
 unfold rng; omega
theorem eR7 {m:Msg} (h:avB m=true):aj9 m=some m∧ad7 m:=by
 unfold avB at h
 simp only [Bool.or_eq_true] at h
 rcases h with h | h | h
 ·have h:=aN8.1 h
  have k:=h.kind
  have b:=aE0 h.bare
  refine ⟨b,?_⟩
  unfold aj9 at b
  rw [if_neg (by omega),if_neg (by omega),if_pos k] at b
  have hf:rng m.flags:=by have:=h.flags; unfold rng; omega
  exact at8 (Option.some.inj b) ⟨aa7,aa7,aa7,aa7,aa7,aa7,aa7,bN6 h.seq,bN6 h.seq2,aa7,hf,ez4 h.hops,bN6 h.nonce,aa7,aa7,(fun d hd=>by cases hd),dM1 h.subs⟩
 ·rcases aN9.1 h with h | h
  ·have k:=h.kind
   have b:=aE0 h.bare
   refine ⟨b,?_⟩
   unfold aj9 at b
   rw [if_neg (by omega),if_neg (by omega),if_neg (by omega),if_pos k] at b
   have hf:rng m.flags:=by have:=h.flags; unfold rng; omega
   have hp:rng m.plen:=by have:=h.plen; unfold rng; omega
   exact at8 (Option.some.inj b) ⟨aa7,aa7,aa7,aa7,hp,aa7,aa7,bN6 h.seq,aa7,bN6 h.life,hf,ez4 h.hops,aa7,aa7,aa7,(fun d hd=>by cases hd),dM1 h.subs⟩
  ·have k:=h.kind
   have b:=aE0 h.bare
   refine ⟨b,?_⟩
   unfold aj9 at b
   rw [if_neg (by omega),if_neg (by omega),if_neg (by omega),if_neg (by omega),if_neg (by omega),if_pos k] at b
   exact at8 (Option.some.inj b) ⟨aa7,aa7,aa7,aa7,aa7,aa7,aa7,aa7,aa7,aa7,aa7,aa7,aa7,aa7,aa7,(fun d hd=>by cases hd),dM1 h.subs⟩
 ·have h:=bw8.1 h
  have k:=h.kind
  have b:=aE0 h.bare
  refine ⟨b,?_⟩
  unfold aj9 at b
  rw [if_neg (by omega),if_neg (by omega),if_neg (by omega),if_neg (by omega),if_pos k] at b
  have hf:rng m.flags:=by have:=h.flags; unfold rng; omega
  refine at8 (Option.some.inj b) ⟨aa7,aa7,aa7,aa7,aa7,aa7,aa7,aa7,aa7,aa7,hf,aa7,aa7,aa7,aa7,fun d hd=>?_,dM1 h.subs⟩
  have:=List.all_eq_true.1 h.list d hd
  unfold bp4 at this
  simp only [Bool.and_eq_true] at this
  exact bN6 (bp3.1 this.2)
theorem dX6 {ae p:Int} (h:bo8 ae≤p∧p≤aE8 ae):rng p:=by
 unfold bo8 aE8 at h
 unfold rng
 repeat' split at h
 all_goals omega
theorem ez5 {m:Msg} (h:bc0 m):aj9 m=some m∧ad7 m:=by
 cases h with
 | field h=>
  have hn:rng m.nonce:=by have:=h.nonce; unfold rng; omega
  have hi:rng m.interval:=by have:=h.interval; unfold rng; omega
  have hs:rng m.seq:=by have:=h.seq; unfold rng; omega
  have hc:rng m.cost:=by have:=h.cost; unfold rng; omega
  have b:=aE0 h.bare
  refine ⟨b,?_⟩
  unfold aj9 at b
  rcases h.kinds with k | k | ⟨k,hf⟩ | ⟨k,ha⟩
  ·rw [if_neg (by omega),if_neg (by omega),if_neg (by omega),if_neg (by omega),if_neg (by omega),if_neg (by omega),if_pos k] at b
   exact at8 (Option.some.inj b) ⟨aa7,aa7,aa7,aa7,aa7,aa7,aa7,aa7,aa7,hi,aa7,aa7,hn,aa7,aa7,(fun d hd=>by cases hd),cw7 h.subs⟩
  ·rw [if_neg (by omega),if_neg (by omega),if_neg (by omega),if_neg (by omega),if_neg (by omega),if_neg (by omega),if_neg (by omega),if_pos k] at b
   exact at8 (Option.some.inj b) ⟨aa7,aa7,aa7,aa7,aa7,aa7,aa7,aa7,aa7,aa7,aa7,aa7,hn,aa7,aa7,(fun d hd=>by cases hd),cw7 h.subs⟩
  ·rw [if_neg (by omega),if_neg (by omega),if_neg (by omega),if_neg (by omega),if_neg (by omega),if_neg (by omega),if_neg (by omega),if_neg (by omega),if_pos k] at b
   have hf:rng m.flags:=by unfold rng; omega
   exact at8 (Option.some.inj b) ⟨aa7,aa7,aa7,aa7,aa7,aa7,aa7,hs,aa7,hi,hf,aa7,aa7,aa7,aa7,(fun d hd=>by cases hd),cw7 h.subs⟩
  ·rw [if_neg (by omega),if_neg (by omega),if_neg (by omega),if_neg (by omega),if_neg (by omega),if_neg (by omega),if_neg (by omega),if_neg (by omega),if_neg (by omega),if_pos k] at b
   have ha:rng m.ae:=by rcases by7 ha with h | h | h | h <;> (have:=h.1; unfold rng; omega)
   exact at8 (Option.some.inj b) ⟨aa7,aa7,aa7,ha,aa7,aa7,aa7,aa7,aa7,hi,aa7,aa7,aa7,hc,aa7,(fun d hd=>by cases hd),cw7 h.subs⟩
 | route h=>
  have ha:rng m.ae:=by have:=h.ae; unfold rng; omega
  have hp:rng m.plen:=dX6 h.plen
  have b:=aE0 h.bare
  refine ⟨b,?_⟩
  unfold aj9 at b
  rcases h.kinds with k | ⟨k,_,hs,hh,_⟩
  ·rw [if_neg (by omega),if_neg (by omega),if_neg (by omega),if_neg (by omega),if_neg (by omega),if_neg (by omega),if_neg (by omega),if_neg (by omega),if_neg (by omega),if_neg (by omega),if_neg (by omega),if_pos k] at b
   exact at8 (Option.some.inj b) ⟨aa7,aa7,aa7,ha,hp,aa7,aa7,aa7,aa7,aa7,aa7,aa7,aa7,aa7,aa7,(fun d hd=>by cases hd),cw7 h.subs⟩
  ·rw [if_neg (by omega),if_neg (by omega),if_neg (by omega),if_neg (by omega),if_neg (by omega),if_neg (by omega),if_neg (by omega),if_neg (by omega),if_neg (by omega),if_neg (by omega),if_neg (by omega),if_neg (by omega),if_pos k] at b
   have hs:rng m.seq:=by unfold rng; omega
   have hh:rng m.hops:=by unfold rng; omega
   exact at8 (Option.some.inj b) ⟨aa7,aa7,aa7,ha,hp,aa7,aa7,hs,aa7,aa7,aa7,hh,aa7,aa7,aa7,(fun d hd=>by cases hd),cw7 h.subs⟩
 | upd h=>
  have k:=h.kind
  obtain ⟨i1,_,i3,_⟩:=cq1.1 h.inn
  have ha:rng m.ae:=by unfold rng; omega
  have hp:rng m.plen:=dX6 i3
  have hi:rng m.interval:=by have:=h.iv; unfold rng; omega
  have hs:rng m.seq:=by have:=h.sq; unfold rng; omega
  have hm:rng m.metric:=by have:=h.me; unfold rng; omega
  have b:=aE0 h.bare
  refine ⟨b,?_⟩
  unfold aj9 at b
  rw [if_neg (by omega),if_neg (by omega),if_neg (by omega),if_neg (by omega),if_neg (by omega),if_neg (by omega),if_neg (by omega),if_neg (by omega),if_neg (by omega),if_neg (by omega),if_pos k] at b
  exact at8 (Option.some.inj b) ⟨aa7,aa7,aa7,ha,hp,aa7,hm,hs,aa7,hi,aa7,aa7,aa7,aa7,aa7,(fun d hd=>by cases hd),cw7 h.subs⟩
 | opq h=>
  have k:=h.kind
  have ht:rng m.type_:=by have:=h.ty; unfold rng; omega
  have b:=aE0 h.bare
  refine ⟨b,?_⟩
  unfold aj9 at b
  rw [if_neg (by omega),if_neg (by omega),if_neg (by omega),if_neg (by omega),if_neg (by omega),if_neg (by omega),if_neg (by omega),if_neg (by omega),if_neg (by omega),if_neg (by omega),if_neg (by omega),if_neg (by omega),if_neg (by omega),if_pos k] at b
  exact at8 (Option.some.inj b) ⟨aa7,aa7,aa7,aa7,aa7,aa7,aa7,aa7,aa7,aa7,aa7,aa7,aa7,aa7,ht,(fun d hd=>by cases hd),(fun d hd=>by cases hd)⟩
theorem ep0 {p:Int} {m:Msg} (h:cR4 p m=true):∃ s,ai4 m=some s:=by
 have key:aj9 m=some m∧ad7 m:=by
  unfold cR4 at h
  split at h
  ·exact eI8 (aN5.1 h)
  split at h
  ·exact eR6 (bg8.1 h)
  split at h
  ·exact eR7 h
  split at h
  ·exact ez5 (bg7.1 h)
  ·cases h
 unfold ai4
 rw [if_pos key]
 exact ⟨_,rfl⟩
end Go.VP
