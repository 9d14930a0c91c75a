import Derived.Test.YtbjjekbhopgonaaGreatKcM0
import Derived.Test.YtbjjekbhopgonaaGreatKcM1
import Derived.Test.YtbjjekbhopgonaaGreatKcM2
import Derived.Test.YtbjjekbhopgonaaGreatKcM3
import Derived.Test.YtbjjekbhopgonaaGreatKcFQ7
import Derived.Test.YtbjjekbhopgonaaGreatKcFGood
import Derived.Test.YtbjjekbhopgonaaGreatKcFQ11
import Derived.Test.YtbjjekbhopgonaaGreatKcFQ15
import Derived.Test.YtbjjekbhopgonaaGreatKcFQ4
import Derived.Test.YtbjjekbhopgonaaGreatKcFQ8
set_option linter.unusedVariables false
set_option linter.unusedSimpArgs false
set_option maxRecDepth 100000
namespace Go.VP
open Go Go.VI
theorem bq3 (b:Bs) (p:Nat):a06 b p 4++b.drop (p+4)=b.drop p:=by
 have:=ei8 b p 4
 rw [show ((4:Nat):Int)=4 from rfl] at this
 rw [this,← List.drop_drop,List.take_append_drop]
theorem bb2 {b:Bs} {p:Nat} (h:p+4≤b.length):(a06 b p 4).length=4:=by
 have:=a61 (s:=b) (p:=p) (n:=4) (by omega) (by omega) (by omega)
 omega
theorem ee3 {b:Bs} {p:Nat} (h:p+4≤b.length):W32 (num (a06 b p 4)):=by
 have:=aF3 (a06 b p 4)
 rw [bb2 h] at this
 exact ⟨this.1,by have:=this.2; omega⟩
theorem c51 {b:Bs} {p:Nat} (h:p+4≤b.length):be 4 (num (a06 b p 4))=a06 b p 4:=dZ0 4 _ (bb2 h)
theorem dp8 {m x:Msg} (h:a68 m=true) (hx:ab0 m=some x):m=x:=by
 unfold a68 at h
 rw [hx] at h
 exact (bC8.1 h).symm
theorem dp9 {m:Msg} (h:ab0 m=some m):a68 m=true:=by
 unfold a68; rw [h]; exact af8 m
theorem RqR.is {m:Msg} (h:RqR m):m=a00.mk 3 0 0 [] 0 0 [] 0 0 [] 0 [] m.seq m.seq2 0 m.flags m.hops m.nonce 0 m.addr m.orig [] 0 [] m.subs:=by
 have hk:=h.kind
 have:=dp8 h.bare (by unfold ab0; rw [if_neg (by omega),if_neg (by omega),if_pos hk])
 rw [hk] at this
 exact this
theorem eO5 {b:Bs} (h:¬b.length < 4):[a01 (bt b 0),a01 (bt b 1),a01 (bt b 2),a01 (bt b 3)]++b.drop 4=b:=by
 obtain ⟨w,x,y,z,r,rfl⟩:=cP0 h
 show [a01 (w.toNat:Int),a01 (x.toNat:Int),a01 (y.toNat:Int),a01 (z.toNat:Int)]++r=_
 rw [aJ5,aJ5,aJ5,aJ5]; rfl
theorem cV9 {b:Bs} {p:Nat} {m:Msg} (h:(ap1 b p m).2.2=0):ap1 b p m=(m,0,0)∧cV4 (ac1 (b.drop p)).1∧a73 (ac1 (b.drop p)).1=b.drop p∧2 * (ac1 (b.drop p)).1.length≤b.length:=by
 unfold ap1 at h ⊢
 by_cases q:(ac1 (b.drop p)).2.2≠0
 ·rw [if_pos q] at h; exact absurd h q
 ·rw [if_neg q]
  obtain ⟨_,k1,k2,k3⟩:=fi2 (Classical.byContradiction q)
  rw [List.length_drop] at k3
  exact ⟨rfl,k1,k2,by omega⟩
theorem fb6 {b:Bs} (h0:bt b 0=1) (h:(bH6 b).2.2=0):bH6 b=(e07 b,0,0)∧RqR (e07 b)∧c48 (e07 b)=b∧(e07 b).subs.length≤b.length:=by
 unfold bH6 at h ⊢
 by_cases h1:b.length < 24
 ·rw [if_pos h1] at h; cases h
 by_cases h2:¬(bt b 1 % 8=0∧bt b 2=0)
 ·rw [if_neg h1,if_pos h2] at h; cases h
 rw [if_neg h1,if_neg h2] at h ⊢
 obtain ⟨k1,k2,k3,k4⟩:=cV9 h
 have h2:=Classical.byContradiction h2
 have hx:=a31 b 1
 have hz:=a31 b 3
 refine ⟨k1,⟨rfl,dp9 rfl,by show 0≤bt b 1 / 8∧bt b 1 / 8≤31; omega,bb2 (p:=8) (by omega),bb2 (p:=16) (by omega),ee3 (p:=4) (by omega),ee3 (p:=12) (by omega),ee3 (p:=20) (by omega),hz,aA8.2 k2⟩,?_,by show (ac1 (b.drop 24)).1.length≤_; omega⟩
 show [1,a01 (8 * (bt b 1 / 8)),0,a01 (bt b 3)]++(be 4 (num (a06 b (4:Nat) 4))++(a06 b (8:Nat) 4++(be 4 (num (a06 b (12:Nat) 4))++(a06 b (16:Nat) 4++(be 4 (num (a06 b (20:Nat) 4))++a73 (ac1 (b.drop 24)).1)))))=b
 rw [k3,c51 (by omega),c51 (by omega),c51 (by omega),bq3 b 20,bq3 b 16,bq3 b 12,bq3 b 8,bq3 b 4,show 8 * (bt b 1 / 8)=bt b 1 by omega]
 have:=eO5 (b:=b) (by omega)
 rw [h0,h2.2] at this
 exact this
theorem RpR.is {m:Msg} (h:RpR m):m=a00.mk 4 0 0 [] 0 0 [] m.plen 0 [] 0 [] m.seq 0 m.interval m.flags m.hops 0 0 m.addr m.orig [] 0 [] m.subs:=by
 have hk:=h.kind
 have:=dp8 h.bare (by unfold ab0; rw [if_neg (by omega),if_neg (by omega),if_neg (by omega),if_pos hk])
 rw [hk] at this
 exact this
theorem AkR.is {m:Msg} (h:AkR m):m=a00.mk 6 0 0 [] 0 0 [] 0 0 [] 0 [] 0 0 0 0 0 0 0 [] [] [] 0 [] m.subs:=by
 have hk:=h.kind
 have:=dp8 h.bare (by unfold ab0; rw [if_neg (by omega),if_neg (by omega),if_neg (by omega),if_neg (by omega),if_neg (by omega),if_pos hk])
 rw [hk] at this
 exact this
theorem fb7 {b:Bs} (h4:¬bt b 0=4) (h0:bt b 0=2) (h:(b14 b).2.2=0):b14 b=(e08 b,0,0)∧RpR (e08 b)∧c49 (e08 b)=b∧(e08 b).subs.length≤b.length:=by
 unfold b14 at h ⊢
 rw [if_neg h4] at h ⊢
 by_cases h1:b.length < 20
 ·rw [if_pos h1] at h; cases h
 by_cases h2:¬(bt b 1 % 64=0∧bt b 2 < 32)
 ·rw [if_neg h1,if_pos h2] at h; cases h
 rw [if_neg h1,if_neg h2] at h ⊢
 obtain ⟨k1,k2,k3,k4⟩:=cV9 h
 have h2:=Classical.byContradiction h2
 have hx:=a31 b 1
 have hy:=a31 b 2
 have hz:=a31 b 3
 refine ⟨k1,⟨rfl,dp9 rfl,by show 0≤bt b 1 / 64∧bt b 1 / 64≤3; omega,by show 0≤bt b 2∧bt b 2≤31; omega,bb2 (p:=4) (by omega),bb2 (p:=12) (by omega),ee3 (p:=8) (by omega),ee3 (p:=16) (by omega),hz,aA8.2 k2⟩,?_,by show (ac1 (b.drop 20)).1.length≤_; omega⟩
 show [2,a01 (64 * (bt b 1 / 64)),a01 (bt b 2),a01 (bt b 3)]++(a06 b (4:Nat) 4++(be 4 (num (a06 b (8:Nat) 4))++(a06 b (12:Nat) 4++(be 4 (num (a06 b (16:Nat) 4))++a73 (ac1 (b.drop 20)).1))))=b
 rw [k3,c51 (by omega),c51 (by omega),bq3 b 16,bq3 b 12,bq3 b 8,bq3 b 4,show 64 * (bt b 1 / 64)=bt b 1 by omega]
 have:=eO5 (b:=b) (by omega)
 rw [h0] at this
 exact this
theorem fb8 {b:Bs} (hb:1≤b.length) (h0:bt b 0=4) (h:(b14 b).2.2=0):b14 b=(dp7 b,0,0)∧AkR (dp7 b)∧dp5 (dp7 b)=b∧(dp7 b).subs.length≤b.length:=by
 unfold b14 at h ⊢
 rw [if_pos h0] at h ⊢
 by_cases h1:b.length < 2
 ·rw [if_pos h1] at h; cases h
 by_cases h2:¬bt b 1=0
 ·rw [if_neg h1,if_pos h2] at h; cases h
 rw [if_neg h1,if_neg h2] at h ⊢
 obtain ⟨k1,k2,k3,k4⟩:=cV9 h
 have h2:=Classical.byContradiction h2
 refine ⟨k1,⟨rfl,dp9 rfl,aA8.2 k2⟩,?_,by show (ac1 (b.drop 2)).1.length≤_; omega⟩
 show [4,0]++a73 (ac1 (b.drop 2)).1=b
 rw [k3]
 match b,h1,h0,h2 with
 | w::x::r,_,h0,h2=>
  have e0:w=4:=b92 (a:=w) (b:=4) h0
  have e1:x=0:=b92 (a:=x) (b:=0) h2
  rw [e0,e1]; rfl
 | [],h1,_,_=>simp at h1
 | [_],h1,_,_=>simp at h1
theorem ReR.is {m:Msg} (h:ReR m):m=a00.mk 5 0 0 [] 0 0 [] 0 0 [] 0 [] 0 0 0 m.flags 0 0 0 [] [] m.list 0 [] m.subs:=by
 have hk:=h.kind
 have:=dp8 h.bare (by unfold ab0; rw [if_neg (by omega),if_neg (by omega),if_neg (by omega),if_neg (by omega),if_pos hk])
 rw [hk] at this
 exact this
theorem ej3 (b:Bs):∀ (k p:Nat),(av8 b k p).length=k
 | 0,_=>rfl
 | k+1,p=>by rw [av8,List.length_cons,ej3 b k]
theorem dD2 {b:Bs}:∀ (k p:Nat),p+8 * k≤b.length→(∀ d∈av8 b k p,bH5 d=true)∧c29 (av8 b k p)++b.drop (p+8 * k)=b.drop p
 | 0,p,_=>⟨(fun d hd=>by cases hd),rfl⟩
 | k+1,p,h=>by
  obtain ⟨h1,h2⟩:=dD2 (b:=b) k (p+8) (by omega)
  have e:((p:Int)+4)=((p+4:Nat):Int):=by omega
  refine ⟨fun d hd=>?_,?_⟩
  ·rw [av8] at hd
   rcases List.mem_cons.1 hd with rfl | hd
   ·unfold bH5
    rw [Bool.and_eq_true,decide_eq_true_eq,az2,e]
    exact ⟨bb2 (by omega),ee3 (by omega)⟩
   ·exact h1 d hd
  ·rw [av8,c29,e,c51 (by omega),List.append_assoc,List.append_assoc,show p+8 * (k+1)=p+8+8 * k by omega,h2]
   show a06 b p 4++(a06 b ((p+4:Nat):Int) 4++b.drop (p+4+4))=_
   rw [bq3,bq3]
theorem fb9 {b:Bs} (h0:bt b 0=3) (h:(bH7 b).2.2=0):bH7 b=(cV8 b,0,0)∧ReR (cV8 b)∧dp6 (cV8 b)=b∧(cV8 b).subs.length≤b.length:=by
 unfold bH7 at h ⊢
 by_cases h1:b.length < 4
 ·rw [if_pos h1] at h; cases h
 by_cases h2:¬(bt b 1 % 128=0∧bt b 2=0)
 ·rw [if_neg h1,if_pos h2] at h; cases h
 by_cases h3:bt b 3=0
 ·rw [if_neg h1,if_neg h2,if_pos h3] at h; cases h
 by_cases h4:b.length < 4+8 * (bt b 3).toNat
 ·rw [if_neg h1,if_neg h2,if_neg h3,if_pos h4] at h; cases h
 rw [if_neg h1,if_neg h2,if_neg h3,if_neg h4] at h ⊢
 obtain ⟨k1,k2,k3,k4⟩:=cV9 h
 have h2:=Classical.byContradiction h2
 have hx:=a31 b 1
 have hz:=a31 b 3
 obtain ⟨g1,g2⟩:=dD2 (b:=b) (bt b 3).toNat 4 (by omega)
 have hlen:=ej3 b (bt b 3).toNat 4
 refine ⟨k1,⟨rfl,dp9 rfl,by show bt b 1 / 128=0∨bt b 1 / 128=1; omega,by show 1≤(av8 b (bt b 3).toNat 4).length∧(av8 b (bt b 3).toNat 4).length≤255; omega,List.all_eq_true.2 g1,aA8.2 k2⟩,?_,by show (ac1 (b.drop (4+8 * (bt b 3).toNat))).1.length≤_; omega⟩
 show [3,a01 (128 * (bt b 1 / 128)),0,a01 ((av8 b (bt b 3).toNat 4).length:Int)]++(c29 (av8 b (bt b 3).toNat 4)++a73 (ac1 (b.drop (4+8 * (bt b 3).toNat))).1)=b
 rw [k3,g2,hlen,show 128 * (bt b 1 / 128)=bt b 1 by omega,show (((bt b 3).toNat:Nat):Int)=bt b 3 by omega]
 have:=eO5 (b:=b) (by omega)
 rw [h0,h2.2] at this
 exact this
end Go.VP
namespace Go.VP
open Go Go.VI
theorem eX5 {m:Msg} (h:avB m=true):RqR m∨RpR m∨AkR m∨ReR m:=by
 unfold avB at h
 simp only [Bool.or_eq_true,aF7,ax4,be4] at h
 rcases h with h | (h | h) | h
 ·exact .inl h
 ·exact .inr (.inl h)
 ·exact .inr (.inr (.inl h))
 ·exact .inr (.inr (.inr h))
theorem e10 {m:Msg} (h:RqR m∨RpR m∨AkR m∨ReR m):avB m=true:=by
 unfold avB
 simp only [Bool.or_eq_true,aF7,ax4,be4]
 rcases h with h | h | h | h
 ·exact .inl h
 ·exact .inr (.inl (.inl h))
 ·exact .inr (.inl (.inr h))
 ·exact .inr (.inr h)
theorem fm6 {m:Msg} (h:RqR m):af5 m=c48 m:=by unfold af5; rw [if_pos (aF7.2 h)]
theorem fm7 {m:Msg} (h:RpR m):af5 m=c49 m:=by
 have:=h.kind
 unfold af5; rw [if_neg (fun q=>by have:=(aF7.1 q).kind; omega),if_pos (ax4.2 (.inl h)),if_neg (by omega)]
theorem fm8 {m:Msg} (h:AkR m):af5 m=dp5 m:=by
 have:=h.kind
 unfold af5; rw [if_neg (fun q=>by have:=(aF7.1 q).kind; omega),if_pos (ax4.2 (.inr h)),if_pos (by omega)]
theorem fm9 {m:Msg} (h:ReR m):af5 m=dp6 m:=by
 have:=h.kind
 unfold af5; rw [if_neg (fun q=>by have:=(aF7.1 q).kind; omega),if_neg (fun q=>by rcases ax4.1 q with q | q <;> (have:=q.kind; omega)),if_pos (be4.2 h)]
theorem eX6 {m:Msg} (h:avB m=true):an5 [m]=if 65535 < (af5 m).length then ([],0,10) else (af5 m,0,0):=by
 unfold an5
 rw [ee0 (fun x hx=>by rw [List.mem_singleton.1 hx]; exact h)]
theorem bH8 {b:Bs} {p:Nat} {m:Msg} (hp:p≤b.length):0≤(ap1 b p m).2.1∧(ap1 b p m).2.1≤b.length:=by
 have:=az1 (b.drop p)
 rw [List.length_drop] at this
 unfold ap1
 split
 ·dsimp only; omega
 ·dsimp only; omega
theorem eC6 {b:Bs} (h:1≤b.length):0≤(ap2 b).2.1∧(ap2 b).2.1≤b.length:=by
 unfold ap2
 split
 ·unfold bH6
  split
  ·dsimp only; omega
  split
  ·dsimp only; omega
  ·exact bH8 (by omega)
 split
 ·unfold bH7
  split
  ·dsimp only; omega
  split
  ·dsimp only; omega
  split
  ·dsimp only; omega
  split
  ·dsimp only; omega
  ·exact bH8 (by omega)
 ·unfold b14
  split
  ·split
   ·dsimp only; omega
   split
   ·dsimp only; omega
   ·exact bH8 (by omega)
  ·split
   ·dsimp only; omega
   split
   ·dsimp only; omega
   ·exact bH8 (by omega)
theorem eC7 {b:Bs} (h:(at5 b).2.2≠0):(at5 b).1=[]∧0≤(at5 b).2.1∧(at5 b).2.1≤b.length:=by
 unfold at5 at h ⊢
 split
 ·exact ⟨rfl,by dsimp only; omega,by dsimp only; omega⟩
 ·rename_i h1
  rw [if_neg h1] at h
  split
  ·exact ⟨rfl,by dsimp only; omega,by dsimp only; omega⟩
  ·rename_i h2
   rw [if_neg h2] at h
   split
   ·exact ⟨rfl,by dsimp only; omega,by dsimp only; omega⟩
   ·rename_i h3
    rw [if_neg h3] at h
    split
    ·exact ⟨rfl,eC6 (by omega)⟩
    ·rename_i h4
     rw [if_neg h4] at h; exact absurd rfl h
theorem fc0 {b:Bs} (h:(at5 b).2.2=0):∃ m,at5 b=([m],0,0)∧avB m=true∧af5 m=b∧an5 [m]=(b,0,0)∧b.length≤65535∧m.subs.length≤b.length:=by
 unfold at5 at h ⊢
 by_cases h1:65535 < b.length
 ·rw [if_pos h1] at h; cases h
 by_cases h2:b.length=0
 ·rw [if_neg h1,if_pos h2] at h; cases h
 by_cases h3:bt b 0 < 1∨4 < bt b 0
 ·rw [if_neg h1,if_neg h2,if_pos h3] at h; cases h
 by_cases h4:(ap2 b).2.2≠0
 ·rw [if_neg h1,if_neg h2,if_neg h3,if_pos h4] at h; exact absurd h h4
 rw [if_neg h1,if_neg h2,if_neg h3,if_neg h4]
 have h4:=Classical.byContradiction h4
 have fin:∀ m,ap2 b=(m,0,0)→avB m=true→af5 m=b→m.subs.length≤b.length→∃ m',([(ap2 b).1],(0:Int),(0:Int))=([m'],0,0)∧avB m'=true∧af5 m'=b∧an5 [m']=(b,0,0)∧b.length≤65535∧m'.subs.length≤b.length:=fun m e hm hp hs=>by
  refine ⟨m,by rw [e],hm,hp,?_,by omega,hs⟩
  rw [eX6 hm,hp,if_neg h1]
 by_cases c1:bt b 0=1
 ·have e:ap2 b=bH6 b:=by unfold ap2; rw [if_pos c1]
  rw [e] at h4 fin ⊢
  obtain ⟨k1,k2,k3,k4⟩:=fb6 c1 h4
  exact fin _ k1 (e10 (.inl k2)) (by rw [fm6 k2,k3]) k4
 by_cases c3:bt b 0=3
 ·have e:ap2 b=bH7 b:=by unfold ap2; rw [if_neg c1,if_pos c3]
  rw [e] at h4 fin ⊢
  obtain ⟨k1,k2,k3,k4⟩:=fb9 c3 h4
  exact fin _ k1 (e10 (.inr (.inr (.inr k2)))) (by rw [fm9 k2,k3]) k4
 have e:ap2 b=b14 b:=by unfold ap2; rw [if_neg c1,if_neg c3]
 rw [e] at h4 fin ⊢
 by_cases c4:bt b 0=4
 ·obtain ⟨k1,k2,k3,k4⟩:=fb8 (by omega) c4 h4
  exact fin _ k1 (e10 (.inr (.inr (.inl k2)))) (by rw [fm8 k2,k3]) k4
 ·obtain ⟨k1,k2,k3,k4⟩:=fb7 c4 (by have:=a31 b 0; omega) h4
  exact fin _ k1 (e10 (.inr (.inl k2))) (by rw [fm7 k2,k3]) k4
theorem cV4.fewS {l:List Sub} (h:cV4 l) (hl:l.length≤1000000):ai8 l:=⟨by omega,fun y hy=>by have:=(h y hy).2.2; omega⟩
theorem fc1 {m:Msg} (h:avB m=true) (hs:m.subs.length≤1000000):ah7 m:=by
 have z:IntKind.has .i64 0:=a45.2 (by omega)
 have w8:∀ {n:Int},W8 n→IntKind.has .i64 n:=fun h=>a45.2 (by have:=h.1; have:=h.2; omega)
 rcases eX5 h with h | h | h | h
 ·have hl:m.list=[]:=congrArg a00.list h.is
  have hi:m.interval=0:=congrArg a00.interval h.is
  exact ⟨h.nonce.has,h.seq.has,h.seq2.has,w8 h.hops,by rw [hi]; exact z,by rw [hl]; simp,by rw [hl]; intro d hd; (cases hd),(aA8.1 h.subs).fewS hs,hs⟩
 ·have hl:m.list=[]:=congrArg a00.list h.is
  have h1:m.nonce=0:=congrArg a00.nonce h.is
  have h2:m.seq2=0:=congrArg a00.seq2 h.is
  exact ⟨by rw [h1]; exact z,h.seq.has,by rw [h2]; exact z,w8 h.hops,h.life.has,by rw [hl]; simp,by rw [hl]; intro d hd; (cases hd),(aA8.1 h.subs).fewS hs,hs⟩
 ·have hl:m.list=[]:=congrArg a00.list h.is
  have h1:m.nonce=0:=congrArg a00.nonce h.is
  have h2:m.seq2=0:=congrArg a00.seq2 h.is
  have h3:m.seq=0:=congrArg a00.seq h.is
  have h4:m.hops=0:=congrArg a00.hops h.is
  have h5:m.interval=0:=congrArg a00.interval h.is
  exact ⟨by rw [h1]; exact z,by rw [h3]; exact z,by rw [h2]; exact z,by rw [h4]; exact z,by rw [h5]; exact z,by rw [hl]; simp,by rw [hl]; intro d hd; (cases hd),(aA8.1 h.subs).fewS hs,hs⟩
 ·have h1:m.nonce=0:=congrArg a00.nonce h.is
  have h2:m.seq2=0:=congrArg a00.seq2 h.is
  have h3:m.seq=0:=congrArg a00.seq h.is
  have h4:m.hops=0:=congrArg a00.hops h.is
  have h5:m.interval=0:=congrArg a00.interval h.is
  exact ⟨by rw [h1]; exact z,by rw [h3]; exact z,by rw [h2]; exact z,by rw [h4]; exact z,by rw [h5]; exact z,by have:=h.len; omega,fun d hd=>(dN1 (List.all_eq_true.1 h.list d hd)).2.has,(aA8.1 h.subs).fewS hs,hs⟩
end Go.VP
namespace Go.VP
open Go Go.VI
structure eO6 (m:Msg):Prop where
 rip:RM m
 ng:cV6 m
 av:ah7 m
 lean:ai7 m
theorem fo1 {m:Msg} (g:au6 m) (h:Few m):eO6 m:=by
 have hl:=h.lite
 have g0:=g
 obtain ⟨g1,g2,g3,g4,g5,g6,g7,g8,g9,g10,g11,g12,g13,g14,g15,g16,g17,g18,g19,g20,g21,g22,g23,_⟩:=g
 have h1:=hl.list
 have h2:=hl.subs
 exact ⟨fm1 g0 h,⟨g9,g8,g2,by omega,by omega⟩,⟨g18,g13,g14,g17,g15,by omega,fun d hd=>(g22.2 d hd).2.1,hl.fewS,by omega⟩,fn7 g0 hl⟩
open Classical in
noncomputable def cP3 (p:Int) (m:Msg):Bool:=if p=1 then af2 m else if p=2 then ngB m else if p=3 then avB m else if p=4 then az0 m else false
end Go.VP
namespace Go.VP
open Go Go.VI
theorem ej4 (s:Bs):∀ (p:Int),(∀ q,spl p s=.error q→p≤q∧q≤p+s.length)∧(∀ l,spl p s=.ok l→∀ t∈l,p≤t.at_∧t.at_≤p+s.length):=by
 induction h:s.length using Nat.strongRecOn generalizing s with
 | ind n ih=>
  intro p
  subst h
  match s with
  | []=>
   rw [bd7]
   exact ⟨(fun q h=>by cases h),(fun l h=>by cases h; intro t ht; cases ht)⟩
  | t::r=>
   by_cases ht:t=0
   ·subst ht
    rw [bC7]
    obtain ⟨i1,i2⟩:=ih r.length (by simp) r rfl (p+1)
    cases hr:spl (p+1) r with
    | error q=>
     refine ⟨fun q' h=>?_,(fun l h=>by cases h)⟩
     cases h
     have:=i1 q hr
     simp only [List.length_cons]; omega
    | ok l=>
     refine ⟨(fun q' h=>by cases h),fun l' h x hx=>?_⟩
     cases h
     rcases List.mem_cons.1 hx with rfl | hx
     ·dsimp only; omega
     ·have:=i2 l hr x hx
      simp only [List.length_cons]; omega
   ·match r with
    | []=>
     rw [c37 ht]
     exact ⟨(fun q h=>by cases h; simp; omega),(fun l h=>by cases h)⟩
    | n::d=>
     by_cases hn:d.length < n.toNat
     ·rw [c38 ht hn]
      exact ⟨(fun q h=>by cases h; simp only [List.length_cons]; omega),(fun l h=>by cases h)⟩
     ·rw [c39 ht (by omega)]
      have hdl:(d.drop n.toNat).length=d.length - n.toNat:=List.length_drop
      obtain ⟨i1,i2⟩:=ih (d.drop n.toNat).length (by rw [hdl]; simp; omega) (d.drop n.toNat) rfl (p+2+n.toNat)
      rw [hdl] at i1 i2
      cases hr:spl (p+2+n.toNat) (d.drop n.toNat) with
      | error q=>
       refine ⟨fun q' h=>?_,(fun l h=>by cases h)⟩
       cases h
       have:=i1 q hr
       simp only [List.length_cons]; omega
      | ok l=>
       refine ⟨(fun q' h=>by cases h),fun l' h x hx=>?_⟩
       cases h
       rcases List.mem_cons.1 hx with rfl | hx
       ·simp only [List.length_cons]; omega
       ·have:=i2 l hr x hx
        simp only [List.length_cons]; omega
theorem dD3:∀ (l:List Tlv) (c:Ctx) (acc:List Msg),(a80 c l acc).2.2.2≠0→∃ t∈l,(a80 c l acc).2.2.1=t.at_
 | [],c,acc,h=>absurd rfl h
 | t::r,c,acc,h=>by
  rw [a80] at h ⊢
  by_cases he:(ak7 c t.type_ t.data).2.2≠0
  ·rw [if_pos he]; exact ⟨t,List.mem_cons_self ..,rfl⟩
  ·rw [if_neg he] at h ⊢
   obtain ⟨x,hx,e⟩:=dD3 r _ _ h
   exact ⟨x,List.mem_cons_of_mem _ hx,e⟩
theorem ez2 {b:Bs} (h:(ar0 b).2.2≠0):(ar0 b).1=[]∧0≤(ar0 b).2.1∧(ar0 b).2.1≤b.length:=by
 refine ⟨(cl8 b).elim (fun q=>q.2) (fun ⟨l,_,_,_,_,q⟩=>absurd (by rw [q]) h),?_⟩
 unfold ar0 at h ⊢
 by_cases h0:(a97 b).2.2≠0
 ·rw [if_pos h0]; exact (eT3 h0).2
 rw [if_neg h0] at h ⊢
 obtain ⟨l1,l2,_,_,l5,_,l7⟩:=cl7 (Classical.byContradiction h0)
 have hr:=aG3 b
 have hbl:((bD4 b).length:Int)=b.length - (4+(a97 b).1.length):=by unfold bD4; rw [List.length_drop]; omega
 have p1:=ej4 (a97 b).1 4
 have p2:=ej4 (bD4 b) (4+((a97 b).1.length:Int))
 cases h1:spl 4 (a97 b).1 with
 | error q=>
  have:=p1.1 q h1
  dsimp only; omega
 | ok l=>
  rw [h1] at h
  cases h2:spl (4+((a97 b).1.length:Int)) (bD4 b) with
  | error q=>
   have:=p2.1 q h2
   dsimp only; omega
  | ok k=>
   rw [h2] at h
   dsimp only at h ⊢
   obtain ⟨t,ht,e⟩:=dD3 l c0 [] h
   have:=p1.2 l h1 t ht
   omega
noncomputable def al1 (p:Int) (b:Bs):List Msg × Int × Int:=if p=1 then a93 b else if p=2 then al0 b else if p=3 then at5 b else if p=4 then ar0 b else ([],0,1)
noncomputable def eO7 (p:Int) (l:List Msg):Bs × Int × Int:=if p=1 then aw1 l else if p=2 then aK3 l else if p=3 then an5 l else if p=4 then f36 l else ([],0,1)
def cv1 (p:Int) (m:Msg):Prop:=(p=1→RM m)∧(p=2→cV6 m)∧(p=3→ah7 m)∧(p=4→ai7 m)
theorem eO6.p {m:Msg} (g:eO6 m) (p:Int):cv1 p m:=⟨fun _=>g.rip,fun _=>g.ng,fun _=>g.av,fun _=>g.lean⟩
theorem fc2 {p:Int} {m:Msg} (g:cv1 p m):b64 (p,m,())=some ((cP3 p m,()),()):=by
 rw [dH0]
 unfold cP3
 refine a09 (fun h=>by rw [if_pos h,cC0 (g.1 h)]; rfl) (fun h1=>?_)
 rw [if_neg h1]
 refine a09 (fun h=>by rw [if_pos h,e04 (g.2.1 h)]; rfl) (fun h2=>?_)
 rw [if_neg h2]
 refine a09 (fun h=>by rw [if_pos h,e09 (g.2.2.1 h)]; rfl) (fun h3=>?_)
 rw [if_neg h3]
 refine a09 (fun h=>by rw [if_pos h,dm5 (g.2.2.2 h)]; rfl) (fun h4=>?_)
 rw [if_neg h4]
theorem eX7 {p:Int} {m:Msg} (g:cv1 p m):b73 (p,m,())=some ((cP3 p m,()),()):=by
 rw [dI7]
 unfold cP3
 refine a09 (fun h=>by rw [if_pos h,cm0 (g.1 h)]; rfl) (fun h1=>?_)
 rw [if_neg h1]
 refine a09 (fun h=>by rw [if_pos h,dC7 (g.2.1 h)]; rfl) (fun h2=>?_)
 rw [if_neg h2]
 refine a09 (fun h=>by rw [if_pos h,dD1 (g.2.2.1 h)]; rfl) (fun h3=>?_)
 rw [if_neg h3]
 refine a09 (fun h=>by rw [if_pos h,cV1 (g.2.2.2 h)]; rfl) (fun h4=>?_)
 rw [if_neg h4]
theorem eX8 {p:Int} {b:Bs} (hb:b.length≤100000):b58 (p,b,())=some (a35 (al1 p b),()):=by
 rw [dL0]
 unfold al1
 refine a09 (fun h=>by rw [if_pos h,fa2 hb]; rfl) (fun h1=>?_)
 rw [if_neg h1]
 refine a09 (fun h=>by rw [if_pos h,eN6 (by omega)]; rfl) (fun h2=>?_)
 rw [if_neg h2]
 refine a09 (fun h=>by rw [if_pos h,eO4 (by omega)]; rfl) (fun h3=>?_)
 rw [if_neg h3]
 refine a09 (fun h=>by rw [if_pos h,eT5]; rfl) (fun h4=>?_)
 rw [if_neg h4]
theorem eO8 {p:Int} {b:Bs} (hb:b.length≤100000):b83 (p,b,())=some (a35 (al1 p b),()):=by
 rw [dG9]
 unfold al1
 refine a09 (fun h=>by rw [if_pos h,eV3 hb]; rfl) (fun h1=>?_)
 rw [if_neg h1]
 refine a09 (fun h=>by rw [if_pos h,eC0 (by omega)]; rfl) (fun h2=>?_)
 rw [if_neg h2]
 refine a09 (fun h=>by rw [if_pos h,eC5 (by omega)]; rfl) (fun h3=>?_)
 rw [if_neg h3]
 refine a09 (fun h=>by rw [if_pos h,eL6]; rfl) (fun h4=>?_)
 rw [if_neg h4]
theorem fi7 {p:Int} {l:List Msg} (g:∀ m∈l,cv1 p m) (hl:l.length≤100000) (h1:p=1→l.length≤1000):aY2 (p,l,())=some (a35 (eO7 p l),()):=by
 rw [dr8]
 unfold eO7
 refine a09 (fun h=>by rw [if_pos h,fm0 (fun m hm=>(g m hm).1 h) (h1 h)]; rfl) (fun h1=>?_)
 rw [if_neg h1]
 refine a09 (fun h=>by rw [if_pos h,fa6 (fun m hm=>(g m hm).2.1 h) (by omega)]; rfl) (fun h2=>?_)
 rw [if_neg h2]
 refine a09 (fun h=>by rw [if_pos h,fb5 (fun m hm=>(g m hm).2.2.1 h) (by omega)]; rfl) (fun h3=>?_)
 rw [if_neg h3]
 refine a09 (fun h=>by rw [if_pos h,fh4 hl (fun m hm=>(g m hm).2.2.2 h)]; rfl) (fun h4=>?_)
 rw [if_neg h4]
theorem fc3 {p:Int} {l:List Msg} (g:∀ m∈l,cv1 p m) (hl:l.length≤100000) (h1:p=1→l.length≤1000):b00 (p,l,())=some (a35 (eO7 p l),()):=by
 rw [dr6]
 unfold eO7
 refine a09 (fun h=>by rw [if_pos h,fi0 (fun m hm=>(g m hm).1 h) (h1 h)]; rfl) (fun h1=>?_)
 rw [if_neg h1]
 refine a09 (fun h=>by rw [if_pos h,eW5 (fun m hm=>(g m hm).2.1 h) (by omega)]; rfl) (fun h2=>?_)
 rw [if_neg h2]
 refine a09 (fun h=>by rw [if_pos h,eX4 (fun m hm=>(g m hm).2.2.1 h) (by omega)]; rfl) (fun h3=>?_)
 rw [if_neg h3]
 refine a09 (fun h=>by rw [if_pos h,f39 hl (fun m hm=>(g m hm).2.2.2 h)]; rfl) (fun h4=>?_)
 rw [if_neg h4]
theorem eO9 {p:Int} {b:Bs} (h:(al1 p b).2.2≠0):(al1 p b).1=[]∧0≤(al1 p b).2.1∧(al1 p b).2.1≤b.length:=by
 unfold al1 at h ⊢
 by_cases h1:p=1
 ·simp only [if_pos h1] at h ⊢; exact eN1 h
 simp only [if_neg h1] at h ⊢
 by_cases h2:p=2
 ·simp only [if_pos h2] at h ⊢; exact eC2 h
 simp only [if_neg h2] at h ⊢
 by_cases h3:p=3
 ·simp only [if_pos h3] at h ⊢; exact eC7 h
 simp only [if_neg h3] at h ⊢
 by_cases h4:p=4
 ·simp only [if_pos h4] at h ⊢; exact ez2 h
 ·simp only [if_neg h4] at h ⊢
  exact ⟨trivial,by simp,by simp⟩
theorem ez3 {m:Msg} (h:NgR m):cV6 m∧cT8 m:=by
 have hl:m.list=[]:=congrArg a00.list h.is
 have hs:m.subs=[]:=congrArg a00.subs h.is
 have:=h.tag
 have:=h.plen
 have:=h.cmd
 exact ⟨⟨a45.2 (by omega),a45.2 (by omega),a45.2 (by omega),by rw [hl]; simp,by rw [hs]; simp⟩,by rw [hl]; simp,by rw [hs]; simp⟩
theorem eX9 {b:Bs}:∀ m∈(a93 b).1,okR m→RM m:=fun m hm ho=>by
 have hs:=eM9 (b:=b) (P:=fun m=>m.list.length≤1000000000∧m.subs.length≤1000000000) (fun c v s e=>by simp [a90]) m hm
 obtain ⟨_,_,_,_,_,_,_,h⟩:=ho
 exact ⟨a45.2 (by omega),a45.2 (by omega),hs.1,hs.2⟩
theorem fc4 {p:Int} {b:Bs} (hb:b.length≤100000) (h:(al1 p b).2.2=0):(al1 p b).2.1=0∧(∀ m∈(al1 p b).1,cP3 p m=true∧cv1 p m∧cT8 m)∧(al1 p b).1.length≤65535∧(p=1→(al1 p b).1.length≤1000):=by
 unfold al1 at h ⊢
 unfold cP3 cv1
 by_cases h1:p=1
 ·simp only [if_pos h1] at h ⊢
  obtain ⟨r,r1,r2,r3,r4,r5⟩:=eN2 h
  have hrm:=eX9 (b:=b)
  rw [r1] at hrm ⊢
  exact ⟨rfl,fun m hm=>⟨ad8.2 (r4 m hm),⟨fun _=>hrm m hm (r4 m hm),fun q=>by omega,fun q=>by omega,fun q=>by omega⟩,(hrm m hm (r4 m hm)).list,(hrm m hm (r4 m hm)).subs⟩,by dsimp only; omega,fun _=>by dsimp only; omega⟩
 simp only [if_neg h1] at h ⊢
 by_cases h2:p=2
 ·simp only [if_pos h2] at h ⊢
  obtain ⟨k0,k1,k2,k3,_,_⟩:=fa7 h
  exact ⟨k0,fun m hm=>⟨be3.2 (k1 m hm),⟨fun q=>by omega,fun _=>(ez3 (k1 m hm)).1,fun q=>by omega,fun q=>by omega⟩,(ez3 (k1 m hm)).2⟩,by omega,fun q=>absurd q h1⟩
 simp only [if_neg h2] at h ⊢
 by_cases h3:p=3
 ·simp only [if_pos h3] at h ⊢
  obtain ⟨m,k1,k2,k3,k4,k5,k6⟩:=fc0 h
  rw [k1]
  have hg:=fc1 k2 (by omega)
  exact ⟨rfl,fun x hx=>by rw [List.mem_singleton.1 hx]; exact ⟨k2,⟨fun q=>by omega,fun q=>by omega,fun _=>hg,fun q=>by omega⟩,by have:=hg.list; omega,by have:=hg.subs1; omega⟩,by simp,fun q=>absurd q h1⟩
 simp only [if_neg h3] at h ⊢
 by_cases h4:p=4
 ·simp only [if_pos h4] at h ⊢
  obtain ⟨k1,k2⟩:=ex2 b
  refine ⟨?_,fun m hm=>⟨aG4.2 (k1 m hm).1,⟨fun q=>by omega,fun q=>by omega,fun q=>by omega,fun _=>(k1 m hm).2⟩,(k1 m hm).2.small⟩,k2,fun q=>absurd q h1⟩
  rcases cl8 b with ⟨q,_⟩ | ⟨l,_,_,_,_,q⟩
  ·exact absurd h q
  ·rw [q]
 ·simp only [if_neg h4] at h; cases h
end Go.VP
namespace Go.VP
open Go Go.VI
theorem fi8:aw8 ()=some ((true,()),()):=by kernel_rfl
theorem eP0 {α:Type} (f:(Bool × Unit) × Unit→Option α):(aw8 ()).bind f=f ((true,()),()):=by rw [fi8]; rfl
end Go.VP
