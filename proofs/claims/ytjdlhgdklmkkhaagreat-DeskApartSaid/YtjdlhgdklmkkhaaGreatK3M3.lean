import Derived.Test.YtjdlhgdklmkkhaaGreatK3FQ0
import Derived.Test.YtjdlhgdklmkkhaaGreatK3FQ9
import Derived.Test.YtjdlhgdklmkkhaaGreatK3M0
import Derived.Test.YtjdlhgdklmkkhaaGreatK3M2
import Derived.Test.YtjdlhgdklmkkhaaGreatK3M1
import Derived.Test.YtjdlhgdklmkkhaaGreatK3FH
import Derived.Test.YtjdlhgdklmkkhaaGreatK3FQ10
import Derived.Test.YtjdlhgdklmkkhaaGreatK3FQ12
import Derived.Test.YtjdlhgdklmkkhaaGreatK3FGood
import Derived.Test.YtjdlhgdklmkkhaaGreatK3FQ11
import Derived.Test.YtjdlhgdklmkkhaaGreatK3FQ14
import Derived.Test.YtjdlhgdklmkkhaaGreatK3FQ8
set_option linter.unusedVariables false
set_option linter.unusedSimpArgs false
set_option maxRecDepth 100000
namespace Go.VP
open Go Go.VI
def W32 (n:Int):Prop:=0≤n∧n < 4294967296
def W8 (n:Int):Prop:=0≤n∧n < 256
theorem bM4 {n:Int}:ac7 n 4=true↔W32 n:=by simp [ac7,W32]
theorem eh8 {n:Int}:ac7 n 1=true↔W8 n:=by simp [ac7,W8]
theorem pf4 {n:Int} (h:IntKind.has .i64 n):ab1 (n,4,())=some ((ac7 n 4,()),()):=ar3 (k:=4) h (by omega) (by omega)
theorem pf1 {n:Int} (h:IntKind.has .i64 n):ab1 (n,1,())=some ((ac7 n 1,()),()):=ar3 (k:=1) h (by omega) (by omega)
structure RqR (m:Msg):Prop where
 kind:m.kind=3
 bare:ag0 m=true
 flags:0≤m.flags∧m.flags≤31
 addr:m.addr.length=4
 orig:m.orig.length=4
 nonce:W32 m.nonce
 seq:W32 m.seq
 seq2:W32 m.seq2
 hops:W8 m.hops
 subs:aY9 m.subs=true
structure RpR (m:Msg):Prop where
 kind:m.kind=4
 bare:ag0 m=true
 flags:0≤m.flags∧m.flags≤3
 plen:0≤m.plen∧m.plen≤31
 addr:m.addr.length=4
 orig:m.orig.length=4
 seq:W32 m.seq
 life:W32 m.interval
 hops:W8 m.hops
 subs:aY9 m.subs=true
structure AkR (m:Msg):Prop where
 kind:m.kind=6
 bare:ag0 m=true
 subs:aY9 m.subs=true
def bH4 (d:aY0):Bool:=decide (d.addr.length=4) && ac7 d.seq 4
structure ReR (m:Msg):Prop where
 kind:m.kind=5
 bare:ag0 m=true
 flags:m.flags=0∨m.flags=1
 len:1≤m.list.length∧m.list.length≤255
 list:m.list.all bH4=true
 subs:aY9 m.subs=true
open Classical in
noncomputable def rqB (m:Msg):Bool:=decide (RqR m)
open Classical in
noncomputable def rpB (m:Msg):Bool:=decide (RpR m∨AkR m)
open Classical in
noncomputable def reB (m:Msg):Bool:=decide (ReR m)
theorem bd5 {m:Msg}:rqB m=true↔RqR m:=by simp [rqB]
theorem bd6 {m:Msg}:rpB m=true↔(RpR m∨AkR m):=by simp [rpB]
theorem ca1 {m:Msg}:reB m=true↔ReR m:=by simp [reB]
theorem eO0 {a b:Bool} (h:a=true↔b=true):a=b:=by cases a <;> cases b <;> simp_all
theorem eO1 {b:Bool} (h:¬b=true):b=false:=by cases b <;> simp_all
structure aO9 (m:Msg):Prop where
 nonce:IntKind.has .i64 m.nonce
 seq:IntKind.has .i64 m.seq
 seq2:IntKind.has .i64 m.seq2
 hops:IntKind.has .i64 m.hops
 life:IntKind.has .i64 m.interval
 list:m.list.length≤1000000
 ds:∀ d∈m.list,IntKind.has .i64 d.seq
 subs:aB5 m.subs
 subs1:m.subs.length≤1000000
theorem eX5 {n k:Nat} {m:Msg} (g:aO9 m):ba7 n (k+4) m [m.nonce,m.seq,m.seq2] 3 0=some ((ac7 m.nonce 4 && (ac7 m.seq 4 && (ac7 m.seq2 4 && (ac7 m.hops 1 && aY9 m.subs))),()),()):=by
 rw [aH4,ifd (by decide),if_pos (by decide),show ([m.nonce,m.seq,m.seq2])[(0:Int).toNat]?=some m.nonce from rfl,Option.bind_some,pf4 g.nonce,Option.bind_some]
 dsimp only
 cases ac7 m.nonce 4 with
 | false=>rfl
 | true=>
  rw [ah3,show IntKind.wrap .i64 ((0:Int)+1)=1 from rfl,aH4,ifd (by decide),if_pos (by decide),show ([m.nonce,m.seq,m.seq2])[(1:Int).toNat]?=some m.seq from rfl,Option.bind_some,pf4 g.seq,Option.bind_some]
  dsimp only
  cases ac7 m.seq 4 with
  | false=>rfl
  | true=>
   rw [ah3,show IntKind.wrap .i64 ((1:Int)+1)=2 from rfl,aH4,ifd (by decide),if_pos (by decide),show ([m.nonce,m.seq,m.seq2])[(2:Int).toNat]?=some m.seq2 from rfl,Option.bind_some,pf4 g.seq2,Option.bind_some]
   dsimp only
   cases ac7 m.seq2 4 with
   | false=>rfl
   | true=>
    rw [ah3,show IntKind.wrap .i64 ((2:Int)+1)=3 from rfl,aH4,ifn (by decide),pf1 g.hops,Option.bind_some]
    dsimp only
    cases ac7 m.hops 1 with
    | false=>rfl
    | true=>rw [ift,cq7 g.subs.1]; rfl
theorem eX6 {m:Msg} (hk:m.kind=3) (hb:ag0 m=true) (h0:0≤m.flags) (h1:m.flags≤31) (ha:m.addr.length=4) (ho:m.orig.length=4):rqB m=(ac7 m.nonce 4 && (ac7 m.seq 4 && (ac7 m.seq2 4 && (ac7 m.hops 1 && aY9 m.subs)))):=by
 apply eO0
 simp only [Bool.and_eq_true,bd5,bM4,eh8]
 exact ⟨fun h=>⟨h.nonce,h.seq,h.seq2,h.hops,h.subs⟩,fun ⟨a,b,c,d,e⟩=>⟨hk,hb,⟨h0,h1⟩,ha,ho,a,b,c,d,e⟩⟩
theorem dF3 {m:Msg} (g:aO9 m):bq7 (m,())=some ((rqB m,()),()):=by
 show cc2 fuel _=_
 have no:¬RqR m→(some ((false,()),()):Option ((Bool × Unit) × Unit))=some ((rqB m,()),()):=fun h=>by rw [eO1 (fun q=>h (bd5.1 q))]
 rw [dz6]
 refine ab9 (fun q=>no (fun h=>q h.kind)) (fun hk=>?_)
 rw [bc6,Option.bind_some]
 refine bd4 (fun q=>no (fun h=>by have:=h.bare; dsimp only at q; rw [q] at this; cases this)) (fun hb=>?_)
 refine ai9 (fun q=>no (fun h=>by have:=h.flags; omega)) (fun h0=>?_)
 refine ai9 (fun q=>no (fun h=>by have:=h.flags; omega)) (fun h1=>?_)
 refine ab9 (fun q=>no (fun h=>by have:=h.addr; omega)) (fun ha=>?_)
 refine ab9 (fun q=>no (fun h=>by have:=h.orig; omega)) (fun ho=>?_)
 have hf:=ae2 (n:=4) (by omega)
 have:=eX5 (n:=fuel) (k:=fuel - 4) g
 rw [show fuel - 4+4=fuel by omega] at this
 rw [eX6 hk hb (by omega) (by omega) (by omega) (by omega)]
 exact this
theorem eX7 {m:Msg} (hk:m.kind=4) (hb:ag0 m=true) (hs:aY9 m.subs=true) (h0:0≤m.flags) (h1:m.flags≤3) (h2:0≤m.plen) (h3:m.plen≤31) (c1:ac7 m.hops 1=true) (c2:ac7 m.seq 4=true) (c3:ac7 m.interval 4=true) (ha:m.addr.length=4):rpB m=((m.orig.length:Int)==4):=by
 apply eO0
 simp only [bd6,beq_iff_eq]
 constructor
 ·rintro (h | h)
  ·have:=h.orig; omega
  ·have:=h.kind; omega
 ·intro ho
  exact .inl ⟨hk,hb,⟨h0,h1⟩,⟨h2,h3⟩,ha,by omega,bM4.1 c2,bM4.1 c3,eh8.1 c1,hs⟩
theorem dF4 {m:Msg} (g:aO9 m):aW2 (m,())=some ((rpB m,()),()):=by
 have no:¬RpR m→¬AkR m→(some ((false,()),()):Option ((Bool × Unit) × Unit))=some ((rpB m,()),()):=fun h h2=>by rw [eO1 (fun q=>(bd6.1 q).elim h h2)]
 rw [dz7,bc6,Option.bind_some]
 dsimp only
 cases hb:ag0 m with
 | false=>exact no (fun h=>by have:=h.bare; rw [hb] at this; cases this) (fun h=>by have:=h.bare; rw [hb] at this; cases this)
 | true=>
  rw [ah3,cq7 g.subs.1,Option.bind_some]
  dsimp only
  cases hs:aY9 m.subs with
  | false=>exact no (fun h=>by have:=h.subs; rw [hs] at this; cases this) (fun h=>by have:=h.subs; rw [hs] at this; cases this)
  | true=>
   rw [ah3]
   refine aa9 (fun hk=>by rw [bd6.2 (.inr ⟨hk,hb,hs⟩)]) (fun hk6=>?_)
   have no':¬RpR m→(some ((false,()),()):Option ((Bool × Unit) × Unit))=some ((rpB m,()),()):=fun h=>no h (fun q=>hk6 q.kind)
   refine aa9 (fun hk=>?_) (fun q=>no' (fun h=>q h.kind))
   refine at4 (fun h0=>?_) (fun q=>no' (fun h=>by have:=h.flags; omega))
   refine at4 (fun h1=>?_) (fun q=>no' (fun h=>by have:=h.flags; omega))
   refine at4 (fun h2=>?_) (fun q=>no' (fun h=>by have:=h.plen; omega))
   refine at4 (fun h3=>?_) (fun q=>no' (fun h=>by have:=h.plen; omega))
   rw [pf1 g.hops,Option.bind_some,pf4 g.seq,Option.bind_some,pf4 g.life,Option.bind_some]
   dsimp only
   cases c1:ac7 m.hops 1 with
   | false=>exact no' (fun h=>by have:=eh8.2 h.hops; rw [c1] at this; cases this)
   | true=>cases c2:ac7 m.seq 4 with
    | false=>exact no' (fun h=>by have:=bM4.2 h.seq; rw [c2] at this; cases this)
    | true=>cases c3:ac7 m.interval 4 with
     | false=>exact no' (fun h=>by have:=bM4.2 h.life; rw [c3] at this; cases this)
     | true=>
      rw [ift,ift,ift]
      refine aa9 (fun ha=>?_) (fun q=>no' (fun h=>by have:=h.addr; omega))
      rw [eX7 hk hb hs h0 (by omega) h2 (by omega) c1 c2 c3 (by omega)]
end Go.VP
namespace Go.VP
open Go Go.VI
theorem eX8 {n:Nat} {m:Msg} (g:aO9 m):∀ (d k i:Nat),i+d=m.list.length→d < k→aA1 n k m i=some (((m.list.drop i).all bH4 && aY9 m.subs,()),()):=by
 have gl:=g.list
 intro d
 induction d with
 | zero=>
  intro k i hd hk
  obtain ⟨k,rfl⟩:∃ j,k=j+1:=⟨k - 1,by omega⟩
  rw [bV5,ifn (by omega),List.drop_eq_nil_of_le (by omega),cq7 g.subs.1]; rfl
 | succ d ih=>
  intro k i hd hk
  obtain ⟨k,rfl⟩:∃ j,k=j+1:=⟨k - 1,by omega⟩
  have hi:i < m.list.length:=by omega
  have:=ih k (i+1) (by omega) (by omega)
  rw [show ((i+1:Nat):Int)=(i:Int)+1 by omega] at this
  rw [bV5,ifd (by omega),if_pos (by omega),Int.toNat_natCast,ag1 hi,pf4 (g.ds _ (List.getElem_mem hi)),Option.bind_some,w64 (by omega) (by omega),this,List.drop_eq_getElem_cons hi,List.all_cons]
  unfold bH4
  refine ab9 (fun q=>?_) (fun q=>?_)
  ·rw [decide_eq_false (by omega)]; rfl
  ·rw [decide_eq_true (by omega)]
   dsimp only
   cases ac7 m.list[i].seq 4 <;> rfl
theorem eX9 {m:Msg} (hk:m.kind=5) (hb:ag0 m=true) (hf:m.flags=0∨m.flags=1) (hl:1≤m.list.length∧m.list.length≤255):reB m=(m.list.all bH4 && aY9 m.subs):=by
 apply eO0
 simp only [Bool.and_eq_true,ca1]
 exact ⟨fun h=>⟨h.list,h.subs⟩,fun ⟨a,b⟩=>⟨hk,hb,hf,hl,a,b⟩⟩
theorem dn6 {m:Msg} (g:aO9 m):bq8 (m,())=some ((reB m,()),()):=by
 show cc5 fuel _=_
 have no:¬ReR m→(some ((false,()),()):Option ((Bool × Unit) × Unit))=some ((reB m,()),()):=fun h=>by rw [eO1 (fun q=>h (ca1.1 q))]
 rw [dz8]
 refine ab9 (fun q=>no (fun h=>q h.kind)) (fun hk=>?_)
 rw [bc6,Option.bind_some]
 refine bd4 (fun q=>no (fun h=>by have:=h.bare; dsimp only at q; rw [q] at this; cases this)) (fun hb=>?_)
 have tail:(m.flags=0∨m.flags=1)→(if ((m.list.length:Int)==0)=true then some ((false,()),()) else (if (decide (255 < (m.list.length:Int)))=true then some ((false,()),()) else (aA1 fuel fuel m 0)))=some ((reB m,()),()):=by
  intro hf
  refine aa9 (fun q=>no (fun h=>by have:=h.len; omega)) (fun h0=>?_)
  refine ai9 (fun q=>no (fun h=>by have:=h.len; omega)) (fun h1=>?_)
  rw [eX9 hk hb hf (by omega)]
  have:=eX8 (n:=fuel) g m.list.length fuel 0 (by omega) (ae2 (by omega))
  rw [List.drop_zero] at this
  exact this
 refine ab9 (fun q=>?_) (fun q=>tail (.inl q))
 exact ab9 (fun q2=>no (fun h=>by have:=h.flags; omega)) (fun q2=>tail (.inr q2))
def ao0 (m:Msg):Bs:=[1,aa1 (8 * m.flags),0,aa1 m.hops]++(be 4 m.nonce++(m.addr++(be 4 m.seq++(m.orig++(be 4 m.seq2++ab5 m.subs)))))
def ao1 (m:Msg):Bs:=[2,aa1 (64 * m.flags),aa1 m.plen,aa1 m.hops]++(m.addr++(be 4 m.seq++(m.orig++(be 4 m.interval++ab5 m.subs))))
def aR6 (m:Msg):Bs:=[4,0]++ab5 m.subs
def bx5:List aY0→Bs
 | []=>[]
 | d::l=>(d.addr++be 4 d.seq)++bx5 l
def aD4 (m:Msg):Bs:=[3,aa1 (128 * m.flags),0,aa1 m.list.length]++(bx5 m.list++ab5 m.subs)
theorem W32.has {n:Int} (h:W32 n):IntKind.has .i64 n:=af2.2 ⟨by have:=h.1; omega,by have:=h.2; omega⟩
theorem pp4 {n:Int} (h:W32 n):al5 (n,4,())=some ((be 4 n,true,()),()):=df9 (k:=4) h.has (by omega) (by omega) (bM4.2 h)
theorem dN9 {n:Int} (h:W32 n):aR2 (n,())=some ((be 4 n,()),()):=by
 rw [dJ3,pp4 h]; rfl
theorem eh9 {x:Int} {k:Nat} (hx:0≤x∧x < 65536) (hk:k≤15):aa1 (IntKind.wrap .u8 (ai0 .i64 x (k:Int)))=aa1 (2 ^ k * x):=by
 rw [dK8 hx hk,wu8,aE5]
 exact Int.mul_nonneg (Int.pow_nonneg (by decide)) hx.1
theorem dO0 {m:Msg} (g:aO9 m):(ab5 m.subs).length≤302000000:=by
 have h:=dr1 g.subs
 have:=aR5 m.subs
 have:=g.subs1
 omega
theorem u8x {x:Int} (h:0≤x):aa1 (IntKind.wrap .u8 x)=aa1 x:=by rw [wu8,aE5 h]
noncomputable def dZ6 (m:Msg):Bs × Bool:=if rqB m=true then (ao0 m,true) else ([],false)
theorem eO2 {m:Msg} (g:aO9 m):bW8 (m,())=some (((dZ6 m).1,(dZ6 m).2,()),()):=by
 have hl:=dO0 g
 rw [dW1,dF3 g,Option.bind_some]
 unfold dZ6
 dsimp only
 cases hr:rqB m with
 | false=>rfl
 | true=>
  have h:=bd5.1 hr
  have ha:=h.addr
  have ho:=h.orig
  have b4:∀ n,(be 4 n).length=4:=ab6 4
  rw [ah3,ift,dN7 g.subs g.subs1,Option.bind_some,dN6 h.subs,dN9 h.nonce,Option.bind_some,dN9 h.seq,Option.bind_some,dN9 h.seq2,Option.bind_some]
  dsimp only
  rw [show ((3:Int))=((3:Nat):Int) from rfl,eh9 (by have:=h.flags; omega) (by omega),u8x h.hops.1]
  repeat rw [if_pos (af7 (by simp only [List.length_append,List.length_cons,List.length_nil,b4,ha,ho]; omega))]
  unfold ao0
  simp only [List.append_assoc]
  rfl
noncomputable def dZ7 (m:Msg):Bs × Bool:=if rpB m=true then (if m.kind=6 then aR6 m else ao1 m,true) else ([],false)
theorem eO3 {m:Msg} (g:aO9 m):bW9 (m,())=some (((dZ7 m).1,(dZ7 m).2,()),()):=by
 have hl:=dO0 g
 rw [dW2,dF4 g,Option.bind_some]
 unfold dZ7
 dsimp only
 cases hr:rpB m with
 | false=>rfl
 | true=>
  have h:=bd6.1 hr
  have hs:aY9 m.subs=true:=h.elim (fun h=>h.subs) (fun h=>h.subs)
  have b4:∀ n,(be 4 n).length=4:=ab6 4
  rw [ah3,ift,dN7 g.subs g.subs1,Option.bind_some,dN6 hs]
  dsimp only
  refine aa9 (fun hk=>?_) (fun hk=>?_)
  ·rw [if_pos hk,if_pos (af7 (by omega))]; rfl
  ·have h:=h.resolve_right (fun q=>hk q.kind)
   have ha:=h.addr
   have ho:=h.orig
   rw [if_neg hk,pp4 h.seq,Option.bind_some,pp4 h.life,Option.bind_some]
   dsimp only
   rw [show ((6:Int))=((6:Nat):Int) from rfl,eh9 (by have:=h.flags; omega) (by omega),u8x h.hops.1,u8x h.plen.1]
   repeat rw [if_pos (af7 (by simp only [List.length_append,List.length_cons,List.length_nil,b4,ha,ho]; omega))]
   unfold ao1
   simp only [List.append_assoc]
   rfl
theorem cK2 {d:aY0} (h:bH4 d=true):d.addr.length=4∧W32 d.seq:=by
 unfold bH4 at h
 simp only [Bool.and_eq_true,decide_eq_true_eq,bM4] at h
 exact h
noncomputable def dZ8 (m:Msg):Bs × Bool:=if reB m=true then (aD4 m,true) else ([],false)
theorem em1 {n:Nat} {m:Msg} (g:aO9 m) (h:ReR m):∀ (d k i:Nat) (acc:Bs),i+d=m.list.length→d < k→acc.length≤4+8 * i→bs0 n k m acc i=some ((acc++(bx5 (m.list.drop i)++ab5 m.subs),true,()),()):=by
 have gl:=g.list
 have hl:=dO0 g
 have hle:=h.len
 intro d
 induction d with
 | zero=>
  intro k i acc hd hk ha
  obtain ⟨k,rfl⟩:∃ j,k=j+1:=⟨k - 1,by omega⟩
  rw [cp2,ifn (by omega),List.drop_eq_nil_of_le (by omega),dN7 g.subs g.subs1,Option.bind_some,dN6 h.subs]
  dsimp only
  rw [if_pos (af7 (by omega))]; rfl
 | succ d ih=>
  intro k i acc hd hk ha
  obtain ⟨k,rfl⟩:∃ j,k=j+1:=⟨k - 1,by omega⟩
  have hi:i < m.list.length:=by omega
  obtain ⟨h1,h2⟩:=cK2 (List.all_eq_true.1 h.list _ (List.getElem_mem hi))
  have b4:∀ n,(be 4 n).length=4:=ab6 4
  have:=ih k (i+1) (acc++m.list[i].addr++be 4 m.list[i].seq) (by omega) (by omega) (by simp only [List.length_append,h1,b4]; omega)
  rw [show ((i+1:Nat):Int)=(i:Int)+1 by omega] at this
  rw [cp2,ifd (by omega),if_pos (by omega),Int.toNat_natCast,ag1 hi,pp4 h2,Option.bind_some]
  dsimp only
  rw [if_pos (ah6 (by omega)),if_pos (ah6 (by rw [List.length_append,b4]; omega)),w64 (by omega) (by omega),this,List.drop_eq_getElem_cons hi,bx5]
  simp only [List.append_assoc]
theorem eG3 {m:Msg} (g:aO9 m):bX0 (m,())=some (((dZ8 m).1,(dZ8 m).2,()),()):=by
 show cG7 fuel _=_
 rw [dW3,dn6 g,Option.bind_some]
 unfold dZ8
 dsimp only
 cases hr:reB m with
 | false=>rfl
 | true=>
  have h:=ca1.1 hr
  have hle:=h.len
  have:=em1 (n:=fuel) g h m.list.length fuel 0 [3,aa1 (128 * m.flags),0,aa1 m.list.length] (by omega) (ae2 (by omega)) (by simp)
  rw [List.drop_zero] at this
  rw [ah3,ift,show ((7:Int))=((7:Nat):Int) from rfl,eh9 (by have:=h.flags; omega) (by omega),u8x (by omega)]
  exact this
end Go.VP
namespace Go.VP
open Go Go.VI
def zM:Msg:=aa0.mk 0 0 0 [] 0 0 [] 0 0 [] 0 [] 0 0 0 0 0 0 0 [] [] [] 0 [] []
theorem fc4 {a b:Nat} (ha:a < 256) (hb:b < 256):ad2 .or .u8 (a:Int) (b:Int)=((a ||| b:Nat):Int):=by
 unfold ad2
 show IntKind.wrap .u8 (((BitVec.ofInt 8 (a:Int) ||| BitVec.ofInt 8 (b:Int)).toNat:Nat):Int)=_
 have h:a ||| b < 256:=Nat.or_lt_two_pow (n:=8) ha hb
 rw [BitVec.toNat_or,BitVec.ofInt_natCast,BitVec.ofInt_natCast,BitVec.toNat_ofNat,BitVec.toNat_ofNat,Nat.mod_eq_of_lt ha,Nat.mod_eq_of_lt hb,wu8]
 omega
theorem ex4 {x y:Int} {k:Nat} (hk:k≤8) (hx:0≤x∧x < 256) (hy:0≤y∧y < 256):ad2 .or .u8 (ad2 .and .u8 x ((2 ^ k - 1:Nat):Int)) y=0↔(x % 2 ^ k=0∧y=0):=by
 obtain ⟨a,rfl⟩:∃ a:Nat,x=a:=⟨x.toNat,by omega⟩
 obtain ⟨b,rfl⟩:∃ b:Nat,y=b:=⟨y.toNat,by omega⟩
 have hp:2 ^ k≤2 ^ 8:=Nat.pow_le_pow_right (by decide) hk
 have hp0:0 < 2 ^ k:=Nat.pow_pos (by decide)
 have h1:=Nat.mod_lt a hp0
 rw [en4 (by omega) (by omega),Nat.and_two_pow_sub_one_eq_mod,fc4 (by omega) (by omega)]
 have e:((a:Int) % 2 ^ k)=((a % 2 ^ k:Nat):Int):=by simp
 rw [e]
 constructor
 ·intro h
  have h0:a % 2 ^ k ||| b=0:=by omega
  rw [Nat.or_eq_zero_iff] at h0
  omega
 ·intro h
  have e1:a % 2 ^ k=0:=by omega
  have e2:b=0:=by omega
  rw [e1,e2]; rfl
theorem fc5:∀ y:Fin 256,(y.val &&& 224=0)↔y.val < 32:=by decide +kernel
theorem fc6 {x y:Int} (hx:0≤x∧x < 256) (hy:0≤y∧y < 256):ad2 .or .u8 (ad2 .and .u8 x 63) (ad2 .and .u8 y 224)=0↔(x % 64=0∧y < 32):=by
 obtain ⟨b,rfl⟩:∃ b:Nat,y=b:=⟨y.toNat,by omega⟩
 have h2:ad2 .and .u8 (b:Int) 224=((b &&& 224:Nat):Int):=en4 (b:=224) (by omega) (by omega)
 have h3:b &&& 224≤b:=Nat.and_le_left
 have:=ex4 (x:=x) (y:=((b &&& 224:Nat):Int)) (k:=6) (by omega) hx (by omega)
 rw [h2]
 have h4:=fc5 ⟨b,by omega⟩
 dsimp only at h4
 rw [show ((2 ^ 6 - 1:Nat):Int)=63 from rfl,show (2:Int) ^ 6=64 from rfl] at this
 rw [this]
 omega
theorem ei0 {x:Int} {k:Nat} (hk:k≤8):ac8 .u8 x (k:Int)=x / 2 ^ k:=by
 unfold ac8
 rw [show min (k:Int).toNat IntKind.u8.bits=k by simp only [IntKind.bits]; omega]
 exact Int.fdiv_eq_ediv_of_nonneg _ (Int.pow_nonneg (by decide))
def dg3 (b:Bs):Msg:=aa0.mk 3 0 0 [] 0 0 [] 0 0 [] 0 [] (num (aa2 b 12 4)) (num (aa2 b 20 4)) 0 (bt b 1 / 8) (bt b 3) (num (aa2 b 4 4)) 0 (aa2 b 8 4) (aa2 b 16 4) [] 0 [] (al9 (b.drop 24)).1
def aw1 (b:Bs) (p:Nat) (m:Msg):Msg × Int × Int:=if (al9 (b.drop p)).2.2≠0 then (zM,p+(al9 (b.drop p)).2.1,(al9 (b.drop p)).2.2) else (m,0,0)
def bH5 (b:Bs):Msg × Int × Int:=
 if b.length < 24 then (zM,b.length,2) else if ¬(bt b 1 % 8=0∧bt b 2=0) then (zM,1,5) else aw1 b 24 (dg3 b)
theorem eO4 {b:Bs} (hb:b.length≤1000000):bX6 (b,())=some (ag4 (bH5 b),()):=by
 rw [dV2]
 unfold bH5
 refine ai9 (fun h=>by rw [if_pos (by omega)]; rfl) (fun h=>?_)
 have w0:WfC b 0 b.length:=.whole (by omega)
 have w1:=w0.fwd (n:=4) (by omega) (by omega)
 have w2:=w1.fwd (n:=4) (by omega) (by omega)
 have w3:=w2.fwd (n:=4) (by omega) (by omega)
 have w4:=w3.fwd (n:=4) (by omega) (by omega)
 have w5:=w4.fwd (n:=4) (by omega) (by omega)
 rw [if_neg (show ¬b.length < 24 by omega),ai5 (i:=1) (by omega),ai5 (i:=2) (by omega),ai5 (i:=3) (by omega)]
 simp only [Option.bind_some]
 have e1:(((b[1]?.getD 0).toNat:Nat):Int)=bt b 1:=rfl
 have e2:(((b[2]?.getD 0).toNat:Nat):Int)=bt b 2:=rfl
 have e3:(((b[3]?.getD 0).toNat:Nat):Int)=bt b 3:=rfl
 rw [e1,e2,e3]
 have hx:=ae6 b 1
 have hy:=ae6 b 2
 have hz:=ae6 b 3
 have ao:=ex4 (k:=3) (by omega) hx hy
 rw [show ((2 ^ 3 - 1:Nat):Int)=7 from rfl,show (2:Int) ^ 3=8 from rfl] at ao
 refine ab9 (fun q=>?_) (fun q=>?_)
 ·rw [if_pos (fun c=>q (ao.2 c))]; rfl
 rw [if_neg (show ¬¬(bt b 1 % 8=0∧bt b 2=0) from fun c=>c (ao.1 q)),if_pos (by omega),dg0 (by rw [List.length_drop]; omega),Option.bind_some]
 have hp:=bx4 (b.drop 24)
 rw [List.length_drop] at hp
 unfold aw1
 refine ab9 (fun q2=>?_) (fun q2=>?_)
 ·rw [if_pos q2]
  dsimp only at q2 ⊢
  rw [w64 (by omega) (by omega),Int.add_comm]; rfl
 rw [if_neg (show ¬(al9 (b.drop 24)).2.2≠0 from fun c=>c q2),bw0,Option.bind_some]
 dsimp only
 rw [av6 w0 (by omega) (by omega),Option.bind_some]
 dsimp only
 rw [as2 w1 (by omega) (by omega) (by omega),Option.bind_some]
 dsimp only
 rw [av6 w2 (by omega) (by omega),Option.bind_some]
 dsimp only
 rw [as2 w3 (by omega) (by omega) (by omega),Option.bind_some]
 dsimp only
 rw [av6 w4 (by omega) (by omega),Option.bind_some]
 dsimp only
 rw [as2 w5 (by omega) (by omega) (by omega),Option.bind_some]
 have hs:=ei0 (x:=bt b 1) (k:=3) (by omega)
 rw [show ((3:Nat):Int)=3 from rfl,show (2:Int) ^ 3=8 from rfl] at hs
 rw [hs,w64 (by omega) (by omega),w64 (by omega) (by omega)]
 rfl
def dg4 (b:Bs):Msg:=aa0.mk 4 0 0 [] 0 0 [] (bt b 2) 0 [] 0 [] (num (aa2 b 8 4)) 0 (num (aa2 b 16 4)) (bt b 1 / 64) (bt b 3) 0 0 (aa2 b 4 4) (aa2 b 12 4) [] 0 [] (al9 (b.drop 20)).1
def cK3 (b:Bs):Msg:=aa0.mk 6 0 0 [] 0 0 [] 0 0 [] 0 [] 0 0 0 0 0 0 0 [] [] [] 0 [] (al9 (b.drop 2)).1
def aP0 (b:Bs):Msg × Int × Int:=
 if bt b 0=4 then (if b.length < 2 then (zM,b.length,2) else if ¬bt b 1=0 then (zM,1,5) else aw1 b 2 (cK3 b))
 else if b.length < 20 then (zM,b.length,2) else if ¬(bt b 1 % 64=0∧bt b 2 < 32) then (zM,1,5) else aw1 b 20 (dg4 b)
theorem fc7 {b:Bs} (hb:b.length≤1000000):bX7 (b,())=some (ag4 (if b.length < 2 then (zM,(b.length:Int),(2:Int)) else if ¬bt b 1=0 then (zM,1,5) else aw1 b 2 (cK3 b)),()):=by
 rw [dV4]
 refine ai9 (fun h=>by rw [if_pos (by omega)]; rfl) (fun h=>?_)
 rw [if_neg (show ¬b.length < 2 by omega),ai5 (i:=1) (by omega),Option.bind_some]
 refine ab9 (fun q=>?_) (fun q=>?_)
 ·rw [if_pos (show ¬bt b 1=0 from q)]; rfl
 rw [if_neg (show ¬¬bt b 1=0 from fun c=>c q),if_pos (by omega),dg0 (by rw [List.length_drop]; omega),Option.bind_some]
 have hp:=bx4 (b.drop 2)
 rw [List.length_drop] at hp
 unfold aw1
 refine ab9 (fun q2=>?_) (fun q2=>?_)
 ·rw [if_pos q2]
  dsimp only at q2 ⊢
  rw [w64 (by omega) (by omega),Int.add_comm]; rfl
 ·rw [if_neg (show ¬(al9 (b.drop 2)).2.2≠0 from fun c=>c q2)]; rfl
theorem eO5 {b:Bs} (h0:1≤b.length) (hb:b.length≤1000000):bX8 (b,())=some (ag4 (aP0 b),()):=by
 rw [dV5]
 unfold aP0
 have hne:b≠[]:=by intro q; rw [q] at h0; simp at h0
 rw [if_pos (by simp [hne]),ai5 (i:=0) (by omega),Option.bind_some]
 refine aa9 (fun q=>?_) (fun q=>?_)
 ·rw [if_pos (show bt b 0=4 from q),fc7 hb]; rfl
 rw [if_neg (show ¬bt b 0=4 from q)]
 refine ai9 (fun h=>by rw [if_pos (by omega)]; rfl) (fun h=>?_)
 have w0:WfC b 0 b.length:=.whole (by omega)
 have w1:=w0.fwd (n:=4) (by omega) (by omega)
 have w2:=w1.fwd (n:=4) (by omega) (by omega)
 have w3:=w2.fwd (n:=4) (by omega) (by omega)
 have w4:=w3.fwd (n:=4) (by omega) (by omega)
 rw [if_neg (show ¬b.length < 20 by omega),ai5 (i:=1) (by omega),ai5 (i:=2) (by omega),ai5 (i:=3) (by omega)]
 simp only [Option.bind_some]
 have e1:(((b[1]?.getD 0).toNat:Nat):Int)=bt b 1:=rfl
 have e2:(((b[2]?.getD 0).toNat:Nat):Int)=bt b 2:=rfl
 have e3:(((b[3]?.getD 0).toNat:Nat):Int)=bt b 3:=rfl
 rw [e1,e2,e3]
 have hx:=ae6 b 1
 have hy:=ae6 b 2
 have hz:=ae6 b 3
 have ao:=fc6 hx hy
 refine ab9 (fun q=>?_) (fun q=>?_)
 ·rw [if_pos (fun c=>q (ao.2 c))]; rfl
 rw [if_neg (show ¬¬(bt b 1 % 64=0∧bt b 2 < 32) from fun c=>c (ao.1 q)),if_pos (by omega),dg0 (by rw [List.length_drop]; omega),Option.bind_some]
 have hp:=bx4 (b.drop 20)
 rw [List.length_drop] at hp
 unfold aw1
 refine ab9 (fun q2=>?_) (fun q2=>?_)
 ·rw [if_pos q2]
  dsimp only at q2 ⊢
  rw [w64 (by omega) (by omega),Int.add_comm]; rfl
 rw [if_neg (show ¬(al9 (b.drop 20)).2.2≠0 from fun c=>c q2),bw0,Option.bind_some]
 dsimp only
 rw [av6 w0 (by omega) (by omega),Option.bind_some]
 dsimp only
 rw [av6 w1 (by omega) (by omega),Option.bind_some]
 dsimp only
 rw [as2 w2 (by omega) (by omega) (by omega),Option.bind_some]
 dsimp only
 rw [av6 w3 (by omega) (by omega),Option.bind_some]
 dsimp only
 rw [as2 w4 (by omega) (by omega) (by omega),Option.bind_some]
 have hs:=ei0 (x:=bt b 1) (k:=6) (by omega)
 rw [show ((6:Nat):Int)=6 from rfl,show (2:Int) ^ 6=64 from rfl] at hs
 rw [hs,w64 (by omega) (by omega),w64 (by omega) (by omega),w64 (by omega) (by omega)]
 rfl
end Go.VP
namespace Go.VP
open Go Go.VI
def aE9 (b:Bs):Nat→Nat→List aY0
 | 0,_=>[]
 | k+1,p=>⟨aa2 b p 4,num (aa2 b ((p:Int)+4) 4)⟩::aE9 b k (p+8)
def cK4 (b:Bs):Msg:=aa0.mk 5 0 0 [] 0 0 [] 0 0 [] 0 [] 0 0 0 (bt b 1 / 128) 0 0 0 [] [] (aE9 b (bt b 3).toNat 4) 0 [] (al9 (b.drop (4+8 * (bt b 3).toNat))).1
def bH6 (b:Bs):Msg × Int × Int:=
 if b.length < 4 then (zM,b.length,2) else if ¬(bt b 1 % 128=0∧bt b 2=0) then (zM,1,5) else if bt b 3=0 then (zM,3,8)
 else if b.length < 4+8 * (bt b 3).toNat then (zM,b.length,2) else aw1 b (4+8 * (bt b 3).toNat) (cK4 b)
theorem eG4:cr7≤100:=Nat.le_of_ble_eq_true (by kernel_rfl)
theorem eG5 {n:Nat} {b:Bs} {fl c:Int} (hb:b.length≤1000000) (hc:c≤255):∀ (d m i:Nat) (p:Int) (bad:Bool) (acc:List aY0),(i:Int)+d=c→d < m→WfC b p b.length→(bad=true∨(b.length:Int) < p+8 * d)→acc.length≤i→
  aK1 n m b fl acc b p b.length bad c i=some (ag4 (zM,(b.length:Int),(2:Int)),()):=by
 intro d
 induction d with
 | zero=>
  intro m i p bad acc hd hm w hbad ha
  obtain ⟨m,rfl⟩:∃ j,m=j+1:=⟨m - 1,by omega⟩
  have hw:=w.hi
  have:bad=true:=hbad.resolve_right (by omega)
  rw [aU5,ifn (by omega),this]; try rfl
 | succ d ih=>
  intro m i p bad acc hd hm w hbad ha
  obtain ⟨m,rfl⟩:∃ j,m=j+1:=⟨m - 1,by omega⟩
  rw [aU5,ifd (by omega),w64 (by omega) (by omega)]
  have go:∀ (q:Int) (bd:Bool) (x:aY0),WfC b q b.length→(bd=true∨(b.length:Int) < q+8 * d)→(if ag7 ((acc.length + [x].length) * cr7)=true then aK1 n m b fl (acc++[x]) b q b.length bd c ((i:Int)+1) else none)=some (ag4 (zM,(b.length:Int),(2:Int)),()):=by
   intro q bd x wq hq
   rw [if_pos (cj0 (by simp; omega) eG4)]
   have:=ih m (i+1) q bd (acc++[x]) (by omega) (by omega) wq hq (by simp; omega)
   rw [show ((i+1:Nat):Int)=(i:Int)+1 by omega] at this
   exact this
  by_cases h1:bad=true∨(b.length:Int) < p+4
  ·rw [bl0 w (h1.imp id .inr),Option.bind_some]
   dsimp only
   rw [bZ5 w (by omega) (by omega) (.inl rfl),Option.bind_some]
   exact go p true _ w (.inl rfl)
  ·have hbf:bad=false:=by cases bad <;> simp_all
   subst hbf
   have w1:=w.fwd (n:=4) (by omega) (by omega)
   rw [av6 w (by omega) (by omega),Option.bind_some]
   dsimp only
   by_cases h2:(b.length:Int) < p+4+4
   ·rw [bZ5 w1 (by omega) (by omega) (.inr (by omega)),Option.bind_some]
    exact go (p+4) true _ w1 (.inl rfl)
   ·rw [as2 w1 (by omega) (by omega) (by omega),Option.bind_some]
    exact go (p+4+4) false _ (w1.fwd (n:=4) (by omega) (by omega)) (.inr (by have:=hbad.resolve_left (by simp); omega))
theorem eO6 (b:Bs) (p:Nat) (h:p≤b.length):0≤(al9 (b.drop p)).2.1∧(al9 (b.drop p)).2.1≤b.length:=by
 have:=bx4 (b.drop p)
 rw [List.length_drop] at this
 omega
def ei1 (b:Bs) (fl:Int) (l:List aY0) (p:Nat):Msg × Int × Int:=aw1 b p (aa0.mk 5 0 0 [] 0 0 [] 0 0 [] 0 [] 0 0 0 fl 0 0 0 [] [] l 0 [] (al9 (b.drop p)).1)
theorem ex5 {n:Nat} {b:Bs} {fl c:Int} (hb:b.length≤1000000) (hc:c≤255):∀ (d m i p:Nat) (acc:List aY0),(i:Int)+d=c→d < m→p+8 * d≤b.length→acc.length≤i→
  aK1 n m b fl acc b p b.length false c i=some (ag4 (ei1 b fl (acc++aE9 b d p) (p+8 * d)),()):=by
 intro d
 induction d with
 | zero=>
  intro m i p acc hd hm hp ha
  obtain ⟨m,rfl⟩:∃ j,m=j+1:=⟨m - 1,by omega⟩
  have ht:=eO6 b p (by omega)
  rw [aU5,ifn (by omega),at2,if_pos (by omega),Int.toNat_natCast,dg0 (by rw [List.length_drop]; omega),Option.bind_some,aE9,List.append_nil]
  unfold ei1 aw1
  rw [Nat.mul_zero,Nat.add_zero]
  refine ab9 (fun q2=>?_) (fun q2=>?_)
  ·rw [if_pos q2]
   dsimp only at q2 ⊢
   rw [w64 (by omega) (by omega)]; try rfl
  ·rw [if_neg (fun c=>c q2)]; try rfl
 | succ d ih=>
  intro m i p acc hd hm hp ha
  obtain ⟨m,rfl⟩:∃ j,m=j+1:=⟨m - 1,by omega⟩
  have w:WfC b p b.length:=⟨by omega,by omega,by omega,by omega⟩
  have w1:=w.fwd (n:=4) (by omega) (by omega)
  have:=ih m (i+1) (p+8) (acc++[⟨aa2 b p 4,num (aa2 b ((p:Int)+4) 4)⟩]) (by omega) (by omega) (by omega) (by simp; omega)
  rw [show ((i+1:Nat):Int)=(i:Int)+1 by omega,show ((p+8:Nat):Int)=(p:Int)+4+4 by omega,show p+8+8 * d=p+8 * (d+1) by omega] at this
  rw [aU5,ifd (by omega),w64 (by omega) (by omega),av6 w (by omega) (by omega),Option.bind_some]
  dsimp only
  rw [as2 w1 (by omega) (by omega) (by omega),Option.bind_some]
  dsimp only
  rw [if_pos (cj0 (by simp; omega) eG4),this,aE9]
  simp only [List.append_assoc,List.singleton_append]
theorem eG6 {b:Bs} (hb:b.length≤1000000):cH4 (b,())=some (ag4 (bH6 b),()):=by
 show cH3 fuel _=_
 rw [dV3]
 unfold bH6
 refine ai9 (fun h=>by rw [if_pos (by omega)]; try rfl) (fun h=>?_)
 rw [if_neg (show ¬b.length < 4 by omega),ai5 (i:=1) (by omega),Option.bind_some,ai5 (i:=2) (by omega),Option.bind_some,ai5 (i:=3) (by omega)]
 have e1:(((b[1]?.getD 0).toNat:Nat):Int)=bt b 1:=rfl
 have e2:(((b[2]?.getD 0).toNat:Nat):Int)=bt b 2:=rfl
 have e3:(((b[3]?.getD 0).toNat:Nat):Int)=bt b 3:=rfl
 rw [e1,e2]
 have hx:=ae6 b 1
 have hy:=ae6 b 2
 have hz:=ae6 b 3
 have ao:=ex4 (k:=7) (by omega) hx hy
 rw [show ((2 ^ 7 - 1:Nat):Int)=127 from rfl,show (2:Int) ^ 7=128 from rfl] at ao
 refine ab9 (fun q=>?_) (fun q=>?_)
 ·rw [if_pos (fun c=>q (ao.2 c))]; try rfl
 rw [if_neg (show ¬¬(bt b 1 % 128=0∧bt b 2=0) from fun c=>c (ao.1 q)),Option.bind_some]
 refine aa9 (fun q=>by rw [if_pos (show bt b 3=0 from q)]; try rfl) (fun q=>?_)
 have w0:WfC b 0 b.length:=.whole (by omega)
 have w1:=w0.fwd (n:=4) (by omega) (by omega)
 have hs:=ei0 (x:=bt b 1) (k:=7) (by omega)
 rw [show ((7:Nat):Int)=7 from rfl,show (2:Int) ^ 7=128 from rfl] at hs
 rw [if_neg (show ¬bt b 3=0 from q),Option.bind_some,bw0,Option.bind_some]
 dsimp only
 rw [av6 w0 (by omega) (by omega),Option.bind_some,Option.bind_some,e3,e1,hs,w64 (x:=bt b 1 / 128) (by omega) (by omega),w64 (x:=bt b 3) (by omega) (by omega)]
 dsimp only
 by_cases hl:b.length < 4+8 * (bt b 3).toNat
 ·rw [if_pos hl]
  have key:=eG5 (n:=fuel) (fl:=bt b 1 / 128) (c:=bt b 3) hb (by omega) (bt b 3).toNat fuel 0 (0+4) false [] (by omega) (ae2 (by omega)) w1 (.inr (by omega)) (by simp)
  rw [show ((0:Nat):Int)=0 from rfl] at key
  rw [key]
 ·rw [if_neg hl]
  have key:=ex5 (n:=fuel) (fl:=bt b 1 / 128) (c:=bt b 3) hb (by omega) (bt b 3).toNat fuel 0 4 [] (by omega) (ae2 (by omega)) (by omega) (by simp)
  rw [show ((4:Nat):Int)=0+4 from rfl,show ((0:Nat):Int)=0 from rfl,List.nil_append] at key
  rw [key]
  unfold ei1 cK4
  rfl
end Go.VP
namespace Go.VP
open Go Go.VI
noncomputable def avB (m:Msg):Bool:=rqB m || (rpB m || reB m)
noncomputable def am3 (m:Msg):Bs:=if rqB m=true then ao0 m else if rpB m=true then (if m.kind=6 then aR6 m else ao1 m) else if reB m=true then aD4 m else []
noncomputable def ay9 (l:List Msg):Bs × Int × Int:=match ay8 avB l 0 with
 | some i=>([],(i:Int),1)
 | none=>match l with
  | []=>([],0,8)
  | [m]=>if 65535 < (am3 m).length then ([],0,10) else (am3 m,0,0)
  | _=>([],1,8)
def aw2 (b:Bs):Msg × Int × Int:=if bt b 0=1 then bH5 b else if bt b 0=3 then bH6 b else aP0 b
def aA5 (b:Bs):List Msg × Int × Int:=
 if 65535 < b.length then ([],65535,10) else if b.length=0 then ([],0,2) else if bt b 0 < 1∨4 < bt b 0 then ([],0,4)
 else if (aw2 b).2.2≠0 then ([],(aw2 b).2.1,(aw2 b).2.2) else ([(aw2 b).1],0,0)
theorem dF5 {m:Msg} (g:aO9 m):aW3 (m,())=some ((avB m,()),()):=by
 rw [dz9,dF3 g,Option.bind_some]
 unfold avB
 dsimp only
 cases rqB m with
 | true=>rfl
 | false=>
  rw [at2,dF4 g,Option.bind_some]
  dsimp only
  cases rpB m with
  | true=>rfl
  | false=>rw [at2,dn6 g]; try rfl
theorem eO7 {b:Bs} (h0:1≤b.length) (hb:b.length≤1000000):bX9 (b,())=some (ag4 (aw2 b),()):=by
 rw [dV6,ai5 (i:=0) (by omega),Option.bind_some]
 unfold aw2
 refine aa9 (fun q=>?_) (fun q=>?_)
 ·rw [if_pos (show bt b 0=1 from q),eO4 hb]; try rfl
 rw [if_neg (show ¬bt b 0=1 from q)]
 refine aa9 (fun q=>?_) (fun q=>?_)
 ·rw [if_pos (show bt b 0=3 from q),eG6 hb]; try rfl
 rw [if_neg (show ¬bt b 0=3 from q),eO5 h0 hb]; try rfl
theorem ex6 {b:Bs} (hb:b.length≤1000000000):bt9 (b,())=some (ag4 (aA5 b),()):=by
 rw [dz1]
 unfold aA5
 refine ai9 (fun h=>by rw [if_pos (by omega)]; try rfl) (fun h=>?_)
 rw [if_neg (show ¬65535 < b.length by omega)]
 refine aa9 (fun h=>by rw [if_pos (by omega)]; try rfl) (fun h1=>?_)
 rw [if_neg (show ¬b.length=0 by omega),ai5 (i:=0) (by omega),Option.bind_some,Option.bind_some]
 refine ai9 (fun h=>by rw [if_pos (show bt b 0 < 1∨4 < bt b 0 from .inl h)]; try rfl) (fun h2=>?_)
 refine ai9 (fun h=>by rw [if_pos (show bt b 0 < 1∨4 < bt b 0 from .inr h)]; try rfl) (fun h3=>?_)
 rw [if_neg (show ¬(bt b 0 < 1∨4 < bt b 0) from fun c=>c.elim h2 h3),eO7 (by omega) (by omega),Option.bind_some]
 refine ab9 (fun q=>?_) (fun q=>?_)
 ·rw [if_pos q]; try rfl
 ·rw [if_neg (fun c=>c q)]; try rfl
theorem eO8 {l:List Msg} (g:∀ m∈l,aO9 m) (hl:l.length≤1000000):bP6 (l,())=some (ag4 (ay9 l),()):=by
 show bP5 fuel (l,())=_
 rw [dq1]
 have main:∀ (d m i:Nat),i+d=l.length→d < m→ay8 avB l 0=ay8 avB (l.drop i) i→aT6 fuel m l i=some (ag4 (ay9 l),()):=by
  intro d
  induction d with
  | zero=>
   intro m i hd hm hb
   obtain ⟨m,rfl⟩:∃ k,m=k+1:=⟨m - 1,by omega⟩
   rw [List.drop_eq_nil_of_le (by omega)] at hb
   have hn:ay8 avB l 0=none:=hb
   have hok:=aZ1 hn
   rw [bL2,ifn (by omega)]
   match l,g,hn,hok with
   | [],_,_,_=>rfl
   | x::y::r,_,hn,_=>
    have he:ay9 (x::y::r)=([],1,8):=by unfold ay9; rw [hn]
    rw [he,if_neg (by simp; omega),ifd (by simp; omega)]
   | [x],g,hn,hok=>
    have g:=g x (by simp)
    have hx:=hok x (by simp)
    have he:ay9 [x]=if 65535 < (am3 x).length then ([],0,10) else (am3 x,0,0):=by unfold ay9; rw [hn]
    have fin:∀ s:Bs,s=am3 x→(if (decide (65535 < (s.length:Int)))=true then some ((([]:Bs),0,10,()),()) else some ((s,0,0,()),()))=some (ag4 (ay9 [x]),()):=by
     intro s hs
     rw [he,← hs]
     refine ai9 (fun h=>?_) (fun h=>?_)
     ·rw [if_pos (by omega)]
     ·rw [if_neg (by omega)]
    rw [if_neg (by simp),ifn (by simp),show [x][0]?=some x from rfl]
    simp only [Option.bind_some]
    rw [eO2 g,Option.bind_some]
    dsimp only
    unfold dZ6
    cases h1:rqB x with
    | true=>
     simp only [if_true]
     rw [ah3]
     exact fin _ (by unfold am3; rw [if_pos h1])
    | false=>
     rw [at2,am5,eO3 g,Option.bind_some]
     dsimp only
     unfold dZ7
     cases h2:rpB x with
     | true=>
      simp only [if_true]
      rw [ah3]
      exact fin _ (by unfold am3; rw [if_neg (show ¬rqB x=true by rw [h1]; simp),if_pos h2])
     | false=>
      rw [at2,am5,eG3 g,Option.bind_some]
      have h3:reB x=true:=by unfold avB at hx; rw [h1,h2] at hx; simpa using hx
      refine fin _ ?_
      unfold dZ8 am3
      rw [if_pos h3,if_neg (show ¬rqB x=true by rw [h1]; simp),if_neg (show ¬rpB x=true by rw [h2]; simp),if_pos h3]
  | succ d ih=>
   intro m i hd hm hb
   obtain ⟨m,rfl⟩:∃ k,m=k+1:=⟨m - 1,by omega⟩
   have hi:i < l.length:=by omega
   rw [List.drop_eq_getElem_cons hi,ay8] at hb
   rw [bL2,ifd (by omega),if_pos (by omega),Int.toNat_natCast,ag1 hi,dF5 (g _ (List.getElem_mem hi)),Option.bind_some]
   dsimp only
   cases ho:avB l[i] with
   | true=>
    rw [if_pos ho] at hb
    have:=ih m (i+1) (by omega) (by omega) hb
    rw [ah3,w64 (by omega) (by omega)]
    exact this
   | false=>
    rw [if_neg (by rw [ho]; simp)] at hb
    rw [am5]
    unfold ay9; rw [hb]
 exact main l.length fuel 0 (by omega) (ae2 (by omega)) rfl
end Go.VP
namespace Go.VP
open Go Go.VI
theorem av0 {b x r:Bs} {p n:Nat} (h:b.drop p=x++r) (hx:x.length=n):b.drop (p+n)=r∧aa2 b p (n:Int)=x:=by
 rw [cq8,h,← List.drop_drop,h]
 exact ⟨List.drop_left' hx,List.take_left' hx⟩
theorem bx6 (b:Bs) (p:Nat):aa2 b p 4++b.drop (p+4)=b.drop p:=by
 have:=cq8 b p 4
 rw [show ((4:Nat):Int)=4 from rfl] at this
 rw [this,← List.drop_drop,List.take_append_drop]
theorem bl7 {b:Bs} {p:Nat} (h:p+4≤b.length):(aa2 b p 4).length=4:=by
 have:=ah7 (s:=b) (p:=p) (n:=4) (by omega) (by omega) (by omega)
 omega
theorem dO1 {b:Bs} {p:Nat} (h:p+4≤b.length):W32 (num (aa2 b p 4)):=by
 have:=aR4 (aa2 b p 4)
 rw [bl7 h] at this
 exact ⟨this.1,by have:=this.2; omega⟩
theorem ca2 {b:Bs} {p:Nat} (h:p+4≤b.length):be 4 (num (aa2 b p 4))=aa2 b p 4:=dB9 4 _ (bl7 h)
theorem bE9 {n:Int} (h:W32 n):num (be 4 n)=n:=ci9 4 n h.1 (by have:=h.2; omega)
theorem cK5 {c:Int} (h:0≤c∧c < 256):((aa1 c).toNat:Int)=c:=by rw [ai6]; omega
theorem dg5 {m x:Msg} (h:ag0 m=true) (hx:ah2 m=some x):m=x:=by
 unfold ag0 at h
 rw [hx] at h
 exact (aO2.1 h).symm
theorem dg6 {m:Msg} (h:ah2 m=some m):ag0 m=true:=by
 unfold ag0; rw [h]; exact an3 m
theorem RqR.is {m:Msg} (h:RqR m):m=aa0.mk 3 0 0 [] 0 0 [] 0 0 [] 0 [] m.seq m.seq2 0 m.flags m.hops m.nonce 0 m.addr m.orig [] 0 [] m.subs:=by
 have hk:=h.kind
 have:=dg5 h.bare (by unfold ah2; rw [if_neg (by omega),if_neg (by omega),if_pos hk])
 rw [hk] at this
 exact this
theorem eY0 {m:Msg} (h:RqR m):bH5 (ao0 m)=(m,0,0)∧bt (ao0 m) 0=1:=by
 have b4:∀ n,(be 4 n).length=4:=ab6 4
 have hf:=h.flags
 have hh:=h.hops
 have hae:=at5.1 h.subs
 obtain ⟨d1,c1⟩:=av0 (b:=ao0 m) (p:=4) (n:=4) (x:=be 4 m.nonce) rfl (b4 _)
 obtain ⟨d2,c2⟩:=av0 d1 h.addr
 obtain ⟨d3,c3⟩:=av0 d2 (b4 _)
 obtain ⟨d4,c4⟩:=av0 d3 h.orig
 obtain ⟨d5,c5⟩:=av0 d4 (b4 _)
 have hlen:=congrArg List.length d5
 rw [List.length_drop] at hlen
 have hL:24≤(ao0 m).length:=by unfold ao0; simp only [List.length_append,List.length_cons,List.length_nil,b4,h.addr,h.orig]; omega
 have e1:bt (ao0 m) 1=8 * m.flags:=cK5 (by omega)
 have e2:bt (ao0 m) 2=0:=rfl
 have e3:bt (ao0 m) 3=m.hops:=cK5 hh
 refine ⟨?_,rfl⟩
 unfold bH5
 rw [if_neg (by omega),e1,e2,if_neg (by omega)]
 unfold aw1
 rw [show (4+4+4+4+4+4:Nat)=24 from rfl] at d5
 rw [d5,aM1 hae,if_neg (show ¬(0:Int)≠0 by decide)]
 unfold dg3
 rw [d5,aM1 hae,e1,e3]
 have c1:aa2 (ao0 m) 4 4=_:=c1
 have c2:aa2 (ao0 m) 8 4=_:=c2
 have c3:aa2 (ao0 m) 12 4=_:=c3
 have c4:aa2 (ao0 m) 16 4=_:=c4
 have c5:aa2 (ao0 m) 20 4=_:=c5
 rw [c1,c2,c3,c4,c5,bE9 h.nonce,bE9 h.seq,bE9 h.seq2,show 8 * m.flags / 8=m.flags by omega]
 rw [← h.is]
theorem ex7 {b:Bs} (h:¬b.length < 4):[aa1 (bt b 0),aa1 (bt b 1),aa1 (bt b 2),aa1 (bt b 3)]++b.drop 4=b:=by
 obtain ⟨w,x,y,z,r,rfl⟩:=df8 h
 show [aa1 (w.toNat:Int),aa1 (x.toNat:Int),aa1 (y.toNat:Int),aa1 (z.toNat:Int)]++r=_
 rw [aO1,aO1,aO1,aO1]; rfl
theorem cK6 {b:Bs} {p:Nat} {m:Msg} (h:(aw1 b p m).2.2=0):aw1 b p m=(m,0,0)∧cx3 (al9 (b.drop p)).1∧ab5 (al9 (b.drop p)).1=b.drop p∧2 * (al9 (b.drop p)).1.length≤b.length:=by
 unfold aw1 at h ⊢
 by_cases q:(al9 (b.drop p)).2.2≠0
 ·rw [if_pos q] at h; exact absurd h q
 ·rw [if_neg q]
  obtain ⟨_,k1,k2,k3⟩:=eW9 (Classical.byContradiction q)
  rw [List.length_drop] at k3
  exact ⟨rfl,k1,k2,by omega⟩
theorem eO9 {b:Bs} (h0:bt b 0=1) (h:(bH5 b).2.2=0):bH5 b=(dg3 b,0,0)∧RqR (dg3 b)∧ao0 (dg3 b)=b∧(dg3 b).subs.length≤b.length:=by
 unfold bH5 at h ⊢
 by_cases h1:b.length < 24
 ·rw [if_pos h1] at h; cases h
 by_cases h2:¬(bt b 1 % 8=0∧bt b 2=0)
 ·rw [if_neg h1,if_pos h2] at h; cases h
 rw [if_neg h1,if_neg h2] at h ⊢
 obtain ⟨k1,k2,k3,k4⟩:=cK6 h
 have h2:=Classical.byContradiction h2
 have hx:=ae6 b 1
 have hz:=ae6 b 3
 refine ⟨k1,⟨rfl,dg6 rfl,by show 0≤bt b 1 / 8∧bt b 1 / 8≤31; omega,bl7 (p:=8) (by omega),bl7 (p:=16) (by omega),dO1 (p:=4) (by omega),dO1 (p:=12) (by omega),dO1 (p:=20) (by omega),hz,at5.2 k2⟩,?_,by show (al9 (b.drop 24)).1.length≤_; omega⟩
 show [1,aa1 (8 * (bt b 1 / 8)),0,aa1 (bt b 3)]++(be 4 (num (aa2 b (4:Nat) 4))++(aa2 b (8:Nat) 4++(be 4 (num (aa2 b (12:Nat) 4))++(aa2 b (16:Nat) 4++(be 4 (num (aa2 b (20:Nat) 4))++ab5 (al9 (b.drop 24)).1)))))=b
 rw [k3,ca2 (by omega),ca2 (by omega),ca2 (by omega),bx6 b 20,bx6 b 16,bx6 b 12,bx6 b 8,bx6 b 4,show 8 * (bt b 1 / 8)=bt b 1 by omega]
 have:=ex7 (b:=b) (by omega)
 rw [h0,h2.2] at this
 exact this
theorem RpR.is {m:Msg} (h:RpR m):m=aa0.mk 4 0 0 [] 0 0 [] m.plen 0 [] 0 [] m.seq 0 m.interval m.flags m.hops 0 0 m.addr m.orig [] 0 [] m.subs:=by
 have hk:=h.kind
 have:=dg5 h.bare (by unfold ah2; rw [if_neg (by omega),if_neg (by omega),if_neg (by omega),if_pos hk])
 rw [hk] at this
 exact this
theorem AkR.is {m:Msg} (h:AkR m):m=aa0.mk 6 0 0 [] 0 0 [] 0 0 [] 0 [] 0 0 0 0 0 0 0 [] [] [] 0 [] m.subs:=by
 have hk:=h.kind
 have:=dg5 h.bare (by unfold ah2; rw [if_neg (by omega),if_neg (by omega),if_neg (by omega),if_neg (by omega),if_neg (by omega),if_pos hk])
 rw [hk] at this
 exact this
theorem eY1 {m:Msg} (h:RpR m):aP0 (ao1 m)=(m,0,0)∧bt (ao1 m) 0=2:=by
 have b4:∀ n,(be 4 n).length=4:=ab6 4
 have hf:=h.flags
 have hh:=h.hops
 have hp:=h.plen
 have hae:=at5.1 h.subs
 obtain ⟨d1,c1⟩:=av0 (b:=ao1 m) (p:=4) (n:=4) (x:=m.addr) rfl h.addr
 obtain ⟨d2,c2⟩:=av0 d1 (b4 _)
 obtain ⟨d3,c3⟩:=av0 d2 h.orig
 obtain ⟨d4,c4⟩:=av0 d3 (b4 _)
 have hL:20≤(ao1 m).length:=by unfold ao1; simp only [List.length_append,List.length_cons,List.length_nil,b4,h.addr,h.orig]; omega
 have e0:bt (ao1 m) 0=2:=rfl
 have e1:bt (ao1 m) 1=64 * m.flags:=cK5 (by omega)
 have e2:bt (ao1 m) 2=m.plen:=cK5 (by omega)
 have e3:bt (ao1 m) 3=m.hops:=cK5 hh
 refine ⟨?_,rfl⟩
 unfold aP0
 rw [e0,if_neg (by decide),if_neg (by omega),e1,e2,if_neg (by omega)]
 unfold aw1
 rw [show (4+4+4+4+4:Nat)=20 from rfl] at d4
 rw [d4,aM1 hae,if_neg (show ¬(0:Int)≠0 by decide)]
 unfold dg4
 rw [d4,aM1 hae,e1,e2,e3]
 have c1:aa2 (ao1 m) 4 4=_:=c1
 have c2:aa2 (ao1 m) 8 4=_:=c2
 have c3:aa2 (ao1 m) 12 4=_:=c3
 have c4:aa2 (ao1 m) 16 4=_:=c4
 rw [c1,c2,c3,c4,bE9 h.seq,bE9 h.life,show 64 * m.flags / 64=m.flags by omega]
 rw [← h.is]
theorem eY2 {m:Msg} (h:AkR m):aP0 (aR6 m)=(m,0,0)∧bt (aR6 m) 0=4:=by
 have hae:=at5.1 h.subs
 have d:(aR6 m).drop 2=ab5 m.subs:=rfl
 have e0:bt (aR6 m) 0=4:=rfl
 have e1:bt (aR6 m) 1=0:=rfl
 refine ⟨?_,rfl⟩
 unfold aP0
 rw [e0,if_pos rfl,if_neg (by unfold aR6; simp),e1,if_neg (by decide)]
 unfold aw1
 rw [d,aM1 hae,if_neg (show ¬(0:Int)≠0 by decide)]
 unfold cK3
 rw [d,aM1 hae]
 rw [← h.is]
theorem eP0 {b:Bs} (h4:¬bt b 0=4) (h0:bt b 0=2) (h:(aP0 b).2.2=0):aP0 b=(dg4 b,0,0)∧RpR (dg4 b)∧ao1 (dg4 b)=b∧(dg4 b).subs.length≤b.length:=by
 unfold aP0 at h ⊢
 rw [if_neg h4] at h ⊢
 by_cases h1:b.length < 20
 ·rw [if_pos h1] at h; cases h
 by_cases h2:¬(bt b 1 % 64=0∧bt b 2 < 32)
 ·rw [if_neg h1,if_pos h2] at h; cases h
 rw [if_neg h1,if_neg h2] at h ⊢
 obtain ⟨k1,k2,k3,k4⟩:=cK6 h
 have h2:=Classical.byContradiction h2
 have hx:=ae6 b 1
 have hy:=ae6 b 2
 have hz:=ae6 b 3
 refine ⟨k1,⟨rfl,dg6 rfl,by show 0≤bt b 1 / 64∧bt b 1 / 64≤3; omega,by show 0≤bt b 2∧bt b 2≤31; omega,bl7 (p:=4) (by omega),bl7 (p:=12) (by omega),dO1 (p:=8) (by omega),dO1 (p:=16) (by omega),hz,at5.2 k2⟩,?_,by show (al9 (b.drop 20)).1.length≤_; omega⟩
 show [2,aa1 (64 * (bt b 1 / 64)),aa1 (bt b 2),aa1 (bt b 3)]++(aa2 b (4:Nat) 4++(be 4 (num (aa2 b (8:Nat) 4))++(aa2 b (12:Nat) 4++(be 4 (num (aa2 b (16:Nat) 4))++ab5 (al9 (b.drop 20)).1))))=b
 rw [k3,ca2 (by omega),ca2 (by omega),bx6 b 16,bx6 b 12,bx6 b 8,bx6 b 4,show 64 * (bt b 1 / 64)=bt b 1 by omega]
 have:=ex7 (b:=b) (by omega)
 rw [h0] at this
 exact this
theorem eP1 {b:Bs} (hb:1≤b.length) (h0:bt b 0=4) (h:(aP0 b).2.2=0):aP0 b=(cK3 b,0,0)∧AkR (cK3 b)∧aR6 (cK3 b)=b∧(cK3 b).subs.length≤b.length:=by
 unfold aP0 at h ⊢
 rw [if_pos h0] at h ⊢
 by_cases h1:b.length < 2
 ·rw [if_pos h1] at h; cases h
 by_cases h2:¬bt b 1=0
 ·rw [if_neg h1,if_pos h2] at h; cases h
 rw [if_neg h1,if_neg h2] at h ⊢
 obtain ⟨k1,k2,k3,k4⟩:=cK6 h
 have h2:=Classical.byContradiction h2
 refine ⟨k1,⟨rfl,dg6 rfl,at5.2 k2⟩,?_,by show (al9 (b.drop 2)).1.length≤_; omega⟩
 show [4,0]++ab5 (al9 (b.drop 2)).1=b
 rw [k3]
 match b,h1,h0,h2 with
 | w::x::r,_,h0,h2=>
  have e0:w=4:=bG7 (a:=w) (b:=4) h0
  have e1:x=0:=bG7 (a:=x) (b:=0) h2
  rw [e0,e1]; rfl
 | [],h1,_,_=>simp at h1
 | [_],h1,_,_=>simp at h1
theorem ReR.is {m:Msg} (h:ReR m):m=aa0.mk 5 0 0 [] 0 0 [] 0 0 [] 0 [] 0 0 0 m.flags 0 0 0 [] [] m.list 0 [] m.subs:=by
 have hk:=h.kind
 have:=dg5 h.bare (by unfold ah2; rw [if_neg (by omega),if_neg (by omega),if_neg (by omega),if_neg (by omega),if_pos hk])
 rw [hk] at this
 exact this
theorem dF6 {b:Bs}:∀ (l:List aY0) (p:Nat) (r:Bs),(∀ d∈l,bH4 d=true)→b.drop p=bx5 l++r→aE9 b l.length p=l∧b.drop (p+8 * l.length)=r
 | [],p,r,_,h=>⟨rfl,h⟩
 | d::l,p,r,hl,h=>by
  obtain ⟨h1,h2⟩:=cK2 (hl d (List.mem_cons_self ..))
  unfold bx5 at h
  rw [List.append_assoc,List.append_assoc] at h
  obtain ⟨d1,c1⟩:=av0 h h1
  obtain ⟨d2,c2⟩:=av0 d1 (ab6 4 _)
  obtain ⟨k1,k2⟩:=dF6 l (p+4+4) r (fun x hx=>hl x (List.mem_cons_of_mem _ hx)) d2
  have c1:aa2 b p 4=d.addr:=c1
  have c2:aa2 b ((p:Int)+4) 4=be 4 d.seq:=c2
  refine ⟨?_,by rw [← k2]; congr 1; simp; omega⟩
  rw [List.length_cons,aE9,c1,c2,bE9 h2,k1]
theorem eY3 {m:Msg} (h:ReR m):bH6 (aD4 m)=(m,0,0)∧bt (aD4 m) 0=3:=by
 have hf:=h.flags
 have hl:=h.len
 have hae:=at5.1 h.subs
 have e1:bt (aD4 m) 1=128 * m.flags:=cK5 (by omega)
 have e2:bt (aD4 m) 2=0:=rfl
 have e3:bt (aD4 m) 3=m.list.length:=cK5 (by omega)
 obtain ⟨k1,k2⟩:=dF6 (b:=aD4 m) m.list 4 (ab5 m.subs) (List.all_eq_true.1 h.list) rfl
 have hdl:∀ l:List aY0,(∀ d∈l,bH4 d=true)→(bx5 l).length=8 * l.length:=fun l=>by
  induction l with
  | nil=>intro _; rfl
  | cons d l ih=>
   intro hh
   have:=(cK2 (hh d (List.mem_cons_self ..))).1
   unfold bx5
   rw [List.length_append,List.length_append,ih (fun x hx=>hh x (List.mem_cons_of_mem _ hx)),this,ab6,List.length_cons]
   omega
 have hL:(aD4 m).length=4+8 * m.list.length+(ab5 m.subs).length:=by
  unfold aD4
  rw [List.length_append,List.length_append,hdl _ (List.all_eq_true.1 h.list)]
  simp only [List.length_cons,List.length_nil]; omega
 refine ⟨?_,rfl⟩
 unfold bH6
 rw [if_neg (by omega),e1,e2,if_neg (by omega),e3,if_neg (by omega),Int.toNat_natCast,if_neg (by omega)]
 unfold aw1
 rw [k2,aM1 hae,if_neg (show ¬(0:Int)≠0 by decide)]
 unfold cK4
 rw [e1,e3,Int.toNat_natCast,k1,k2,aM1 hae,show 128 * m.flags / 128=m.flags by omega]
 rw [← h.is]
theorem dS9 (b:Bs):∀ (k p:Nat),(aE9 b k p).length=k
 | 0,_=>rfl
 | k+1,p=>by rw [aE9,List.length_cons,dS9 b k]
theorem dn7 {b:Bs}:∀ (k p:Nat),p+8 * k≤b.length→(∀ d∈aE9 b k p,bH4 d=true)∧bx5 (aE9 b k p)++b.drop (p+8 * k)=b.drop p
 | 0,p,_=>⟨(fun d hd=>by cases hd),rfl⟩
 | k+1,p,h=>by
  obtain ⟨h1,h2⟩:=dn7 (b:=b) k (p+8) (by omega)
  have e:((p:Int)+4)=((p+4:Nat):Int):=by omega
  refine ⟨fun d hd=>?_,?_⟩
  ·rw [aE9] at hd
   rcases List.mem_cons.1 hd with rfl | hd
   ·unfold bH4
    rw [Bool.and_eq_true,decide_eq_true_eq,bM4,e]
    exact ⟨bl7 (by omega),dO1 (by omega)⟩
   ·exact h1 d hd
  ·rw [aE9,bx5,e,ca2 (by omega),List.append_assoc,List.append_assoc,show p+8 * (k+1)=p+8+8 * k by omega,h2]
   show aa2 b p 4++(aa2 b ((p+4:Nat):Int) 4++b.drop (p+4+4))=_
   rw [bx6,bx6]
theorem eP2 {b:Bs} (h0:bt b 0=3) (h:(bH6 b).2.2=0):bH6 b=(cK4 b,0,0)∧ReR (cK4 b)∧aD4 (cK4 b)=b∧(cK4 b).subs.length≤b.length:=by
 unfold bH6 at h ⊢
 by_cases h1:b.length < 4
 ·rw [if_pos h1] at h; cases h
 by_cases h2:¬(bt b 1 % 128=0∧bt b 2=0)
 ·rw [if_neg h1,if_pos h2] at h; cases h
 by_cases h3:bt b 3=0
 ·rw [if_neg h1,if_neg h2,if_pos h3] at h; cases h
 by_cases h4:b.length < 4+8 * (bt b 3).toNat
 ·rw [if_neg h1,if_neg h2,if_neg h3,if_pos h4] at h; cases h
 rw [if_neg h1,if_neg h2,if_neg h3,if_neg h4] at h ⊢
 obtain ⟨k1,k2,k3,k4⟩:=cK6 h
 have h2:=Classical.byContradiction h2
 have hx:=ae6 b 1
 have hz:=ae6 b 3
 obtain ⟨g1,g2⟩:=dn7 (b:=b) (bt b 3).toNat 4 (by omega)
 have hlen:=dS9 b (bt b 3).toNat 4
 refine ⟨k1,⟨rfl,dg6 rfl,by show bt b 1 / 128=0∨bt b 1 / 128=1; omega,by show 1≤(aE9 b (bt b 3).toNat 4).length∧(aE9 b (bt b 3).toNat 4).length≤255; omega,List.all_eq_true.2 g1,at5.2 k2⟩,?_,by show (al9 (b.drop (4+8 * (bt b 3).toNat))).1.length≤_; omega⟩
 show [3,aa1 (128 * (bt b 1 / 128)),0,aa1 ((aE9 b (bt b 3).toNat 4).length:Int)]++(bx5 (aE9 b (bt b 3).toNat 4)++ab5 (al9 (b.drop (4+8 * (bt b 3).toNat))).1)=b
 rw [k3,g2,hlen,show 128 * (bt b 1 / 128)=bt b 1 by omega,show (((bt b 3).toNat:Nat):Int)=bt b 3 by omega]
 have:=ex7 (b:=b) (by omega)
 rw [h0,h2.2] at this
 exact this
end Go.VP
namespace Go.VP
open Go Go.VI
theorem dT0 {m:Msg} (h:avB m=true):RqR m∨RpR m∨AkR m∨ReR m:=by
 unfold avB at h
 simp only [Bool.or_eq_true,bd5,bd6,ca1] at h
 rcases h with h | (h | h) | h
 ·exact .inl h
 ·exact .inr (.inl h)
 ·exact .inr (.inr (.inl h))
 ·exact .inr (.inr (.inr h))
theorem dF7 {m:Msg} (h:RqR m∨RpR m∨AkR m∨ReR m):avB m=true:=by
 unfold avB
 simp only [Bool.or_eq_true,bd5,bd6,ca1]
 rcases h with h | h | h | h
 ·exact .inl h
 ·exact .inr (.inl (.inl h))
 ·exact .inr (.inl (.inr h))
 ·exact .inr (.inr h)
theorem eG7 {m:Msg} (h:RqR m):am3 m=ao0 m:=by unfold am3; rw [if_pos (bd5.2 h)]
theorem eG8 {m:Msg} (h:RpR m):am3 m=ao1 m:=by
 have:=h.kind
 unfold am3; rw [if_neg (fun q=>by have:=(bd5.1 q).kind; omega),if_pos (bd6.2 (.inl h)),if_neg (by omega)]
theorem eG9 {m:Msg} (h:AkR m):am3 m=aR6 m:=by
 have:=h.kind
 unfold am3; rw [if_neg (fun q=>by have:=(bd5.1 q).kind; omega),if_pos (bd6.2 (.inr h)),if_pos (by omega)]
theorem eH0 {m:Msg} (h:ReR m):am3 m=aD4 m:=by
 have:=h.kind
 unfold am3; rw [if_neg (fun q=>by have:=(bd5.1 q).kind; omega),if_neg (fun q=>by rcases bd6.1 q with q | q <;> (have:=q.kind; omega)),if_pos (ca1.2 h)]
theorem fc8 {m:Msg} (h:avB m=true):aw2 (am3 m)=(m,0,0)∧1≤bt (am3 m) 0∧bt (am3 m) 0≤4∧(am3 m).length≠0:=by
 have ne:∀ b:Bs,1≤bt b 0→b.length≠0:=fun b hb q=>by
  have:b=[]:=List.eq_nil_of_length_eq_zero q
  subst this
  have:bt [] 0=0:=rfl
  omega
 unfold aw2
 rcases dT0 h with h | h | h | h
 ·obtain ⟨k1,k2⟩:=eY0 h
  rw [eG7 h,k2,if_pos rfl]
  exact ⟨k1,by omega,by omega,ne _ (by omega)⟩
 ·obtain ⟨k1,k2⟩:=eY1 h
  rw [eG8 h,k2,if_neg (by decide),if_neg (by decide)]
  exact ⟨k1,by omega,by omega,ne _ (by omega)⟩
 ·obtain ⟨k1,k2⟩:=eY2 h
  rw [eG9 h,k2,if_neg (by decide),if_neg (by decide)]
  exact ⟨k1,by omega,by omega,ne _ (by omega)⟩
 ·obtain ⟨k1,k2⟩:=eY3 h
  rw [eH0 h,k2,if_neg (by decide),if_pos rfl]
  exact ⟨k1,by omega,by omega,ne _ (by omega)⟩
theorem dT1 {m:Msg} (h:avB m=true):ay9 [m]=if 65535 < (am3 m).length then ([],0,10) else (am3 m,0,0):=by
 unfold ay9
 rw [dN8 (fun x hx=>by rw [List.mem_singleton.1 hx]; exact h)]
theorem eP3 {l:List Msg} (h:(ay9 l).2.2=0):∃ m,l=[m]∧avB m=true∧ay9 l=(am3 m,0,0)∧(am3 m).length≤65535:=by
 have h0:=h
 unfold ay9 at h0
 split at h0
 ·cases h0
 ·rename_i hb
  have hok:=aZ1 hb
  split at h0
  ·cases h0
  ·rename_i m
   have hm:=hok m (by simp)
   rw [dT1 hm] at h ⊢
   by_cases q:65535 < (am3 m).length
   ·rw [if_pos q] at h; cases h
   ·rw [if_neg q]; exact ⟨m,rfl,hm,rfl,by omega⟩
  ·cases h0
theorem eY4 {l:List Msg} (h:(ay9 l).2.2=0):aA5 (ay9 l).1=(l,0,0)∧(ay9 l).1.length≤65535:=by
 obtain ⟨m,rfl,hm,he,hl⟩:=eP3 h
 rw [he]
 obtain ⟨k1,k2,k3,k4⟩:=fc8 hm
 refine ⟨?_,hl⟩
 dsimp only
 unfold aA5
 rw [if_neg (by omega),if_neg k4,if_neg (by omega),k1,if_neg (show ¬(0:Int)≠0 by decide)]
theorem bH7 {b:Bs} {p:Nat} {m:Msg} (hp:p≤b.length):0≤(aw1 b p m).2.1∧(aw1 b p m).2.1≤b.length:=by
 have:=bx4 (b.drop p)
 rw [List.length_drop] at this
 unfold aw1
 split
 ·dsimp only; omega
 ·dsimp only; omega
theorem em2 {b:Bs} (h:1≤b.length):0≤(aw2 b).2.1∧(aw2 b).2.1≤b.length:=by
 unfold aw2
 split
 ·unfold bH5
  split
  ·dsimp only; omega
  split
  ·dsimp only; omega
  ·exact bH7 (by omega)
 split
 ·unfold bH6
  split
  ·dsimp only; omega
  split
  ·dsimp only; omega
  split
  ·dsimp only; omega
  split
  ·dsimp only; omega
  ·exact bH7 (by omega)
 ·unfold aP0
  split
  ·split
   ·dsimp only; omega
   split
   ·dsimp only; omega
   ·exact bH7 (by omega)
  ·split
   ·dsimp only; omega
   split
   ·dsimp only; omega
   ·exact bH7 (by omega)
theorem em3 {b:Bs} (h:(aA5 b).2.2≠0):(aA5 b).1=[]∧0≤(aA5 b).2.1∧(aA5 b).2.1≤b.length:=by
 unfold aA5 at h ⊢
 split
 ·exact ⟨rfl,by dsimp only; omega,by dsimp only; omega⟩
 ·rename_i h1
  rw [if_neg h1] at h
  split
  ·exact ⟨rfl,by dsimp only; omega,by dsimp only; omega⟩
  ·rename_i h2
   rw [if_neg h2] at h
   split
   ·exact ⟨rfl,by dsimp only; omega,by dsimp only; omega⟩
   ·rename_i h3
    rw [if_neg h3] at h
    split
    ·exact ⟨rfl,em2 (by omega)⟩
    ·rename_i h4
     rw [if_neg h4] at h; exact absurd rfl h
theorem eP4 {b:Bs} (h:(aA5 b).2.2=0):∃ m,aA5 b=([m],0,0)∧avB m=true∧am3 m=b∧ay9 [m]=(b,0,0)∧b.length≤65535∧m.subs.length≤b.length:=by
 unfold aA5 at h ⊢
 by_cases h1:65535 < b.length
 ·rw [if_pos h1] at h; cases h
 by_cases h2:b.length=0
 ·rw [if_neg h1,if_pos h2] at h; cases h
 by_cases h3:bt b 0 < 1∨4 < bt b 0
 ·rw [if_neg h1,if_neg h2,if_pos h3] at h; cases h
 by_cases h4:(aw2 b).2.2≠0
 ·rw [if_neg h1,if_neg h2,if_neg h3,if_pos h4] at h; exact absurd h h4
 rw [if_neg h1,if_neg h2,if_neg h3,if_neg h4]
 have h4:=Classical.byContradiction h4
 have fin:∀ m,aw2 b=(m,0,0)→avB m=true→am3 m=b→m.subs.length≤b.length→∃ m',([(aw2 b).1],(0:Int),(0:Int))=([m'],0,0)∧avB m'=true∧am3 m'=b∧ay9 [m']=(b,0,0)∧b.length≤65535∧m'.subs.length≤b.length:=fun m e hm hp hs=>by
  refine ⟨m,by rw [e],hm,hp,?_,by omega,hs⟩
  rw [dT1 hm,hp,if_neg h1]
 by_cases c1:bt b 0=1
 ·have e:aw2 b=bH5 b:=by unfold aw2; rw [if_pos c1]
  rw [e] at h4 fin ⊢
  obtain ⟨k1,k2,k3,k4⟩:=eO9 c1 h4
  exact fin _ k1 (dF7 (.inl k2)) (by rw [eG7 k2,k3]) k4
 by_cases c3:bt b 0=3
 ·have e:aw2 b=bH6 b:=by unfold aw2; rw [if_neg c1,if_pos c3]
  rw [e] at h4 fin ⊢
  obtain ⟨k1,k2,k3,k4⟩:=eP2 c3 h4
  exact fin _ k1 (dF7 (.inr (.inr (.inr k2)))) (by rw [eH0 k2,k3]) k4
 have e:aw2 b=aP0 b:=by unfold aw2; rw [if_neg c1,if_neg c3]
 rw [e] at h4 fin ⊢
 by_cases c4:bt b 0=4
 ·obtain ⟨k1,k2,k3,k4⟩:=eP1 (by omega) c4 h4
  exact fin _ k1 (dF7 (.inr (.inr (.inl k2)))) (by rw [eG9 k2,k3]) k4
 ·obtain ⟨k1,k2,k3,k4⟩:=eP0 c4 (by have:=ae6 b 0; omega) h4
  exact fin _ k1 (dF7 (.inr (.inl k2))) (by rw [eG8 k2,k3]) k4
theorem cx3.fewS {l:List Sub} (h:cx3 l) (hl:l.length≤1000000):aB5 l:=⟨by omega,fun y hy=>by have:=(h y hy).2.2; omega⟩
theorem eP5 {m:Msg} (h:avB m=true) (hs:m.subs.length≤1000000):aO9 m:=by
 have z:IntKind.has .i64 0:=af2.2 (by omega)
 have w8:∀ {n:Int},W8 n→IntKind.has .i64 n:=fun h=>af2.2 (by have:=h.1; have:=h.2; omega)
 rcases dT0 h with h | h | h | h
 ·have hl:m.list=[]:=congrArg aa0.list h.is
  have hi:m.interval=0:=congrArg aa0.interval h.is
  exact ⟨h.nonce.has,h.seq.has,h.seq2.has,w8 h.hops,by rw [hi]; exact z,by rw [hl]; simp,by rw [hl]; intro d hd; (cases hd),(at5.1 h.subs).fewS hs,hs⟩
 ·have hl:m.list=[]:=congrArg aa0.list h.is
  have h1:m.nonce=0:=congrArg aa0.nonce h.is
  have h2:m.seq2=0:=congrArg aa0.seq2 h.is
  exact ⟨by rw [h1]; exact z,h.seq.has,by rw [h2]; exact z,w8 h.hops,h.life.has,by rw [hl]; simp,by rw [hl]; intro d hd; (cases hd),(at5.1 h.subs).fewS hs,hs⟩
 ·have hl:m.list=[]:=congrArg aa0.list h.is
  have h1:m.nonce=0:=congrArg aa0.nonce h.is
  have h2:m.seq2=0:=congrArg aa0.seq2 h.is
  have h3:m.seq=0:=congrArg aa0.seq h.is
  have h4:m.hops=0:=congrArg aa0.hops h.is
  have h5:m.interval=0:=congrArg aa0.interval h.is
  exact ⟨by rw [h1]; exact z,by rw [h3]; exact z,by rw [h2]; exact z,by rw [h4]; exact z,by rw [h5]; exact z,by rw [hl]; simp,by rw [hl]; intro d hd; (cases hd),(at5.1 h.subs).fewS hs,hs⟩
 ·have h1:m.nonce=0:=congrArg aa0.nonce h.is
  have h2:m.seq2=0:=congrArg aa0.seq2 h.is
  have h3:m.seq=0:=congrArg aa0.seq h.is
  have h4:m.hops=0:=congrArg aa0.hops h.is
  have h5:m.interval=0:=congrArg aa0.interval h.is
  exact ⟨by rw [h1]; exact z,by rw [h3]; exact z,by rw [h2]; exact z,by rw [h4]; exact z,by rw [h5]; exact z,by have:=h.len; omega,fun d hd=>(cK2 (List.all_eq_true.1 h.list d hd)).2.has,(at5.1 h.subs).fewS hs,hs⟩
end Go.VP
namespace Go.VP
open Go Go.VI
structure dZ9 (m:Msg):Prop where
 rip:RM m
 ng:dF0 m
 av:aO9 m
 lean:aE8 m
theorem fe2 {m:Msg} (g:aB4 m) (h:Few m):dZ9 m:=by
 have hl:=h.lite
 have g0:=g
 obtain ⟨g1,g2,g3,g4,g5,g6,g7,g8,g9,g10,g11,g12,g13,g14,g15,g16,g17,g18,g19,g20,g21,g22,g23,_⟩:=g
 have h1:=hl.list
 have h2:=hl.subs
 exact ⟨fc3 g0 h,⟨g9,g8,g2,by omega,by omega⟩,⟨g18,g13,g14,g17,g15,by omega,fun d hd=>(g22.2 d hd).2.1,hl.fewS,by omega⟩,fe1 g0 hl⟩
open Classical in
noncomputable def bx7 (p:Int) (m:Msg):Bool:=if p=1 then aL4 m else if p=2 then ngB m else if p=3 then avB m else if p=4 then aU9 m else false
end Go.VP
namespace Go.VP
open Go Go.VI
theorem dT2 (s:Bs):∀ (p:Int),(∀ q,spl p s=.error q→p≤q∧q≤p+s.length)∧(∀ l,spl p s=.ok l→∀ t∈l,p≤t.at_∧t.at_≤p+s.length):=by
 induction h:s.length using Nat.strongRecOn generalizing s with
 | ind n ih=>
  intro p
  subst h
  match s with
  | []=>
   rw [aD3]
   exact ⟨(fun q h=>by cases h),(fun l h=>by cases h; intro t ht; cases ht)⟩
  | t::r=>
   by_cases ht:t=0
   ·subst ht
    rw [bl1]
    obtain ⟨i1,i2⟩:=ih r.length (by simp) r rfl (p+1)
    cases hr:spl (p+1) r with
    | error q=>
     refine ⟨fun q' h=>?_,(fun l h=>by cases h)⟩
     cases h
     have:=i1 q hr
     simp only [List.length_cons]; omega
    | ok l=>
     refine ⟨(fun q' h=>by cases h),fun l' h x hx=>?_⟩
     cases h
     rcases List.mem_cons.1 hx with rfl | hx
     ·dsimp only; omega
     ·have:=i2 l hr x hx
      simp only [List.length_cons]; omega
   ·match r with
    | []=>
     rw [bZ6 ht]
     exact ⟨(fun q h=>by cases h; simp; omega),(fun l h=>by cases h)⟩
    | n::d=>
     by_cases hn:d.length < n.toNat
     ·rw [bZ7 ht hn]
      exact ⟨(fun q h=>by cases h; simp only [List.length_cons]; omega),(fun l h=>by cases h)⟩
     ·rw [bc5 ht (by omega)]
      have hdl:(d.drop n.toNat).length=d.length - n.toNat:=List.length_drop
      obtain ⟨i1,i2⟩:=ih (d.drop n.toNat).length (by rw [hdl]; simp; omega) (d.drop n.toNat) rfl (p+2+n.toNat)
      rw [hdl] at i1 i2
      cases hr:spl (p+2+n.toNat) (d.drop n.toNat) with
      | error q=>
       refine ⟨fun q' h=>?_,(fun l h=>by cases h)⟩
       cases h
       have:=i1 q hr
       simp only [List.length_cons]; omega
      | ok l=>
       refine ⟨(fun q' h=>by cases h),fun l' h x hx=>?_⟩
       cases h
       rcases List.mem_cons.1 hx with rfl | hx
       ·simp only [List.length_cons]; omega
       ·have:=i2 l hr x hx
        simp only [List.length_cons]; omega
theorem dn8:∀ (l:List Tlv) (c:Ctx) (acc:List Msg),(ag6 c l acc).2.2.2≠0→∃ t∈l,(ag6 c l acc).2.2.1=t.at_
 | [],c,acc,h=>absurd rfl h
 | t::r,c,acc,h=>by
  rw [ag6] at h ⊢
  by_cases he:(aq6 c t.type_ t.data).2.2≠0
  ·rw [if_pos he]; exact ⟨t,List.mem_cons_self ..,rfl⟩
  ·rw [if_neg he] at h ⊢
   obtain ⟨x,hx,e⟩:=dn8 r _ _ h
   exact ⟨x,List.mem_cons_of_mem _ hx,e⟩
theorem ei2 {b:Bs} (h:(au8 b).2.2≠0):(au8 b).1=[]∧0≤(au8 b).2.1∧(au8 b).2.1≤b.length:=by
 refine ⟨(ck8 b).elim (fun q=>q.2) (fun ⟨l,_,_,_,_,q⟩=>absurd (by rw [q]) h),?_⟩
 unfold au8 at h ⊢
 by_cases h0:(ai3 b).2.2≠0
 ·rw [if_pos h0]; exact (eC7 h0).2
 rw [if_neg h0] at h ⊢
 obtain ⟨l1,l2,_,_,l5,_,l7⟩:=cJ7 (Classical.byContradiction h0)
 have hr:=bo5 b
 have hbl:((bx0 b).length:Int)=b.length - (4+(ai3 b).1.length):=by unfold bx0; rw [List.length_drop]; omega
 have p1:=dT2 (ai3 b).1 4
 have p2:=dT2 (bx0 b) (4+((ai3 b).1.length:Int))
 cases h1:spl 4 (ai3 b).1 with
 | error q=>
  have:=p1.1 q h1
  dsimp only; omega
 | ok l=>
  rw [h1] at h
  cases h2:spl (4+((ai3 b).1.length:Int)) (bx0 b) with
  | error q=>
   have:=p2.1 q h2
   dsimp only; omega
  | ok k=>
   rw [h2] at h
   dsimp only at h ⊢
   obtain ⟨t,ht,e⟩:=dn8 l c0 [] h
   have:=p1.2 l h1 t ht
   omega
noncomputable def am8 (p:Int) (b:Bs):List Msg × Int × Int:=if p=1 then ak6 b else if p=2 then as4 b else if p=3 then aA5 b else if p=4 then au8 b else ([],0,1)
noncomputable def aL5 (p:Int) (l:List Msg):Bs × Int × Int:=if p=1 then aY8 l else if p=2 then aO8 l else if p=3 then ay9 l else if p=4 then dM9 l else ([],0,1)
def aV0 (p:Int) (m:Msg):Prop:=(p=1→RM m)∧(p=2→dF0 m)∧(p=3→aO9 m)∧(p=4→aE8 m)
theorem dZ9.p {m:Msg} (g:dZ9 m) (p:Int):aV0 p m:=⟨fun _=>g.rip,fun _=>g.ng,fun _=>g.av,fun _=>g.lean⟩
theorem eP6 {p:Int} {m:Msg} (g:aV0 p m):bi3 (p,m,())=some ((bx7 p m,()),()):=by
 rw [dq0]
 unfold bx7
 refine aa9 (fun h=>by rw [if_pos h,cx2 (g.1 h)]; rfl) (fun h1=>?_)
 rw [if_neg h1]
 refine aa9 (fun h=>by rw [if_pos h,dF1 (g.2.1 h)]; rfl) (fun h2=>?_)
 rw [if_neg h2]
 refine aa9 (fun h=>by rw [if_pos h,dF5 (g.2.2.1 h)]; rfl) (fun h3=>?_)
 rw [if_neg h3]
 refine aa9 (fun h=>by rw [if_pos h,dc9 (g.2.2.2 h)]; rfl) (fun h4=>?_)
 rw [if_neg h4]
theorem eH1 {p:Int} {b:Bs} (hb:b.length≤100000):bj3 (p,b,())=some (ag4 (am8 p b),()):=by
 rw [dq6]
 unfold am8
 refine aa9 (fun h=>by rw [if_pos h,eN4 hb]; rfl) (fun h1=>?_)
 rw [if_neg h1]
 refine aa9 (fun h=>by rw [if_pos h,ew9 (by omega)]; rfl) (fun h2=>?_)
 rw [if_neg h2]
 refine aa9 (fun h=>by rw [if_pos h,ex6 (by omega)]; rfl) (fun h3=>?_)
 rw [if_neg h3]
 refine aa9 (fun h=>by rw [if_pos h,eD1]; rfl) (fun h4=>?_)
 rw [if_neg h4]
theorem eY5 {p:Int} {l:List Msg} (g:∀ m∈l,aV0 p m) (hl:l.length≤100000) (h1:p=1→l.length≤1000):bb3 (p,l,())=some (ag4 (aL5 p l),()):=by
 rw [dh1]
 unfold aL5
 refine aa9 (fun h=>by rw [if_pos h,fc2 (fun m hm=>(g m hm).1 h) (h1 h)]; rfl) (fun h1=>?_)
 rw [if_neg h1]
 refine aa9 (fun h=>by rw [if_pos h,eN7 (fun m hm=>(g m hm).2.1 h) (by omega)]; rfl) (fun h2=>?_)
 rw [if_neg h2]
 refine aa9 (fun h=>by rw [if_pos h,eO8 (fun m hm=>(g m hm).2.2.1 h) (by omega)]; rfl) (fun h3=>?_)
 rw [if_neg h3]
 refine aa9 (fun h=>by rw [if_pos h,eW1 hl (fun m hm=>(g m hm).2.2.2 h)]; rfl) (fun h4=>?_)
 rw [if_neg h4]
theorem eH2 {l:List Msg} (h:(aY8 l).2.2=0):ak6 (aY8 l).1=(l,0,0)∧(aY8 l).1.length≤504:=by
 unfold aY8 at h ⊢
 cases hb:cl1 l 0 with
 | some i=>rw [hb] at h; simp at h
 | none=>
  rw [hb] at h
  have hok:=dd5 hb
  cases l with
  | nil=>simp at h
  | cons f r=>
   dsimp only at h ⊢
   have hmo:((0:Nat):Int)≤aO5 f:=by unfold aO5; split <;> omega
   obtain ⟨h1,h2⟩:=eh1 (f::r) 0 _ hmo h
   rw [dt3 (f::r) 0 _ (by simpa using h1) h2]
   have ht:∀ m∈r,bl6 f m:=fun m hm=>by
    obtain ⟨j,hj,e⟩:=List.mem_iff_getElem.1 hm
    have:=h2 (j+1) (by simpa using hj) (by omega)
    rw [List.getElem_cons_succ,e] at this
    exact this
   have hmo2:(((f::r).length:Nat):Int)≤aO5 f:=by simpa using h1
   refine ⟨ew7 hok ht (fun c=>?_) hmo2,?_⟩
   ·cases r with
    | nil=>rfl
    | cons x _=>exact absurd c (ht x (by simp)).2.2.2.2
   ·have hfl:=dt4 hok
    have hhl:=cl2 (hok f (by simp))
    dsimp only
    rw [List.length_append,hfl]
    unfold aO5 at hmo2
    by_cases ha:f.auth=[]
    ·rw [if_pos ha] at hmo2 hhl; omega
    ·rw [if_neg ha] at hmo2 hhl; omega
theorem fc9 {p:Int} {l:List Msg} (h:(aL5 p l).2.2=0):am8 p (aL5 p l).1=(l,0,0)∧(aL5 p l).1.length≤65535:=by
 unfold aL5 at h ⊢
 unfold am8
 by_cases h1:p=1
 ·simp only [if_pos h1] at h ⊢
  have:=eH2 h
  exact ⟨this.1,by omega⟩
 simp only [if_neg h1] at h ⊢
 by_cases h2:p=2
 ·simp only [if_pos h2] at h ⊢; exact eX4 h
 simp only [if_neg h2] at h ⊢
 by_cases h3:p=3
 ·simp only [if_pos h3] at h ⊢; exact eY4 h
 simp only [if_neg h3] at h ⊢
 by_cases h4:p=4
 ·simp only [if_pos h4] at h ⊢
  obtain ⟨hB,s,d,k1,k2,k3,k4,k5⟩:=eW0 h
  have hp:=eE0 k4 k2
  rw [k3] at k5 ⊢
  exact ⟨hp,by dsimp only at k5 ⊢; omega⟩
 ·simp only [if_neg h4] at h; cases h
theorem ex8 {p:Int} {b:Bs} (h:(am8 p b).2.2≠0):(am8 p b).1=[]∧0≤(am8 p b).2.1∧(am8 p b).2.1≤b.length:=by
 unfold am8 at h ⊢
 by_cases h1:p=1
 ·simp only [if_pos h1] at h ⊢; exact ew4 h
 simp only [if_neg h1] at h ⊢
 by_cases h2:p=2
 ·simp only [if_pos h2] at h ⊢; exact em0 h
 simp only [if_neg h2] at h ⊢
 by_cases h3:p=3
 ·simp only [if_pos h3] at h ⊢; exact em3 h
 simp only [if_neg h3] at h ⊢
 by_cases h4:p=4
 ·simp only [if_pos h4] at h ⊢; exact ei2 h
 ·simp only [if_neg h4] at h ⊢
  exact ⟨trivial,by simp,by simp⟩
theorem ei3 {m:Msg} (h:NgR m):dF0 m∧bY2 m:=by
 have hl:m.list=[]:=congrArg aa0.list h.is
 have hs:m.subs=[]:=congrArg aa0.subs h.is
 have:=h.tag
 have:=h.plen
 have:=h.cmd
 exact ⟨⟨af2.2 (by omega),af2.2 (by omega),af2.2 (by omega),by rw [hl]; simp,by rw [hs]; simp⟩,by rw [hl]; simp,by rw [hs]; simp⟩
theorem eH3 {b:Bs}:∀ m∈(ak6 b).1,okR m→RM m:=fun m hm ho=>by
 have hs:=ew2 (b:=b) (P:=fun m=>m.list.length≤1000000000∧m.subs.length≤1000000000) (fun c v s e=>by simp [aj4]) m hm
 obtain ⟨_,_,_,_,_,_,_,h⟩:=ho
 exact ⟨af2.2 (by omega),af2.2 (by omega),hs.1,hs.2⟩
theorem eP7 {p:Int} {b:Bs} (hb:b.length≤100000) (h:(am8 p b).2.2=0):(am8 p b).2.1=0∧(∀ m∈(am8 p b).1,bx7 p m=true∧aV0 p m∧bY2 m)∧(am8 p b).1.length≤65535∧(p=1→(am8 p b).1.length≤1000):=by
 unfold am8 at h ⊢
 unfold bx7 aV0
 by_cases h1:p=1
 ·simp only [if_pos h1] at h ⊢
  obtain ⟨r,r1,r2,r3,r4,r5⟩:=ew5 h
  have hrm:=eH3 (b:=b)
  rw [r1] at hrm ⊢
  exact ⟨rfl,fun m hm=>⟨aG3.2 (r4 m hm),⟨fun _=>hrm m hm (r4 m hm),fun q=>by omega,fun q=>by omega,fun q=>by omega⟩,(hrm m hm (r4 m hm)).list,(hrm m hm (r4 m hm)).subs⟩,by dsimp only; omega,fun _=>by dsimp only; omega⟩
 simp only [if_neg h1] at h ⊢
 by_cases h2:p=2
 ·simp only [if_pos h2] at h ⊢
  obtain ⟨k0,k1,k2,k3,_,_⟩:=eN9 h
  exact ⟨k0,fun m hm=>⟨bE6.2 (k1 m hm),⟨fun q=>by omega,fun _=>(ei3 (k1 m hm)).1,fun q=>by omega,fun q=>by omega⟩,(ei3 (k1 m hm)).2⟩,by omega,fun q=>absurd q h1⟩
 simp only [if_neg h2] at h ⊢
 by_cases h3:p=3
 ·simp only [if_pos h3] at h ⊢
  obtain ⟨m,k1,k2,k3,k4,k5,k6⟩:=eP4 h
  rw [k1]
  have hg:=eP5 k2 (by omega)
  exact ⟨rfl,fun x hx=>by rw [List.mem_singleton.1 hx]; exact ⟨k2,⟨fun q=>by omega,fun q=>by omega,fun _=>hg,fun q=>by omega⟩,by have:=hg.list; omega,by have:=hg.subs1; omega⟩,by simp,fun q=>absurd q h1⟩
 simp only [if_neg h3] at h ⊢
 by_cases h4:p=4
 ·simp only [if_pos h4] at h ⊢
  obtain ⟨k1,k2⟩:=eg1 b
  refine ⟨?_,fun m hm=>⟨bM2.2 (k1 m hm).1,⟨fun q=>by omega,fun q=>by omega,fun q=>by omega,fun _=>(k1 m hm).2⟩,(k1 m hm).2.small⟩,k2,fun q=>absurd q h1⟩
  rcases ck8 b with ⟨q,_⟩ | ⟨l,_,_,_,_,q⟩
  ·exact absurd h q
  ·rw [q]
 ·simp only [if_neg h4] at h; cases h
end Go.VP
namespace Go.VP
open Go Go.VI
noncomputable def az0 (p most:Int) (l:List Msg):Bool:=decide ((aL5 p l).2.2=0∧((aL5 p l).1.length:Int)≤most)
theorem eH4 {p most:Int} {l:List Msg} (g:∀ m∈l,aV0 p m) (hl:l.length≤1000):aE0 (p,l,most,())=some (((aL5 p l).1,az0 p most l,()),()):=by
 rw [da6,eY5 g (by omega) (fun _=>hl),Option.bind_some]
 unfold az0
 refine aa9 (fun q=>?_) (fun q=>?_)
 ·by_cases h:((aL5 p l).1.length:Int)≤most
  ·rw [decide_eq_true (show (aL5 p l).2.2=0∧_ from ⟨q,h⟩)]; dsimp only [ag4]; rw [decide_eq_true h]
  ·rw [decide_eq_false (show ¬((aL5 p l).2.2=0∧_) from fun c=>h c.2)]; dsimp only [ag4]; rw [decide_eq_false h]
 ·rw [decide_eq_false (show ¬((aL5 p l).2.2=0∧_) from fun c=>q c.1)]
theorem eP8 {p most:Int} {l:List Msg} (g:∀ m∈l,aV0 p m) (hl:l.length≤1000):bG2 (p,l,most,())=some ((az0 p most l,()),()):=by
 rw [dH6,eH4 g hl]; rfl
noncomputable def cnt (p most:Int) (l:List Msg):Nat→Nat→Nat
 | 0,n=>n
 | k+1,n=>if az0 p most (l.take (n+1))=true then cnt p most l k (n+1) else n
noncomputable def aZ2 (p most:Int) (l:List Msg):Nat:=cnt p most l l.length 0
theorem dg7 {p most:Int} {l:List Msg}:∀ (k n:Nat),n≤cnt p most l k n∧cnt p most l k n≤n+k
 | 0,n=>⟨Nat.le_refl _,Nat.le_refl _⟩
 | k+1,n=>by
  unfold cnt
  split
  ·have:=dg7 (p:=p) (most:=most) (l:=l) k (n+1); omega
  ·omega
theorem ei4 {p most:Int} {l:List Msg}:∀ (k n:Nat),n < cnt p most l k n→az0 p most (l.take (cnt p most l k n))=true
 | 0,n,h=>by unfold cnt at h; omega
 | k+1,n,h=>by
  unfold cnt at h ⊢
  split at h
  ·rename_i hf
   rw [if_pos hf]
   by_cases q:n+1 < cnt p most l k (n+1)
   ·exact ei4 k (n+1) q
   ·have:=dg7 (p:=p) (most:=most) (l:=l) k (n+1)
    rw [show cnt p most l k (n+1)=n+1 by omega]; exact hf
  ·omega
noncomputable def av1 (p most:Int):Nat→List Msg→List (List Msg)
 | 0,_=>[]
 | k+1,l=>if l=[] then [] else l.take (aZ2 p most l)::av1 p most k (l.drop (aZ2 p most l))
noncomputable def eS3 (p most:Int) (l:List Msg):List Bs:=(av1 p most l.length l).map fun c=>(aL5 p c).1
noncomputable def bx8 (p:Int) (l:List Msg) (n:Nat):Bs:=if n=0 then [] else (aL5 p (l.take n)).1
theorem fe3:cm9≤100000:=Nat.le_of_ble_eq_true (by kernel_rfl)
theorem ex9 {n m0:Nat} {p most:Int} {l:List Msg} {acc:List Bs} (hl:l.length≤1000) (ha:acc.length≤1000) (g:∀ m∈l,aV0 p m):∀ (d k i:Nat),i+d=l.length→d < k→
  bi8 n m0 k p l most acc (bx8 p l i) i=ar6 n m0 p most (l.drop (cnt p most l d i)) (acc++[bx8 p l (cnt p most l d i)]):=by
 have fin:∀ (i:Nat),i≤l.length→(if ag7 ((acc.length + [bx8 p l i].length) * cm9)=true then (if 0≤(i:Int)∧(i:Int)≤(l.length:Int) then (ar6 n m0 p most (l.drop (i:Int).toNat) (acc++[bx8 p l i])) else none) else none)=ar6 n m0 p most (l.drop i) (acc++[bx8 p l i]):=fun i hi=>by
  rw [if_pos (ah6 (Nat.le_trans (Nat.mul_le_mul (show acc.length + [bx8 p l i].length≤1001 by simp; omega) fe3) (by decide))),if_pos (by omega),Int.toNat_natCast]
 intro d
 induction d with
 | zero=>
  intro k i h hk
  obtain ⟨k,rfl⟩:∃ j,k=j+1:=⟨k - 1,by omega⟩
  rw [ch9,ifn (by omega),cnt]
  exact fin i (by omega)
 | succ d ih=>
  intro k i h hk
  obtain ⟨k,rfl⟩:∃ j,k=j+1:=⟨k - 1,by omega⟩
  have hg:∀ m∈l.take (i+1),aV0 p m:=fun m hm=>g m (List.mem_of_mem_take hm)
  rw [ch9,ifd (by omega),w64 (x:=(i:Int)+1) (by omega) (by omega),if_pos (by omega),show ((i:Int)+1).toNat=i+1 by omega,eH4 hg (by rw [List.length_take]; omega),Option.bind_some,cnt]
  dsimp only
  cases hf:az0 p most (l.take (i+1)) with
  | false=>
   rw [am5,at2]
   exact fin i (by omega)
  | true=>
   rw [ah3,ift]
   have:=ih k (i+1) (by omega) (by omega)
   rw [show ((i+1:Nat):Int)=(i:Int)+1 by omega,show bx8 p l (i+1)=(aL5 p (l.take (i+1))).1 by unfold bx8; rw [if_neg (by omega)]] at this
   exact this
theorem ei5 {p most:Int} {m:Msg} {r:List Msg} (h:az0 p most [m]=true):1≤aZ2 p most (m::r):=by
 unfold aZ2
 rw [List.length_cons,cnt]
 rw [if_pos (by simpa using h)]
 exact (dg7 _ _).1
theorem ep6 {p most:Int} {l:List Msg}:aZ2 p most l≤l.length:=by
 have:=(dg7 (p:=p) (most:=most) (l:=l) l.length 0).2
 unfold aZ2; omega
theorem ey0 {n:Nat} {p most:Int} (hn:2000≤n):∀ (d k:Nat) (l:List Msg) (acc:List Bs),l.length≤d→d < k→l.length+acc.length≤1000→(∀ m∈l,aV0 p m∧az0 p most [m]=true)→
  ar6 n k p most l acc=some ((acc++(av1 p most d l).map (fun c=>(aL5 p c).1),0,0,()),()):=by
 intro d
 induction d with
 | zero=>
  intro k l acc hd hk hl g
  obtain ⟨k,rfl⟩:∃ j,k=j+1:=⟨k - 1,by omega⟩
  rw [ch8,ifn (by omega)]
  simp [av1]
 | succ d ih=>
  intro k l acc hd hk hl g
  obtain ⟨k,rfl⟩:∃ j,k=j+1:=⟨k - 1,by omega⟩
  rw [ch8]
  cases l with
  | nil=>rw [ifn (by simp)]; simp [av1]
  | cons m r=>
   have h1:=ei5 (r:=r) (g m (by simp)).2
   have h2:=ep6 (p:=p) (most:=most) (l:=m::r)
   have:=ex9 (n:=n) (m0:=k) (most:=most) (acc:=acc) (l:=m::r) (by simp at hl ⊢; omega) (by omega) (fun x hx=>(g x hx).1) (m::r).length n 0 (by omega) (by simp at hl ⊢; omega)
   rw [show bx8 p (m::r) 0=[] from rfl,show ((0:Nat):Int)=0 from rfl,show cnt p most (m::r) (m::r).length 0=aZ2 p most (m::r) from rfl] at this
   rw [ifd (by simp only [List.length_cons]; omega),this,ih k _ _ (by rw [List.length_drop]; simp at hd h2 ⊢; omega) (by omega) (by rw [List.length_drop,List.length_append]; simp at hl h2 ⊢; omega) (fun x hx=>g x (List.mem_of_mem_drop hx))]
   have hc:av1 p most (d+1) (m::r)=(m::r).take (aZ2 p most (m::r))::av1 p most d ((m::r).drop (aZ2 p most (m::r))):=by rw [av1,if_neg (by simp)]
   rw [hc,List.map_cons,List.append_assoc]
   have hld:bx8 p (m::r) (aZ2 p most (m::r))=(aL5 p ((m::r).take (aZ2 p most (m::r)))).1:=by unfold bx8; rw [if_neg (by omega)]
   rw [hld]; rfl
theorem fd0 {l:List Msg} {i:Nat} (h:i < l.length):(l.take (i+1)).drop i=[l[i]]:=by
 rw [List.take_succ_eq_append_getElem h,List.drop_left' (by rw [List.length_take]; omega)]
noncomputable def bh3 (p most:Int) (l:List Msg):Int × Int:=
 if p < 1∨4 < p then (0,1) else match ay8 (bx7 p) l 0 with
  | some i=>((i:Int),1)
  | none=>match ay8 (fun m=>az0 p most [m]) l 0 with
   | some i=>((i:Int),11)
   | none=>(0,0)
theorem em4 {n:Nat} {p most:Int} {l:List Msg} (hl:l.length≤1000) (g:∀ m∈l,aV0 p m):∀ (d k i:Nat),i+d=l.length→d < k→
  bb5 n k p l most i=some ((match ay8 (fun m=>az0 p most [m]) (l.drop i) i with | some j=>(((j:Nat):Int),11,()) | none=>(0,0,())),()):=by
 intro d
 induction d with
 | zero=>
  intro k i h hk
  obtain ⟨k,rfl⟩:∃ j,k=j+1:=⟨k - 1,by omega⟩
  rw [bV1,ifn (by omega),List.drop_eq_nil_of_le (by omega)]; rfl
 | succ d ih=>
  intro k i h hk
  obtain ⟨k,rfl⟩:∃ j,k=j+1:=⟨k - 1,by omega⟩
  have hi:i < l.length:=by omega
  have:=ih k (i+1) (by omega) (by omega)
  rw [show ((i+1:Nat):Int)=(i:Int)+1 by omega] at this
  rw [bV1,ifd (by omega),w64 (x:=(i:Int)+1) (by omega) (by omega),if_pos (by omega),show ((i:Int)+1).toNat=i+1 by omega,Int.toNat_natCast,fd0 hi,eP8 (fun m hm=>by rw [List.mem_singleton.1 hm]; exact g _ (List.getElem_mem hi)) (by simp),Option.bind_some,List.drop_eq_getElem_cons hi,ay8]
  dsimp only
  cases hf:az0 p most [l[i]] with
  | false=>rw [am5,at2]
  | true=>rw [ah3,ift]; exact this
theorem eP9 {p most:Int} {l:List Msg} (hl:l.length≤1000) (g:∀ m∈l,aV0 p m):cf6 (p,l,most,())=some (((bh3 p most l).1,(bh3 p most l).2,()),()):=by
 show cf5 fuel _=_
 rw [dy8]
 unfold bh3
 refine ai9 (fun h=>by rw [if_pos (Or.inl h)]) (fun h1=>?_)
 refine ai9 (fun h=>by rw [if_pos (Or.inr h)]) (fun h2=>?_)
 rw [if_neg (show ¬(p < 1∨4 < p) by omega)]
 have main:∀ (d k i:Nat),i+d=l.length→d < k→bb4 fuel k p l most i=some ((match ay8 (bx7 p) (l.drop i) i with | some j=>(((j:Nat):Int),1,()) | none=>(match ay8 (fun m=>az0 p most [m]) l 0 with | some j=>(((j:Nat):Int),11,()) | none=>(0,0,()))),()):=by
  intro d
  induction d with
  | zero=>
   intro k i h hk
   obtain ⟨k,rfl⟩:∃ j,k=j+1:=⟨k - 1,by omega⟩
   have:=em4 (n:=fuel) (most:=most) hl g l.length fuel 0 (by omega) (ae2 (by omega))
   rw [List.drop_zero,show ((0:Nat):Int)=0 from rfl] at this
   rw [bV0,ifn (by omega),List.drop_eq_nil_of_le (by omega),this]; rfl
  | succ d ih=>
   intro k i h hk
   obtain ⟨k,rfl⟩:∃ j,k=j+1:=⟨k - 1,by omega⟩
   have hi:i < l.length:=by omega
   have:=ih k (i+1) (by omega) (by omega)
   rw [show ((i+1:Nat):Int)=(i:Int)+1 by omega] at this
   rw [bV0,ifd (by omega),if_pos (by omega),Int.toNat_natCast,ag1 hi,eP6 (g _ (List.getElem_mem hi)),Option.bind_some,w64 (by omega) (by omega),List.drop_eq_getElem_cons hi,ay8]
   dsimp only
   cases hf:bx7 p l[i] with
   | false=>rw [am5,at2]
   | true=>rw [ah3,ift]; exact this
 have:=main l.length fuel 0 (by omega) (ae2 (by omega))
 rw [List.drop_zero,show ((0:Nat):Int)=0 from rfl] at this
 rw [this]
 cases ay8 (bx7 p) l 0 with
 | some i=>rfl
 | none=>cases ay8 (fun m=>az0 p most [m]) l 0 <;> rfl
noncomputable def aP1 (p most:Int) (l:List Msg):List Bs × Int × Int:=if (bh3 p most l).2≠0 then ([],bh3 p most l) else (eS3 p most l,0,0)
theorem dT3 {p most:Int} {l:List Msg} (h:(bh3 p most l).2=0):1≤p∧p≤4∧(∀ m∈l,bx7 p m=true∧az0 p most [m]=true):=by
 unfold bh3 at h
 split at h
 ·cases h
 ·rename_i hp
  split at h
  ·cases h
  ·rename_i h1
   split at h
   ·cases h
   ·rename_i h2
    exact ⟨by omega,by omega,fun m hm=>⟨aZ1 h1 m hm,aZ1 h2 m hm⟩⟩
theorem eY6 {p most:Int} {l:List Msg} (hl:l.length≤1000) (g:∀ m∈l,aV0 p m):cu1 (p,l,most,())=some (ag4 (aP1 p most l),()):=by
 show cu0 fuel _=_
 rw [dH7,eP9 hl g,Option.bind_some]
 unfold aP1
 refine ab9 (fun q=>by rw [if_pos q]) (fun q=>?_)
 rw [if_neg (show ¬(bh3 p most l).2≠0 from fun c=>c q)]
 have hc:=(dT3 (show (bh3 p most l).2=0 from q)).2.2
 rw [ey0 (n:=fuel) (Nat.le_of_lt (ae2 (by omega))) l.length fuel l [] (Nat.le_refl _) (ae2 (by omega)) (by simp; omega) (fun m hm=>⟨g m hm,(hc m hm).2⟩)]
 rfl
theorem dT4 {p most:Int}:∀ (k:Nat) (l:List Msg),l.length≤k→(∀ m∈l,az0 p most [m]=true)→(av1 p most k l).flatten=l∧(∀ c∈av1 p most k l,c≠[]∧az0 p most c=true)∧(av1 p most k l).length≤l.length
 | 0,l,h,_=>by
  have:l=[]:=List.eq_nil_of_length_eq_zero (by omega)
  subst this
  exact ⟨rfl,(fun c hc=>by cases hc),Nat.le_refl _⟩
 | k+1,[],h,_=>⟨by simp [av1],(fun c hc=>by simp [av1] at hc),by simp [av1]⟩
 | k+1,m::r,h,hf=>by
  have h1:=ei5 (r:=r) (hf m (by simp))
  have h2:=ep6 (p:=p) (most:=most) (l:=m::r)
  have hc:av1 p most (k+1) (m::r)=(m::r).take (aZ2 p most (m::r))::av1 p most k ((m::r).drop (aZ2 p most (m::r))):=by rw [av1,if_neg (by simp)]
  have hfit:az0 p most ((m::r).take (aZ2 p most (m::r)))=true:=ei4 _ _ h1
  have hdl:((m::r).drop (aZ2 p most (m::r))).length=(m::r).length - aZ2 p most (m::r):=List.length_drop
  obtain ⟨k1,k2,k3⟩:=dT4 k ((m::r).drop (aZ2 p most (m::r))) (by omega) (fun x hx=>hf x (List.mem_of_mem_drop hx))
  rw [hc]
  refine ⟨by rw [List.flatten_cons,k1,List.take_append_drop],fun c hcc=>?_,by rw [List.length_cons]; omega⟩
  rcases List.mem_cons.1 hcc with rfl | hcc
  ·refine ⟨fun q=>?_,hfit⟩
   have:=congrArg List.length q
   rw [List.length_take] at this
   simp only [List.length_nil] at this
   omega
  ·exact k2 c hcc
end Go.VP
namespace Go.VP
open Go Go.VI
theorem eH5 {a:List Bs} (ha:a.length≤100000):ch4 (a,a,())=some ((true,()),()):=by
 show ch3 fuel _=_
 rw [dB5]
 refine ab9 (fun q=>absurd rfl q) (fun _=>?_)
 have:∀ (d k i:Nat),i+d=a.length→d < k→bc2 fuel k a a i=some ((true,()),()):=by
  intro d
  induction d with
  | zero=>
   intro k i h hk
   obtain ⟨k,rfl⟩:∃ j,k=j+1:=⟨k - 1,by omega⟩
   rw [bV9,ifn (by omega)]
  | succ d ih=>
   intro k i h hk
   obtain ⟨k,rfl⟩:∃ j,k=j+1:=⟨k - 1,by omega⟩
   have hi:i < a.length:=by omega
   have:=ih k (i+1) (by omega) (by omega)
   rw [show ((i+1:Nat):Int)=(i:Int)+1 by omega] at this
   rw [bV9,ifd (by omega),if_pos (by omega),Int.toNat_natCast,ag1 hi,if_pos (by omega),ag1 hi,w64 (by omega) (by omega),this]
   exact if_neg (by simp)
 exact this a.length fuel 0 (by omega) (ae2 (by omega))
end Go.VP
namespace Go.VP
open Go Go.VI
theorem eQ0 {p most:Int} {l:List Msg} (h:az0 p most l=true):(aL5 p l).2.2=0∧((aL5 p l).1.length:Int)≤most:=by
 unfold az0 at h; exact of_decide_eq_true h
end Go.VP
namespace Go.VP
open Go Go.VI
abbrev Act:=ae1
abbrev eQ1:=ao2
abbrev bf0:=ab2
noncomputable def tell (y:Act):eQ1:=if y.packs=true then ⟨[],(aP1 y.p y.most y.l).1,(aP1 y.p y.most y.l).2.1,(aP1 y.p y.most y.l).2.2⟩ else ⟨(am8 y.p y.b).1,[],(am8 y.p y.b).2.1,(am8 y.p y.b).2.2⟩
def ey1:eQ1:=⟨[],[],0,12⟩
def aP2:List Bs→Nat
 | []=>0
 | b::r=>b.length+aP2 r
theorem eH6 (a:List Bs) (b:Bs):aP2 (a++[b])=aP2 a+b.length:=by
 induction a with
 | nil=>simp [aP2]
 | cons x r ih=>simp [aP2,ih]; omega
theorem cK7 {k:Nat}:∀ {a:List Bs},(∀ b∈a,b.length≤k)→aP2 a≤a.length * k
 | [],_=>by simp [aP2]
 | b::r,h=>by
  have:=cK7 (a:=r) (fun x hx=>h x (List.mem_cons_of_mem _ hx))
  have:=h b (List.mem_cons_self ..)
  rw [aP2,List.length_cons,Nat.succ_mul]; omega
theorem ey2 {D:List Bs} {i:Nat} (h:i < D.length):aP2 (D.take (i+1))=aP2 (D.take i)+(D[i]).length:=by
 rw [List.take_succ_eq_append_getElem h,eH6]
noncomputable def dF8 (y:Act):Nat:=if y.packs=true then aP2 (aP1 y.p y.most y.l).1 else y.b.length
structure cx4 (y:Act):Prop where
 b:y.b.length≤1000
 l:y.l.length≤10
 g:∀ m∈y.l,dZ9 m
theorem cK8 {p most:Int} {l:List Msg}:(aP1 p most l).1.length≤l.length∧∀ b∈(aP1 p most l).1,b.length≤65535:=by
 unfold aP1
 by_cases hz:(bh3 p most l).2≠0
 ·rw [if_pos hz]; exact ⟨Nat.zero_le _,fun b hb=>by cases hb⟩
 ·rw [if_neg hz]
  have hc:=(dT3 (Classical.byContradiction hz)).2.2
  obtain ⟨k1,k2,k3⟩:=dT4 (p:=p) (most:=most) l.length l (Nat.le_refl _) (fun m hm=>(hc m hm).2)
  refine ⟨by unfold eS3; rw [List.length_map]; exact k3,fun b hb=>?_⟩
  obtain ⟨c,hc,rfl⟩:=List.mem_map.1 hb
  exact (fc9 (eQ0 (k2 c hc).2).1).2
theorem eH7 {p:Int} {b:Bs} (hb:b.length≤100000):(∀ m∈(am8 p b).1,bY2 m)∧(am8 p b).1.length≤65535:=by
 by_cases h:(am8 p b).2.2=0
 ·obtain ⟨_,k1,k2,_⟩:=eP7 hb h
  exact ⟨fun m hm=>(k1 m hm).2.2,k2⟩
 ·rw [(ex8 h).1]; exact ⟨fun m hm=>(by cases hm),by simp⟩
theorem ei6 {y:Act} (h:cx4 y):dF8 y≤1000000:=by
 unfold dF8
 split
 ·have:=cK7 (cK8 (p:=y.p) (most:=y.most) (l:=y.l)).2
  have h1:=(cK8 (p:=y.p) (most:=y.most) (l:=y.l)).1
  have h2:=h.l
  have h3:(aP1 y.p y.most y.l).1.length * 65535≤10 * 65535:=Nat.mul_le_mul_right _ (by omega)
  omega
 ·have:=h.b; omega
noncomputable def dd7 (d:bf0) (n:Nat) (e:Int):bf0:=if e≠0 then ⟨d.once_done_v,d.once_m_mu_state,d.once_m_mu_sema,(),d.closed_v,d.calls_v+1,d.failed_v+1,d.bytes_v⟩ else ⟨d.once_done_v,d.once_m_mu_state,d.once_m_mu_sema,(),d.closed_v,d.calls_v+1,d.failed_v,d.bytes_v+n⟩
structure Wk (d:bf0):Prop where
 calls:0≤d.calls_v∧d.calls_v≤1000000000
 failed:0≤d.failed_v∧d.failed_v≤1000000000
 bytes:0≤d.bytes_v∧d.bytes_v≤1000000000000000
theorem dO2 (v:Int):am4 (⟨v⟩,())=some ((v,()),(⟨v⟩,())):=rfl
theorem ei7 (v:Int):ar8 (⟨v⟩,())=some ((v != 0,()),(⟨v⟩,())):=rfl
theorem ei8 (v d:Int) (h : -9223372036854775808≤v+d∧v+d≤9223372036854775807):an2 (⟨v⟩,d,())=some ((v+d,()),(⟨v+d⟩,())):=by
 show some ((IntKind.wrap .i64 (v+d),()),((⟨IntKind.wrap .i64 (v+d)⟩:af6),()))=_
 rw [w64 h.1 h.2]
theorem ei9 {d:bf0} {n:Nat} {e:Int} (h:Wk d) (hn:n≤1000000000000000):ax0 (d,(n:Int),e,())=some ((),(dd7 d n e,())):=by
 obtain ⟨⟨c1,c2⟩,⟨f1,f2⟩,b1,b2⟩:=h
 rw [cH8,ei8 _ _ (by omega),Option.bind_some]
 unfold dd7
 refine ab9 (fun q=>?_) (fun q=>?_)
 ·rw [if_pos q,ei8 _ _ (by omega)]; rfl
 ·rw [if_neg (fun c=>c q),ei8 _ _ (by omega)]; rfl
theorem ey3 {n:Nat} {d:bf0} {r2:(List Bs × Int × Int × Unit) × Unit} {r1:(Bool × Unit) × (ag5 × Unit)} (h:Wk d) (hr:r1.2.1.v=d.closed_v) (hl:r2.1.1.length≤100000) (hb:∀ b∈r2.1.1,b.length≤65535) :
  ∀ (k m i:Nat),i+k=r2.1.1.length→k < m→aE1 n m r2 d r1 (aP2 (r2.1.1.take i)) i=some ((r2.1.1,r2.1.2.1,r2.1.2.2.1,()),(dd7 d (aP2 r2.1.1) r2.1.2.2.1,())):=by
 have hs:=cK7 hb
 have hs':r2.1.1.length * 65535≤100000 * 65535:=Nat.mul_le_mul_right _ hl
 intro k
 induction k with
 | zero=>
  intro m i hk hm
  obtain ⟨m,rfl⟩:∃ j,m=j+1:=⟨m - 1,by omega⟩
  rw [bn8,ifn (by omega),List.take_of_length_le (by omega),hr]
  rw [show (ab2.mk d.once_done_v d.once_m_mu_state d.once_m_mu_sema d.kinds d.closed_v d.calls_v d.failed_v d.bytes_v)=d from rfl,ei9 h (by omega)]
  rfl
 | succ k ih=>
  intro m i hk hm
  obtain ⟨m,rfl⟩:∃ j,m=j+1:=⟨m - 1,by omega⟩
  have hi:i < r2.1.1.length:=by omega
  have:=ih m (i+1) (by omega) (by omega)
  have ht:=ey2 hi
  have hle:aP2 (r2.1.1.take (i+1))≤100000 * 65535:=by
   have h1:=cK7 (k:=65535) (a:=r2.1.1.take (i+1)) (fun b hb'=>hb b (List.mem_of_mem_take hb'))
   have h2:(r2.1.1.take (i+1)).length * 65535≤100000 * 65535:=Nat.mul_le_mul_right _ (by rw [List.length_take]; omega)
   exact Nat.le_trans h1 h2
  rw [bn8,ifd (by omega),if_pos (by omega),Int.toNat_natCast,ag1 hi,w64 (by omega) (by omega),w64 (by omega) (by omega)]
  rw [show ((i+1:Nat):Int)=(i:Int)+1 by omega,ht,Int.natCast_add] at this
  exact this
theorem eQ2 {d:bf0} {p most:Int} {l:List Msg} (h:Wk d) (hl:l.length≤1000) (g:∀ m∈l,aV0 p m):bk5 (d,p,l,most,())=if d.closed_v≠0 then some (([],0,12,()),(d,())) else some (ag4 (aP1 p most l),(dd7 d (aP2 (aP1 p most l).1) (aP1 p most l).2.2,())):=by
 show bk4 fuel _=_
 rw [cR7,ei7,Option.bind_some]
 dsimp only
 refine ab9 (fun q=>by rw [if_pos q]) (fun q=>?_)
 rw [if_neg (fun c=>c q),eY6 hl g,Option.bind_some]
 obtain ⟨k1,k2⟩:=cK8 (p:=p) (most:=most) (l:=l)
 exact ey3 (n:=fuel) (d:=d) (r2:=(ag4 (aP1 p most l),())) h rfl (by dsimp only [ag4]; omega) k2 (aP1 p most l).1.length fuel 0 (by simp [ag4]) (ae2 (by omega))
theorem eH8 {d:bf0} {p:Int} {b:Bs} (h:Wk d) (hb:b.length≤100000):aH2 (d,p,b,())=if d.closed_v≠0 then some (([],0,12,()),(d,())) else some (ag4 (am8 p b),(dd7 d b.length (am8 p b).2.2,())):=by
 rw [cI1,ei7,Option.bind_some]
 dsimp only
 refine ab9 (fun q=>by rw [if_pos q]) (fun q=>?_)
 rw [if_neg (fun c=>c q),eH1 hb,Option.bind_some]
 dsimp only [ag4]
 rw [show (ab2.mk d.once_done_v d.once_m_mu_state d.once_m_mu_sema d.kinds d.closed_v d.calls_v d.failed_v d.bytes_v)=d from rfl,ei9 h (by omega)]
 rfl
theorem ej0 (d:bf0):ax2 (d,())=some ((d.calls_v,d.failed_v,d.bytes_v,()),(d,())):=by
 rw [cI2,dO2,Option.bind_some,dO2,Option.bind_some,dO2,Option.bind_some]
end Go.VP
namespace Go.VP
open Go Go.VI
theorem eY7:aP6 ()=some ((true,()),()):=rfl
theorem eS4 {α:Type} (f:(Bool × Unit) × Unit→Option α):(aP6 ()).bind f=f ((true,()),()):=by rw [eY7]; rfl
theorem eQ3 (d:bf0):∃ b,aG6 (d,())=some ((b,()),(⟨d.once_done_v,d.once_m_mu_state,d.once_m_mu_sema,(),if d.closed_v=0 then 1 else d.closed_v,d.calls_v,d.failed_v,d.bytes_v⟩,())):=by
 by_cases h:d.closed_v=0
 ·refine ⟨true,?_⟩
  have:ak4 (⟨d.closed_v⟩,false,true,())=some ((true,()),(⟨1⟩,())):=by
   rw [h]; rfl
  rw [bv7,this,Option.bind_some,if_pos h]
 ·refine ⟨false,?_⟩
  have:ak4 (⟨d.closed_v⟩,false,true,())=some ((false,()),(⟨d.closed_v⟩,())):=by
   show (if false=false∧true=true then (if d.closed_v=0 then some ((true,()),((⟨1⟩:ag5),())) else some ((false,()),(⟨d.closed_v⟩,()))) else none)=_
   rw [if_pos ⟨rfl,rfl⟩,if_neg h]
  rw [bv7,this,Option.bind_some,if_neg h]
noncomputable def after (d:bf0) (y:Act):bf0:=if d.closed_v≠0 then d else dd7 d (dF8 y) (tell y).e
theorem dO3 {d:bf0} {y:Act} (h:Wk d) (f:cx4 y):au4 (d,y,())=some ((if d.closed_v≠0 then ey1 else tell y,()),(after d y,())):=by
 rw [dB4]
 unfold after tell dF8
 by_cases hp:y.packs=true
 ·rw [if_pos hp,eQ2 h (by have:=f.l; omega) (fun m hm=>(f.g m hm).p _)]
  by_cases hc:d.closed_v≠0
  ·rw [if_pos hc,if_pos hc,if_pos hc]; rfl
  ·rw [if_neg hc,if_neg hc,if_neg hc,if_pos hp,if_pos hp]; rfl
 ·rw [if_neg hp,eH8 h (by have:=f.b; omega)]
  by_cases hc:d.closed_v≠0
  ·rw [if_pos hc,if_pos hc,if_pos hc]; rfl
  ·rw [if_neg hc,if_neg hc,if_neg hc,if_neg hp,if_neg hp]; rfl
theorem dT5 {t:eQ1} (h1:t.l.length≤1000000) (h2:∀ m∈t.l,bY2 m) (h3:t.d.length≤100000):aB2 (t,t,())=some ((true,()),()):=by
 rw [dB6,eK8 h1 h2,Option.bind_some]
 dsimp only
 rw [if_pos rfl,eH5 h3,Option.bind_some]
 simp
theorem eQ4 {y:Act} (f:cx4 y):(tell y).l.length≤1000000∧(∀ m∈(tell y).l,bY2 m)∧(tell y).d.length≤100000:=by
 unfold tell
 split
 ·have:=(cK8 (p:=y.p) (most:=y.most) (l:=y.l)).1
  have:=f.l
  exact ⟨Nat.zero_le _,(fun m hm=>by cases hm),(by dsimp only; omega)⟩
 ·obtain ⟨h1,h2⟩:=eH7 (p:=y.p) (b:=y.b) (by have:=f.b; omega)
  exact ⟨by dsimp only; omega,h1,Nat.zero_le _⟩
theorem eQ5 {c:Prop} [Decidable c] {y:Act} (f:cx4 y):aB2 (if c then ey1 else tell y,if c then ey1 else tell y,())=some ((true,()),()):=by
 obtain ⟨h1,h2,h3⟩:=eQ4 f
 split
 ·exact dT5 (Nat.zero_le _) (fun m hm=>by cases hm) (Nat.zero_le _)
 ·exact dT5 h1 h2 h3
theorem eQ6 {a:List Act} (g:aS8 a):∃ b,cs3 (a,())=some ((b,()),())∧(b=true→a.length≤12∧∀ y∈a,cx4 y):=by
 have g:∀ y∈a,bD8 y:=g.1.2
 show ∃ b,cs1 fuel (a,())=_∧_
 rw [dI3]
 by_cases h:(12:Int) < (a.length:Int)
 ·rw [ifd h]; exact ⟨false,rfl,fun h=>by cases h⟩
 rw [ifn h]
 have go:∀ (d m i:Nat),i+d=a.length→d < m→∃ b,bh7 fuel m a i=some ((b,()),())∧(b=true→∀ y∈a.drop i,cx4 y):=by
  intro d
  induction d with
  | zero=>
   intro m i hd hm
   obtain ⟨m,rfl⟩:∃ j,m=j+1:=⟨m - 1,by omega⟩
   rw [ci5,ifn (by omega),List.drop_of_length_le (by omega)]
   exact ⟨true,rfl,fun _ y hy=>by cases hy⟩
  | succ d ih=>
   intro m i hd hm
   obtain ⟨m,rfl⟩:∃ j,m=j+1:=⟨m - 1,by omega⟩
   have hi:i < a.length:=by omega
   have gi:=g _ (List.getElem_mem hi)
   obtain ⟨_,_,_,gl,_⟩:=gi
   have gl:∀ m∈(a[i]).l,aB4 m:=gl.2
   obtain ⟨b,h1,h2⟩:=eU0 (a:=(a[i]).l) (k:=10) (by omega) (fun m hm=>eK9 (gl m hm))
   rw [ci5,ifd (by omega),if_pos (by omega),Int.toNat_natCast,ag1 hi]
   by_cases hb:(1000:Int) < ((a[i]).b.length:Int)
   ·rw [ifd hb]; exact ⟨false,rfl,fun h=>by cases h⟩
   rw [ifn hb,if_pos (by omega),ag1 hi,h1,Option.bind_some]
   dsimp only
   cases b with
   | false=>rw [am5]; exact ⟨false,rfl,fun h=>by cases h⟩
   | true=>
    rw [ah3,w64 (by omega) (by omega)]
    obtain ⟨hl,hf⟩:=h2 rfl
    obtain ⟨b,k1,k2⟩:=ih m (i+1) (by omega) (by omega)
    rw [show ((i+1:Nat):Int)=(i:Int)+1 by omega] at k1
    refine ⟨b,k1,fun q y hy=>?_⟩
    rw [List.drop_eq_getElem_cons hi] at hy
    rcases List.mem_cons.1 hy with rfl | hy
    ·exact ⟨by omega,by omega,fun m hm=>fe2 (gl m hm) (hf m hm)⟩
    ·exact k2 q y hy
 obtain ⟨b,h1,h2⟩:=go a.length fuel 0 (by omega) (ae2 (by omega))
 exact ⟨b,h1,fun q=>⟨by omega,fun y hy=>h2 q y (by simpa using hy)⟩⟩
noncomputable def am9 (y:Act) (n:Int × Int × Int):Int × Int × Int:=if (tell y).e≠0 then (n.1+1,n.2.1+1,n.2.2) else (n.1+1,n.2.1,n.2.2+dF8 y)
noncomputable def aj8 (k:Int) (l:List Act):Nat→Int × Int × Int
 | 0=>(0,0,0)
 | i+1=>match l[i]? with
  | some y=>if 0≤k∧k≤(i:Int) then aj8 k l i else am9 y (aj8 k l i)
  | none=>aj8 k l i
theorem dO4 {k:Int} {l:List Act} {i:Nat} (h:i < l.length):aj8 k l (i+1)=if 0≤k∧k≤(i:Int) then aj8 k l i else am9 (l[i]) (aj8 k l i):=by
 rw [aj8,List.getElem?_eq_getElem h]
theorem ey4 {y:Act} {n:Int × Int × Int} {i:Nat} (f:cx4 y) (h:0≤n.1∧n.1≤i∧0≤n.2.1∧n.2.1≤i∧0≤n.2.2∧n.2.2≤1000000 * i):0≤(am9 y n).1∧(am9 y n).1≤(i:Int)+1∧0≤(am9 y n).2.1∧(am9 y n).2.1≤(i:Int)+1∧0≤(am9 y n).2.2∧(am9 y n).2.2≤1000000 * ((i:Int)+1):=by
 have:=ei6 f
 unfold am9
 split <;> dsimp only <;> omega
theorem ej1 {k:Int} {l:List Act} (f:∀ y∈l,cx4 y):∀ (i:Nat),i≤l.length→0≤(aj8 k l i).1∧(aj8 k l i).1≤i∧0≤(aj8 k l i).2.1∧(aj8 k l i).2.1≤i∧0≤(aj8 k l i).2.2∧(aj8 k l i).2.2≤1000000 * i
 | 0,_=>by simp [aj8]
 | i+1,h=>by
  have ih:=ej1 (k:=k) f i (by omega)
  have:=ey4 (f _ (List.getElem_mem (show i < l.length by omega))) ih
  rw [dO4 (by omega)]
  split
  ·omega
  ·omega
end Go.VP
