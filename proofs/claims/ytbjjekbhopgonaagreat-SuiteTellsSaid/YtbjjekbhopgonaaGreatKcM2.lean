import Derived.Test.YtbjjekbhopgonaaGreatKcFQ11
import Derived.Test.YtbjjekbhopgonaaGreatKcFQ4
import Derived.Test.YtbjjekbhopgonaaGreatKcM0
import Derived.Test.YtbjjekbhopgonaaGreatKcM1
import Derived.Test.YtbjjekbhopgonaaGreatKcFQ5
import Derived.Test.YtbjjekbhopgonaaGreatKcFQ7
import Derived.Test.YtbjjekbhopgonaaGreatKcFQ8
import Derived.Test.YtbjjekbhopgonaaGreatKcFQ12
import Derived.Test.YtbjjekbhopgonaaGreatKcFQ6
import Derived.Test.YtbjjekbhopgonaaGreatKcFH
import Derived.Test.YtbjjekbhopgonaaGreatKcFQ13
import Derived.Test.YtbjjekbhopgonaaGreatKcFQ14
import Derived.Test.YtbjjekbhopgonaaGreatKcFQ15
import Derived.Test.YtbjjekbhopgonaaGreatKcFQ0
import Derived.Test.YtbjjekbhopgonaaGreatKcFQ2
import Derived.Test.YtbjjekbhopgonaaGreatKcFQ1
import Derived.Test.YtbjjekbhopgonaaGreatKcFGood
set_option linter.unusedVariables false
set_option linter.unusedSimpArgs false
set_option maxRecDepth 100000
namespace Go.VP
open Go Go.VI
def Tg (t:Tlv):Prop:=(0≤t.type_∧t.type_≤255)∧t.data.length≤255
theorem ai7.small {m:Msg} (g:ai7 m):cT8 m:=by
 have:=g.good.few.list; have:=g.good.few.subs; exact ⟨by omega,by omega⟩
theorem eT4 {c:Ctx} {t:Tlv} (hc:okC c) (ht:Tg t):∀ m∈(ak7 c t.type_ t.data).2.1,c25 m∧ai7 m:=by
 obtain ⟨ty,at_,d⟩:=t
 obtain ⟨ht,hd⟩:=ht
 have hd:d.length≤255:=hd
 have ht:0≤ty∧ty≤255:=ht
 have has0:IntKind.has .i64 0:=a45.2 (by omega)
 have mt:∀ m:Msg,ay5 m∨ay8 m→m.type_=0∧m.metric=0:=fun m h=>by
  have key:∀ x,a68 m=true→ab0 m=some x→x.type_=0∧x.metric=0→m.type_=0∧m.metric=0:=fun x hb hx h0=>by
   rw [a68,hx] at hb
   have:=bC8.1 hb
   rw [← this]; exact h0
  rcases h with h | h
  ·rcases h.kinds with hk | hk | ⟨hk,_⟩ | ⟨hk,_⟩
   ·exact key _ h.bare (by unfold ab0; rw [hk]; rfl) ⟨rfl,rfl⟩
   ·exact key _ h.bare (by unfold ab0; rw [hk]; rfl) ⟨rfl,rfl⟩
   ·exact key _ h.bare (by unfold ab0; rw [hk]; rfl) ⟨rfl,rfl⟩
   ·exact key _ h.bare (by unfold ab0; rw [hk]; rfl) ⟨rfl,rfl⟩
  ·rcases h.kinds with hk | ⟨hk,_⟩
   ·exact key _ h.bare (by unfold ab0; rw [hk]; rfl) ⟨rfl,rfl⟩
   ·exact key _ h.bare (by unfold ab0; rw [hk]; rfl) ⟨rfl,rfl⟩
 intro m hm
 dsimp only at hm
 unfold ak7 at hm
 split at hm
 ·cases hm
 split at hm
 ·unfold b12 at hm
  split at hm
  ·cases hm
  split at hm
  ·cases hm
  split at hm
  ·rcases eL3 (d:=d) hc (by omega) with h | ⟨x,h,hu,hg,_⟩
   ·rw [h] at hm; cases hm
   ·rw [h,List.mem_singleton] at hm; subst hm; exact ⟨.upd hu,hg⟩
  ·cases hm
 split at hm
 ·rename_i h25
  rcases ew4 (ty:=ty) (d:=d) h25 (by omega) with ⟨x,h,hr,hg,_⟩ | ⟨e,h⟩
  ·rw [h] at hm
   have:m=x:=by unfold bD3 at hm; simpa using hm
   subst this
   have:=mt m (.inl hr)
   exact ⟨.field hr,⟨hg,by rw [this.1]; exact has0,by rw [this.2]; exact has0⟩⟩
  ·rw [h] at hm
   unfold bD3 at hm
   split at hm
   ·cases hm
   ·cases hm
 split at hm
 ·rename_i h910
  rcases ew9 (ty:=ty) (d:=d) h910 (by omega) with ⟨x,h,hr,hg,_⟩ | ⟨e,h⟩
  ·rw [h] at hm
   have:m=x:=by unfold bD3 at hm; simpa using hm
   subst this
   have:=mt m (.inr hr)
   exact ⟨.route hr,⟨hg,by rw [this.1]; exact has0,by rw [this.2]; exact has0⟩⟩
  ·rw [h] at hm
   unfold bD3 at hm
   split at hm
   ·cases hm
   ·cases hm
 ·rw [List.mem_singleton] at hm
  subst hm
  have e0:([]:Bs).length≤400:=by decide
  have n0:([]:List b22).length≤1000:=by decide
  have hb:ab0 (do8 ty d)=some (do8 ty d):=rfl
  refine ⟨.opq ⟨rfl,by rw [a68,hb]; exact af8 _,by show 10 < ty∧ty < 256; omega,by show d.length < 256; omega⟩,⟨⟨⟨n0,by show 0≤1000; omega,e0,e0,e0,e0,e0,e0,by show d.length≤400; omega,(fun d h=>by cases h),(fun d h=>by cases h)⟩,has0,has0,has0,has0,a45.2 (by show _≤(14:Int)∧(14:Int)≤_; omega),has0,has0,has0,has0⟩,a45.2 (by show _≤ty∧ty≤_; omega),has0⟩⟩
theorem eL5 {l:List Tlv} {c:Ctx} (hc:okC c) (hl:∀ t∈l,Tg t):∀ m∈(a80 c l []).1,c25 m∧ai7 m:=
 eh8 (P:=fun m=>c25 m∧ai7 m) (Q:=Tg) (fun c t hc ht=>eT4 hc ht) l c [] hc hl (fun m hm=>by cases hm)
theorem fl0 (s:Bs):∀ (p:Int) (l:List Tlv),spl p s=.ok l→∀ t∈l,Tg t:=by
 induction h:s.length using Nat.strongRecOn generalizing s with
 | ind n ih=>
  intro p l hs
  subst h
  match s,hs with
  | [],hs=>rw [bd7] at hs; cases hs; intro t ht; cases ht
  | t::r,hs=>
   by_cases ht:t=0
   ·subst ht
    rw [bC7] at hs
    cases hr:spl (p+1) r with
    | error q=>rw [hr] at hs; cases hs
    | ok lr=>
     rw [hr] at hs; cases hs
     intro x hx
     rcases List.mem_cons.1 hx with rfl | hx
     ·exact ⟨by show (0:Int)≤0∧(0:Int)≤255; omega,by show 0≤255; omega⟩
     ·exact ih r.length (by simp) r rfl _ lr hr x hx
   ·match r,hs with
    | [],hs=>rw [c37 ht] at hs; cases hs
    | n::d,hs=>
     by_cases hn:d.length < n.toNat
     ·rw [c38 ht hn] at hs; cases hs
     ·rw [c39 ht (by omega)] at hs
      cases hr:spl (p+2+n.toNat) (d.drop n.toNat) with
      | error q=>rw [hr] at hs; cases hs
      | ok lr=>
       rw [hr] at hs; cases hs
       intro x hx
       rcases List.mem_cons.1 hx with rfl | hx
       ·have h1:=t.toNat_lt
        have h2:=n.toNat_lt
        refine ⟨by show (0:Int)≤(t.toNat:Int)∧(t.toNat:Int)≤255; omega,?_⟩
        show (d.take n.toNat).length≤255
        rw [List.length_take]; omega
       ·exact ih (d.drop n.toNat).length (by simp; omega) (d.drop n.toNat) rfl _ lr hr x hx
def ar0 (b:Bs):List Msg × Int × Int:=
 if (a97 b).2.2≠0 then ([],(a97 b).2.1,(a97 b).2.2)
 else match spl 4 (a97 b).1 with
  | .error q=>([],q,2)
  | .ok l=>match spl (4+((a97 b).1.length:Int)) (bD4 b) with
   | .error q=>([],q,2)
   | .ok _=>((a80 c0 l []).1,(a80 c0 l []).2.2.1,(a80 c0 l []).2.2.2)
theorem dZ8 {b:Bs} {B:Option ((Bs × Int × Int × Unit) × Unit)} {S1 S2:Bs→Int→Option ((List Tlv × Int × Int × Unit) × Unit)} {T:Option ((Bs × Unit) × Unit)} {F:List Tlv→Option ((List Msg × Ctx × Int × Int × Unit) × Unit)}
  (hB:B=some (a35 (a97 b),())) (hS1:∀ s p,s.length≤1000000000→0≤p∧p≤1152921504606846976→S1 s p=some (a35 (aj5 [] (spl p s)),())) (hS2:∀ s p,s.length≤1000000000→0≤p∧p≤1152921504606846976→S2 s p=some (a35 (aj5 [] (spl p s)),()))
  (hT:(a97 b).2.2=0→T=some ((bD4 b,()),()))
  (hF:∀ l:List Tlv,l.length≤100000→(∀ t∈l,t.data.length≤1000)→F l=some (((a80 c0 l []).1,(a80 c0 l []).2.1,(a80 c0 l []).2.2.1,(a80 c0 l []).2.2.2,()),())) :
  (B.bind fun r1=>(if (r1.1.2.2.1 != 0)=true then (some (([],r1.1.2.1,r1.1.2.2.1,()),()):Option ((List Msg × Int × Int × Unit) × Unit)) else ((S1 r1.1.1 4).bind fun r2=>(if (r2.1.2.2.1 != 0)=true then some (([],r2.1.2.1,r2.1.2.2.1,()),()) else (T.bind fun r3=>((S2 r3.1.1 (IntKind.wrap .i64 (4+(r1.1.1.length:Int)))).bind fun r4=>(if (r4.1.2.2.1 != 0)=true then some (([],r4.1.2.1,r4.1.2.2.1,()),()) else ((F r2.1.1).bind fun r5=>some ((r5.1.1,r5.1.2.2.1,r5.1.2.2.2.1,()),())))))))))=some (a35 (ar0 b),()):=by
 rw [hB,Option.bind_some]
 unfold ar0
 dsimp only [a35]
 refine a16 (fun h=>by rw [if_pos h]) (fun h=>?_)
 obtain ⟨l1,l2,_,_,l5,_,l7⟩:=cl7 h
 have hr:=aG3 b
 have hbl:(bD4 b).length≤100000:=by unfold bD4; rw [List.length_drop]; omega
 have hsl:(a97 b).1.length≤65535:=by omega
 rw [if_neg (show ¬(a97 b).2.2≠0 from fun q=>q h),hS1 _ _ (by omega) (by omega),Option.bind_some]
 cases h1:spl 4 (a97 b).1 with
 | error q=>rfl
 | ok l=>
  have hk:=cO1 _ _ _ h1
  dsimp only [a35,aj5]
  refine a16 (fun q=>absurd rfl q) (fun _=>?_)
  rw [hT h,Option.bind_some]
  dsimp only
  rw [w64 (by omega) (by omega),hS2 _ _ (by omega) (by omega),Option.bind_some]
  cases h2:spl (4+((a97 b).1.length:Int)) (bD4 b) with
  | error q=>rfl
  | ok l2=>
   dsimp only [a35,aj5]
   refine a16 (fun q=>absurd rfl q) (fun _=>?_)
   rw [List.nil_append,hF l (by omega) (fun t ht=>by have:=hk.1 t ht; omega)]
   rfl
theorem eT5 (b:Bs):aX5 (b,())=some (a35 (ar0 b),()):=by
 rw [dt4]
 exact dZ8 (b:=b) (S1:=fun s p=>ap7 (s,p,())) (S2:=fun s p=>ap7 (s,p,())) (F:=fun l=>b57 (l,())) (fg5 b) (fun s p h h2=>dL1 h h2) (fun s p h h2=>dL1 h h2) (fun h=>eL4 h) (fun l h h2=>fg4 h h2)
theorem eL6 (b:Bs):b82 (b,())=some (a35 (ar0 b),()):=by
 rw [dG8]
 exact dZ8 (b:=b) (S1:=fun s p=>aq1 (s,p,())) (S2:=fun s p=>aq1 (s,p,())) (F:=fun l=>bm7 (l,())) (ex1 b) (fun s p h h2=>dl6 h h2) (fun s p h h2=>dl6 h h2) (fun h=>eB5 h) (fun l h h2=>f27 h h2)
theorem cl8 (b:Bs):((ar0 b).2.2≠0∧(ar0 b).1=[])∨∃ l,(a97 b).2.2=0∧spl 4 (a97 b).1=.ok l∧(∃ k,spl (4+((a97 b).1.length:Int)) (bD4 b)=.ok k)∧(a80 c0 l []).2.2.2=0∧ar0 b=((a80 c0 l []).1,0,0):=by
 unfold ar0
 by_cases h:(a97 b).2.2≠0
 ·rw [if_pos h]; exact .inl ⟨h,rfl⟩
 rw [if_neg h]
 cases h1:spl 4 (a97 b).1 with
 | error q=>exact .inl ⟨by simp,rfl⟩
 | ok l=>
  cases h2:spl (4+((a97 b).1.length:Int)) (bD4 b) with
  | error q=>exact .inl ⟨by simp,rfl⟩
  | ok k=>
   dsimp only
   by_cases h3:(a80 c0 l []).2.2.2=0
   ·exact .inr ⟨l,by simpa using h,rfl,⟨k,rfl⟩,h3,by rw [dZ6 l c0 [] h3,h3]⟩
   ·exact .inl ⟨h3,(eh6 l c0 [] h3).1⟩
theorem ex2 (b:Bs):(∀ m∈(ar0 b).1,c25 m∧ai7 m)∧(ar0 b).1.length≤65535:=by
 rcases cl8 b with ⟨_,h⟩ | ⟨l,h0,h1,_,_,h4⟩
 ·rw [h]; exact ⟨fun m hm=>(by cases hm),by simp⟩
 ·rw [h4]
  have hb:=(cl7 h0)
  have hr:=aG3 b
  have:=(eh7 l c0 [] cl6).1
  have hk:=(cO1 _ _ _ h1).2
  exact ⟨eL5 cl6 (fl0 _ _ _ h1),by dsimp only; simp at this; omega⟩
end Go.VP
namespace Go.VP
open Go Go.VI
theorem f30 (a:Bs):aZ0 (a,())=some ((aP4 a,()),()):=by
 rw [ds3]; unfold aP4
 refine a09 (fun h=>by rw [if_pos (by omega)]) (fun h=>?_)
 rw [if_neg (show ¬a.length=4 by omega)]
 exact a09 (fun h=>by rw [if_pos (by omega)]) (fun h=>by rw [if_neg (by omega)])
theorem eT6 (s:Bs) (g:Bool):bj9 (s,g,())=some ((decide (s=[]) || g,()),()):=by
 rw [dY8]
 refine c43 (fun h=>by simp [h]) (fun h=>by simp [h])
theorem aM5 {R:Type} {b S:Bool} {t:Option R} {f:Bool→Option R} (h:b=true→t=f S):(if (!b)=true then f false else t)=f (b && S):=by
 cases b with
 | true=>rw [a41,Bool.true_and]; exact h rfl
 | false=>rw [a83,Bool.false_and]
theorem eL7 {n:Int} (hn:IntKind.has .i64 n):a24 (n,2,())=some ((a25 n 2,()),()):=ak1 (k:=2) hn (by omega) (by omega)
theorem dM3 {n:Int}:aN4 (n,())=some ((a25 n 2,()),()):=by
 rw [e86,show a81 (n,2,())=some ((a25 n 2,()),()) from bC6 (k:=2) (by omega) (by omega)]; rfl
theorem dp0 {m:Msg} (g:aC2 m):ai8 m.subs:=g.few.fewS
theorem eT7 {m:Msg} (g:ai7 m):bF2 (m,())=some ((dm3 m,()),()):=by
 have hl:=g.good.few
 have:=hl.id; have:=hl.next; have:=hl.pre
 rw [eb8]
 unfold dm3
 refine a16 (fun h=>by rw [decide_eq_false h,Bool.false_and]) (fun h=>?_)
 rw [decide_eq_true h,Bool.true_and,b08,Option.bind_some]
 dsimp only
 refine aM5 (f:=fun b=>some ((b,()),())) (fun _=>?_)
 rw [ct9 (dp0 g.good),Option.bind_some]
 refine aM5 (f:=fun b=>some ((b,()),())) (fun _=>?_)
 rw [fd4 (by omega) g.good.plen,Option.bind_some]
 refine aM5 (f:=fun b=>some ((b,()),())) (fun _=>?_)
 rw [eL7 g.good.interval,Option.bind_some]
 refine aM5 (f:=fun b=>some ((b,()),())) (fun _=>?_)
 rw [eL7 g.good.seq,Option.bind_some]
 refine aM5 (f:=fun b=>some ((b,()),())) (fun _=>?_)
 rw [eL7 g.metric,Option.bind_some]
 refine aM5 (f:=fun b=>some ((b,()),())) (fun _=>?_)
 unfold eq4
 refine a09 (fun h=>?_) (fun h=>?_)
 ·rw [if_pos h,if_pos (a11 (by omega))]
  have:(m.id++m.next==([]:Bs))=(m.id==[] && m.next==[]):=by
   rw [Bool.eq_iff_iff]; simp
  rw [this]
 ·rw [if_neg h]
  by_cases ha:0 < m.ae
  ·rw [ifd ha,decide_eq_true ha,Bool.true_and,eK1]
   cases h8:decide (m.id.length=8) with
   | false=>rw [aa1,Bool.false_and]
   | true=>
    rw [ift,eR8,Option.bind_some,cO7,Option.bind_some,eT6,Option.bind_some,Bool.true_and]
    have e1:(m.next==([]:Bs))=decide (m.next=[]):=by rw [Bool.eq_iff_iff]; simp
    have e2:(aP4 m.next==a56 m.ae)=decide (aP4 m.next=a56 m.ae):=by rw [Bool.eq_iff_iff]; simp
    rw [e1]
    dsimp only
    rw [e2]
  ·rw [ifn ha,decide_eq_false ha,Bool.false_and]
theorem eL8 {m:Msg} (g:ai7 m) (ha:au9 m∨0≤m.ae∨True):b71 (m,())=some ((dm3 m,()),()):=by
 have hl:=g.good.few
 have:=hl.id; have:=hl.next; have:=hl.pre; have:=hl.list; have:=hl.subs
 rw [dI5]
 unfold dm3
 refine a16 (fun h=>by rw [decide_eq_false h,Bool.false_and]) (fun h=>?_)
 rw [decide_eq_true h,Bool.true_and,aJ7 (by omega) (by omega),Option.bind_some]
 dsimp only
 refine aM5 (f:=fun b=>some ((b,()),())) (fun _=>?_)
 rw [c18 (dp0 g.good),Option.bind_some]
 refine aM5 (f:=fun b=>some ((b,()),())) (fun _=>?_)
 rw [eS4 (by omega),Option.bind_some]
 refine aM5 (f:=fun b=>some ((b,()),())) (fun hin=>?_)
 have hae:=(cO6.1 hin).1
 rw [dM3,Option.bind_some]
 refine aM5 (f:=fun b=>some ((b,()),())) (fun _=>?_)
 rw [dM3,Option.bind_some]
 refine aM5 (f:=fun b=>some ((b,()),())) (fun _=>?_)
 rw [dM3,Option.bind_some]
 refine aM5 (f:=fun b=>some ((b,()),())) (fun _=>?_)
 unfold eq4
 refine a09 (fun h=>?_) (fun h=>?_)
 ·rw [if_pos h]
  cases (m.id==([]:Bs)) <;> rfl
 ·rw [if_neg h]
  refine a16 (fun h0=>?_) (fun h0=>?_)
  ·rw [decide_eq_true (show 0 < m.ae by omega),Bool.true_and,eK1]
   cases h8:decide (m.id.length=8) with
   | false=>rw [aa1,Bool.false_and]
   | true=>
    rw [ift,Bool.true_and]
    have e2:(aP4 m.next==a56 m.ae)=decide (aP4 m.next=a56 m.ae):=by rw [Bool.eq_iff_iff]; simp
    rw [f30,Option.bind_some,cl5,Option.bind_some]
    dsimp only
    rw [e2]
    cases (m.next==([]:Bs)) <;> rfl
  ·rw [decide_eq_false (show ¬0 < m.ae by omega),Bool.false_and]
theorem fn7 {m:Msg} (g:au6 m) (h:ec2 m):ai7 m:=by
 obtain ⟨g1,g2,g3,g4,g5,g6,g7,g8,g9,g10,g11,g12,g13,g14,g15,g16,g17,g18,g19,g20,g21,g22,g23,_⟩:=g
 exact ⟨⟨h,g18,g15,g13,g19,g1,g16,g6,g8,g17⟩,g23,g11⟩
end Go.VP
namespace Go.VP
open Go Go.VI
def cV0:List UInt8:=[0]++List.replicate 1 1++List.replicate 2 2++List.replicate 4 3++List.replicate 8 4++List.replicate 16 5++List.replicate 32 6++List.replicate 64 7++List.replicate 128 8
theorem f31:∀ x:Fin 256,x.val≠0→∃ y,cV0[x.val]?=some y∧1≤y.toNat∧y.toNat≤8:=by
 have h:∀ x:Fin 256,x.val≠0→1≤(cV0[x.val]?.getD 0).toNat∧(cV0[x.val]?.getD 0).toNat≤8:=by decide +kernel
 have hl:cV0.length=256:=by decide +kernel
 intro x hx
 refine ⟨cV0[x.val]?.getD 0,a40 (by omega),h x hx⟩
theorem fg8 (a0:Int):aI0 (a0,())=if 0≤a0 then cV0[a0.toNat]?.bind fun (y1:UInt8)=>some (((IntKind.wrap .i64 (y1.toNat:Int)),()),()) else none:=d71 a0
theorem fl1 {n:Nat} (h0:n≠0) (h:n < 256):∃ z:Int,ai6 ((n:Int),())=some ((z,()),())∧0≤z∧z≤7:=by
 obtain ⟨y,h1,h2,h3⟩:=f31 ⟨n,h⟩ h0
 have h1:cV0[n]?=some y:=h1
 rw [bC5,fg8,if_pos (by omega),Int.toNat_natCast,h1,Option.bind_some,Option.bind_some]
 dsimp only
 rw [am4,w64 (by omega) (by omega)]
 exact ⟨_,rfl,by omega,by omega⟩
theorem eT8 {a b:UInt8}:(a47 .xor .u8 (a.toNat:Int) (b.toNat:Int)≠0)↔a≠b:=by
 rw [eD7 a.toNat_lt b.toNat_lt]
 constructor
 ·intro h e; subst e; simp at h
 ·intro h e
  have h0:a.toNat ^^^ b.toNat=0:=by omega
  exact h (UInt8.toNat.inj (by
   have:=congrArg (· ^^^ b.toNat) h0
   simpa [Nat.xor_assoc] using this))
theorem ei2 {x y:Bs} (h:x=[]∨y=[]):av6 x y=0:=by
 rcases h with rfl | rfl
 ·cases y <;> rfl
 ·cases x <;> rfl
theorem eL9 {a b:Bs} {n:Nat} (ha:a.length≤100000) (hb:b.length≤100000):∀ (d m i:Nat),i+d=min a.length b.length→d < m→∃ A:Int,aY1 n m a b (if (b.length:Int) < (a.length:Int) then (b.length:Int) else (a.length:Int)) i=some ((A,()),())∧A / 8=i+av6 (a.drop i) (b.drop i)∧0≤A∧A≤10000000:=by
 have hmin:(if (b.length:Int) < (a.length:Int) then (b.length:Int) else (a.length:Int))=((min a.length b.length:Nat):Int):=by split <;> omega
 rw [hmin]
 intro d
 induction d with
 | zero=>
  intro m i hd hm
  obtain ⟨m,rfl⟩:∃ k,m=k+1:=⟨m - 1,by omega⟩
  rw [bZ2,ifn (by omega),hmin,w64 (by omega) (by omega)]
  refine ⟨_,rfl,?_,by omega,by omega⟩
  rw [ei2 (by
   by_cases h:a.length≤b.length
   ·exact .inl (List.drop_eq_nil_of_le (by omega))
   ·exact .inr (List.drop_eq_nil_of_le (by omega)))]
  omega
 | succ d ih=>
  intro m i hd hm
  obtain ⟨m,rfl⟩:∃ k,m=k+1:=⟨m - 1,by omega⟩
  have hp:0≤(i:Int):=by omega
  have hi:i < a.length:=by omega
  have hib:i < b.length:=by omega
  rw [bZ2,ifd (by omega)]
  simp only [if_pos hp,Int.toNat_natCast,List.getElem?_eq_getElem hi,List.getElem?_eq_getElem hib,Option.bind_some]
  rw [List.drop_eq_getElem_cons hi,List.drop_eq_getElem_cons hib,av6]
  by_cases he:a[i]=b[i]
  ·obtain ⟨A,h1,h2,h3,h4⟩:=ih m (i+1) (by omega) (by omega)
   rw [show ((i+1:Nat):Int)=(i:Int)+1 by omega] at h1 h2
   have hz:a47 .xor .u8 ((a[i]).toNat:Int) ((b[i]).toNat:Int)=0:=Classical.byContradiction fun h=>eT8.1 h he
   rw [if_pos he,hz,if_neg (by decide),w64 (by omega) (by omega)]
   exact ⟨A,h1,by omega,h3,h4⟩
  ·have hz:=eT8.2 he
   rw [if_neg he,if_pos (by simpa using hz)]
   rw [eD7 (a[i]).toNat_lt (b[i]).toNat_lt] at hz ⊢
   have hx:(a[i]).toNat ^^^ (b[i]).toNat < 256:=Nat.xor_lt_two_pow (n:=8) (a[i]).toNat_lt (b[i]).toNat_lt
   obtain ⟨z,k1,k2,k3⟩:=fl1 (n:=(a[i]).toNat ^^^ (b[i]).toNat) (by omega) hx
   rw [k1,Option.bind_some]
   dsimp only
   rw [w64 (x:=8 * (i:Int)) (by omega) (by omega),w64 (by omega) (by omega)]
   exact ⟨_,rfl,by omega,by omega,by omega⟩
theorem fg9 {a b:Bs} (ha:a.length≤100000) (hb:b.length≤100000):b63 (a,b,())=some ((((av6 a b:Nat):Int),()),()):=by
 have hA:∃ A:Int,cb1 (a,b,())=some ((A,()),())∧A / 8=av6 a b∧0≤A:=by
  show ∃ A:Int,cb0 a04 (a,b,())=_∧_
  rw [dX5]
  obtain ⟨A,h1,h2,h3,_⟩:=eL9 (n:=a04) ha hb (min a.length b.length) a04 0 (by omega) (a28 (by omega))
  exact ⟨A,h1,by simpa using h2,h3⟩
 obtain ⟨A,h1,h2,h3⟩:=hA
 rw [dJ6,h1,Option.bind_some]
 dsimp only
 rw [eJ5 h3,h2]
theorem eM0 {a b:Bs} {n:Nat} (ha:a.length≤100000) (hb:b.length≤100000):∀ (d m i:Nat),i+d=min a.length b.length→d < m→aZ9 n m a b i=some ((((i+av6 (a.drop i) (b.drop i):Nat):Int),()),()):=by
 intro d
 induction d with
 | zero=>
  intro m i hd hm
  obtain ⟨m,rfl⟩:∃ k,m=k+1:=⟨m - 1,by omega⟩
  rw [bZ1,ei2 (by
   by_cases h:a.length≤b.length
   ·exact .inl (List.drop_eq_nil_of_le (by omega))
   ·exact .inr (List.drop_eq_nil_of_le (by omega)))]
  by_cases h:(i:Int) < a.length
  ·rw [ifd h,ifn (by omega)]; rfl
  ·rw [ifn h]; rfl
 | succ d ih=>
  intro m i hd hm
  obtain ⟨m,rfl⟩:∃ k,m=k+1:=⟨m - 1,by omega⟩
  have hp:0≤(i:Int):=by omega
  have hi:i < a.length:=by omega
  have hib:i < b.length:=by omega
  rw [bZ1,ifd (by omega),ifd (by omega)]
  simp only [if_pos hp,Int.toNat_natCast,List.getElem?_eq_getElem hi,List.getElem?_eq_getElem hib,Option.bind_some]
  rw [List.drop_eq_getElem_cons hi,List.drop_eq_getElem_cons hib,av6]
  refine a09 (fun he=>?_) (fun he=>?_)
  ·have h1:=ih m (i+1) (by omega) (by omega)
   rw [show ((i+1:Nat):Int)=(i:Int)+1 by omega] at h1
   rw [if_pos (b92 he),w64 (by omega) (by omega),h1,show i+1+av6 (a.drop (i+1)) (b.drop (i+1))=i+(av6 (a.drop (i+1)) (b.drop (i+1))+1) by omega]
  ·rw [if_neg (fun e=>he (by rw [e]))]; rfl
theorem f32 {a b:Bs} (ha:a.length≤100000) (hb:b.length≤100000):ac7 (a,b,())=some ((((av6 a b:Nat):Int),()),()):=by
 show cg6 a04 (a,b,())=_
 rw [dW3]
 have:=eM0 (n:=a04) ha hb (min a.length b.length) a04 0 (by omega) (a28 (by omega))
 simpa using this
end Go.VP
namespace Go.VP
open Go Go.VI
noncomputable def dM4 (m:Msg):Bool:=a68 m && (decide (10 < m.type_) && (decide (m.type_ < 256) && decide (m.data.length < 256)))
noncomputable def az0 (m:Msg):Bool:=if m.kind=11 then dm3 m else if m.kind=12∨m.kind=13 then au8 m else if m.kind=14 then dM4 m else ao2 m
noncomputable def cl9 (m:Msg):Bs:=if m.kind=12∨m.kind=13 then (aq6 m).1 else if m.kind=14 then (aw0 m.type_ m.data).1 else (aq4 m).1
theorem aA7 {m:Msg} (h:ao2 m=true):7≤m.kind∧m.kind≤10:=by
 rcases (aj7.1 h).kinds with h | h | ⟨h,_⟩ | ⟨h,_⟩ <;> omega
theorem aO0 {m:Msg} (h:au8 m=true):m.kind=12∨m.kind=13:=by
 rcases (aj8.1 h).kinds with h | ⟨h,_⟩
 ·exact .inl h
 ·exact .inr h
theorem ex3 {m:Msg} (hk:m.kind=14):dM4 m=true↔eL1 m:=by
 unfold dM4
 simp only [Bool.and_eq_true,decide_eq_true_eq]
 exact ⟨fun ⟨a,b,c,d⟩=>⟨hk,a,⟨b,c⟩,d⟩,fun h=>⟨h.bare,h.ty.1,h.ty.2,h.len⟩⟩
theorem aG4 {m:Msg}:az0 m=true↔c25 m:=by
 unfold az0
 constructor
 ·intro h
  split at h
  ·exact .upd (dM2.1 h)
  split at h
  ·exact .route (aj8.1 h)
  split at h
  ·rename_i hk; exact .opq ((ex3 hk).1 h)
  ·exact .field (aj7.1 h)
 ·intro h
  cases h with
  | field h=>
   have hb:=aj7.2 h
   have:=aA7 hb
   rw [if_neg (by omega),if_neg (by omega),if_neg (by omega)]; exact hb
  | route h=>
   have hb:=aj8.2 h
   have:=aO0 hb
   rw [if_neg (by omega),if_pos this]; exact hb
  | upd h=>rw [if_pos h.kind]; exact dM2.2 h
  | opq h=>rw [if_neg (by have:=h.kind; omega),if_neg (by have:=h.kind; omega),if_pos h.kind]; exact (ex3 h.kind).2 h
theorem dm5 {m:Msg} (g:ai7 m):aE1 (m,())=some ((az0 m,()),()):=by
 have op:(if a68 m=true then (if (decide (10 < m.type_))=true then (if (decide (m.type_ < 256))=true then some (((decide ((m.data.length:Int) < 256)),()),()) else some ((false,()),())) else some ((false,()),())) else some ((false,()),()))=(some ((dM4 m,()),()):Option ((Bool × Unit) × Unit)):=by
  unfold dM4
  have e:decide ((m.data.length:Int) < 256)=decide (m.data.length < 256):=by rw [Bool.eq_iff_iff]; simp; omega
  rw [e]
  cases a68 m
  ·rfl
  cases decide (10 < m.type_)
  ·rfl
  cases decide (m.type_ < 256)
  ·rfl
  ·rfl
 rw [dX0,eT7 g,dZ4 g.good,b08,ew3 g.good]
 simp only [Option.bind_some,op]
 unfold az0
 refine a09 (fun h=>by rw [if_pos h]) (fun h=>?_)
 rw [if_neg h]
 refine a09 (fun h2=>?_) (fun h2=>?_)
 ·rw [if_pos (by simp [h2]),if_pos (.inl h2)]
 ·refine a09 (fun h3=>by rw [if_pos (.inr h3)]) (fun h3=>?_)
  rw [if_neg (show ¬(m.kind=12∨m.kind=13) by omega)]
  exact a09 (fun h4=>by rw [if_pos h4]) (fun h4=>by rw [if_neg h4])
theorem cV1 {m:Msg} (g:ai7 m):ax1 (m,())=some ((az0 m,()),()):=by
 have:=g.good.few.list; have:=g.good.few.subs
 rw [dI6,eg9 g.good,Option.bind_some]
 dsimp only
 cases hf:ao2 m with
 | true=>rw [ift,aG4.2 (.field (aj7.1 hf))]
 | false=>
 rw [aa1,dC1 g.good,Option.bind_some]
 dsimp only
 cases hr:au8 m with
 | true=>rw [ift,aG4.2 (.route (aj8.1 hr))]
 | false=>
 rw [aa1,eL8 g (.inr (.inr trivial)),Option.bind_some]
 dsimp only
 cases hu:dm3 m with
 | true=>rw [ift,aG4.2 (.upd (dM2.1 hu))]
 | false=>
 rw [aa1,ds5,aJ7 (by omega) (by omega)]
 unfold az0
 rw [hu,hr,hf]
 by_cases hk:m.kind=14
 ·rw [if_pos (by simp [hk]),if_neg (show ¬m.kind=11 by omega),if_neg (show ¬(m.kind=12∨m.kind=13) by omega),if_pos hk]
  unfold dM4
  have e:decide ((m.data.length:Int)≤255)=decide (m.data.length < 256):=by rw [Bool.eq_iff_iff]; simp; omega
  have e2:decide (11≤m.type_)=decide (10 < m.type_):=by rw [Bool.eq_iff_iff]; simp; omega
  have e3:decide (m.type_≤255)=decide (m.type_ < 256):=by rw [Bool.eq_iff_iff]; simp; omega
  rw [e,e2,e3]
  simp only [Option.bind_some]
  cases a68 m
  ·rfl
  cases decide (10 < m.type_)
  ·rfl
  cases decide (m.type_ < 256)
  ·rfl
  ·rfl
 ·rw [if_neg (by simp [hk])]
  have:(if m.kind=11 then false else if m.kind=12∨m.kind=13 then false else if m.kind=14 then dM4 m else false)=false:=by
   rw [if_neg hk]
   split
   ·rfl
   split
   ·rfl
   ·rfl
  rw [this]; rfl
theorem f33 {m:Msg} (g:ai7 m):bk1 (m,())=some ((cl9 m,()),()):=by
 rw [dX3,eS5 g.good,aN8,fk1 g.good]
 simp only [Option.bind_some]
 unfold cl9
 refine a09 (fun h2=>?_) (fun h2=>?_)
 ·rw [if_pos (by simp [h2]),if_pos (.inl h2)]
 ·refine a09 (fun h3=>by rw [if_pos (.inr h3)]) (fun h3=>?_)
  rw [if_neg (show ¬(m.kind=12∨m.kind=13) by omega)]
  exact a09 (fun h4=>by rw [if_pos h4]) (fun h4=>by rw [if_neg h4])
theorem dC2 {m:Msg} (h:ao2 m=false):aq4 m=([],false):=by unfold aq4; rw [h]; rfl
theorem eB6 {m:Msg} (h:au8 m=false):aq6 m=([],false):=by unfold aq6; rw [h]; rfl
theorem eT9 {m:Msg} (g:ai7 m) (h:c25 m) (hk:m.kind≠11):b90 (m,())=some ((cl9 m,()),()):=by
 rw [dJ3,eS2 g.good,Option.bind_some,eS6 g.good,Option.bind_some,au7,Option.bind_some]
 unfold cl9
 dsimp only
 cases h with
 | field h=>
  have hb:=aj7.2 h
  have:=aA7 hb
  rw [(eB0 h).1,a41,a41,if_neg (by omega),if_neg (by omega)]
 | route h=>
  have hb:=aj8.2 h
  have hk:=aO0 hb
  have hf:ao2 m=false:=by
   cases e:ao2 m with
   | false=>rfl
   | true=>have:=aA7 e; omega
  rw [dC2 hf,a83,(eB4 h).1,a41,if_pos hk]
 | upd h=>exact absurd h.kind hk
 | opq h=>
  have hkk:=h.kind
  have hf:ao2 m=false:=by
   cases e:ao2 m with
   | false=>rfl
   | true=>have:=aA7 e; omega
  have hr:au8 m=false:=by
   cases e:au8 m with
   | false=>rfl
   | true=>have:=aO0 e; omega
  rw [dC2 hf,a83,eB6 hr,a83,if_neg (by omega),if_pos hkk]
def idT (s:Bs):Bs:=(aw0 6 (idD s)).1
def dm6 (a:Bs):Bs:=(aw0 7 (dm4 a)).1
def cB8 (m:Msg) (n:Nat):Bs:=(aw0 8 (f28 m n)).1
theorem aV7 (t:Int) (d:Bs):(aw0 t d).1.length≤257:=by unfold aw0; split <;> simp; omega
abbrev mkW (b:Bs) (c:Ctx):a22:=⟨b,c.prefix_c0,c.prefix_c1,c.prefix_c2,c.prefix_c3,c.next_c0,c.next_c1,c.id⟩
theorem cO8 {b d:Bs} {c:Ctx} {t:Int} (hb:b.length≤10000):ab6 (mkW b c,t,d,())=some ((),(mkW (b++(aw0 t d).1) c,())):=by
 have:=aV7 t d
 rw [cT5,aN8,Option.bind_some]
 dsimp only
 rw [if_pos (a89 (by omega))]
theorem eU0 {b s:Bs} {c:Ctx} (hb:b.length≤10000) (hs:s.length≤10000):at9 (mkW b c,s,())=some ((),(mkW (b++idT s) (av5 c s),())):=by
 rw [d70,if_pos (a11 (by omega)),cO8 hb,Option.bind_some]; rfl
theorem fh0 {b a:Bs} {c:Ctx} {f:Int} (hb:b.length≤10000) (h:(f=0∧a.length=4)∨(f=1∧a.length=16)):ae0 (mkW b c,f,a,())=some ((),(mkW (b++dm6 a) (bD2 c f a),())):=by
 have hf:0≤f∧f < 2:=by omega
 have hal:a.length≤16:=by omega
 rw [cT6,ew0,Option.bind_some]
 unfold dm6 dm4 b46
 by_cases hl:a79 a=true
 ·rw [if_pos hl,if_pos hl]
  dsimp only
  rw [ift,if_pos (a11 (by simp; omega)),cO8 hb,Option.bind_some,if_pos hf]; rfl
 ·rw [if_neg hl,if_neg hl]
  dsimp only
  rw [aa1]
  rcases h with ⟨rfl,h⟩ | ⟨rfl,h⟩
  ·rw [if_pos (by decide),if_pos (a11 (by omega)),cO8 hb,Option.bind_some,if_pos hf,if_pos h]; rfl
  ·rw [if_neg (by decide),if_pos (a11 (by omega)),cO8 hb,Option.bind_some,if_pos hf,if_neg (show ¬a.length=4 by omega)]; rfl
theorem ex4 {ae:Int} (h:0≤ae∧ae < 4):b37 (ae,())=some ((a52 ae,()),()):=by
 rw [ea9]
 rcases aq5 h with rfl | rfl | rfl | rfl <;> rfl
theorem au9.cutl {m:Msg} (h:au9 m):((cl4 m.prefix_ m.plen).length:Int)=a87 m.plen∧a52 m.ae≤a87 m.plen∧0≤a52 m.ae:=by
 have r:=h.asR
 obtain ⟨l1,l2,l3,l4,l5,l6⟩:=an3 r.ae r.plen
 exact ⟨r.cut.1,l2,l1⟩
theorem ei3 {m:Msg} (h:au9 m):au0 (m,())=some ((aa4 m,()),()):=by
 obtain ⟨hae,hpl,hbl,h16,hbs,hp16⟩:=h.pre
 obtain ⟨c1,c2,c3⟩:=h.cutl
 rw [dX4,eE2 (by omega) (a45.2 (by omega)) (by omega),Option.bind_some,ex4 hae,Option.bind_some]
 dsimp only
 rw [if_pos (by omega)]; rfl
theorem dZ9 {m:Msg} (h:au9 m):a74 (m,())=some ((aa4 m,()),()):=by
 obtain ⟨hae,hpl,hbl,h16,hbs,hp16⟩:=h.pre
 obtain ⟨c1,c2,c3⟩:=h.cutl
 rw [ck5,eE3 (by omega) (by omega),Option.bind_some,ba9 hae,Option.bind_some]
 dsimp only
 rw [if_pos (by omega)]; rfl
def ab1 (c:Ctx) (m:Msg):Nat:=if af9 c m.ae=[] then 0 else av6 ((af9 c m.ae).drop (a52 m.ae).toNat) (aa4 m)
theorem ex5 (c:Ctx) (m:Msg):ab1 c m≤(aa4 m).length:=by
 unfold ab1; split
 ·omega
 ·exact (ex0 _ _).2
theorem fl2 {b:Bs} {c:Ctx} {m:Msg} (hc:okC c) (h:au9 m):a50 (mkW b c,m,())=some ((((ab1 c m:Nat):Int),()),(mkW b c,())):=by
 obtain ⟨hae,hpl,hbl,h16,hbs,hp16⟩:=h.pre
 have hpre:(if m.ae=0 then c.prefix_c0 else (if m.ae=1 then c.prefix_c1 else (if m.ae=2 then c.prefix_c2 else c.prefix_c3)))=af9 c m.ae:=rfl
 rw [ck8,if_pos hae]
 dsimp only
 rw [hpre]
 unfold ab1
 refine c43 (fun hq=>by rw [if_pos hq]; rfl) (fun hq=>?_)
 have hl:=bb0 hc hae hq
 have hsz:szA m.ae≤16∧a52 m.ae≤szA m.ae:=by unfold szA a52; refine ⟨?_,?_⟩ <;> (split <;> (try split) <;> (try split) <;> omega)
 rw [if_neg hq,ex4 hae,Option.bind_some]
 dsimp only
 rw [if_pos (by omega),ei3 h,Option.bind_some]
 dsimp only
 rw [fg9 (by simp; omega) (by omega),Option.bind_some]
theorem fl3 {m:Msg} {n k:Nat} {N:Nat} {x0 x1 x2:Int} {w:a22} {p0 p1 p2 p3 x6:Bs} (hx:x6.length≤100) (hs:ac8 m.subs=true) (hfs:ai8 m.subs) (hB:au0 (m,())=some ((aa4 m,()),())) (hBl:(aa4 m).length≤16) (hN:N≤(aa4 m).length) (hw:w.b.length≤10000) :
  ab2 n (k+1) N m [x0,x1,x2] 3 w p0 p1 p2 p3 x6 3=some ((),(mkW (w.b++(aw0 8 ((x6++(aa4 m).drop N)++a73 m.subs)).1) ⟨p0,p1,p2,p3,w.c_Next_c0,w.c_Next_c1,w.c_Id⟩,())):=by
 have hsl:=ay6 hs
 rw [ar9,ifn (by omega),ec1 hfs (by have:=hfs.1; have:=(aV2 hs).2; have:=b10 (l:=m.subs); omega),Option.bind_some,cO5 hs,hB,Option.bind_some]
 dsimp only
 rw [if_pos (by omega),Int.toNat_natCast,if_pos (a11 (by simp; omega)),if_pos (a11 (by simp; omega))]
 have:=cO8 (b:=w.b) (d:=(x6++(aa4 m).drop N)++a73 m.subs) (c:=⟨p0,p1,p2,p3,w.c_Next_c0,w.c_Next_c1,w.c_Id⟩) (t:=8) hw
 rw [this]; rfl
theorem ei4 {m:Msg} {n k:Nat} {N:Nat} {w:a22} {p0 p1 p2 p3 x6:Bs} (h:au9 m) (hx:x6.length≤50) (hfs:ai8 m.subs) (hN:N≤(aa4 m).length) (hw:w.b.length≤10000) :
  an0 n (k+4) N m w x6 [m.interval,m.seq,m.metric] 3 0 p0 p1 p2 p3=some ((),(mkW (w.b++(aw0 8 (x6++(be 2 m.interval++(be 2 m.seq++(be 2 m.metric++((aa4 m).drop N++a73 m.subs)))))).1) ⟨p0,p1,p2,p3,w.c_Next_c0,w.c_Next_c1,w.c_Id⟩,())):=by
 obtain ⟨hae,hpl,hbl,h16,hbs,hp16⟩:=h.pre
 have b2:∀ x,(be 2 x).length=2:=fun x=>a21 2 x
 rw [c16,ifd (by omega),if_pos (by omega)]
 show (if a66 _=true then ab2 n (k+3) N m [m.interval,m.seq,m.metric] 3 w p0 p1 p2 p3 (x6++([a01 (IntKind.wrap .u8 (a42 .i64 m.interval 8)),a01 (IntKind.wrap .u8 m.interval)])) 1 else none)=_
 rw [if_pos (a89 (by simp; omega)),be2 h.iv,ar9,ifd (by omega),if_pos (by omega)]
 show (if a66 _=true then ab2 n (k+2) N m [m.interval,m.seq,m.metric] 3 w p0 p1 p2 p3 ((x6++be 2 m.interval)++([a01 (IntKind.wrap .u8 (a42 .i64 m.seq 8)),a01 (IntKind.wrap .u8 m.seq)])) 2 else none)=_
 rw [if_pos (a89 (by simp [b2]; omega)),be2 h.sq,ar9,ifd (by omega),if_pos (by omega)]
 show (if a66 _=true then ab2 n (k+1) N m [m.interval,m.seq,m.metric] 3 w p0 p1 p2 p3 (((x6++be 2 m.interval)++be 2 m.seq)++([a01 (IntKind.wrap .u8 (a42 .i64 m.metric 8)),a01 (IntKind.wrap .u8 m.metric)])) 3 else none)=_
 rw [if_pos (a89 (by simp [b2]; omega)),be2 h.me,fl3 (by simp [b2]; omega) h.subs hfs (ei3 h) h16 hN hw]
 simp only [List.append_assoc]
theorem fh1 {b:Bs} {c:Ctx} {m:Msg} {N:Nat} (h:au9 m) (hfs:ai8 m.subs) (hN:N≤(aa4 m).length) (hb:b.length≤10000):a60 (mkW b c,m,(N:Int),())=some ((),(mkW (b++cB8 m N) (bW8 c m.ae m.prefix_),())):=by
 obtain ⟨hae,hpl,hbl,h16,hbs,hp16⟩:=h.pre
 obtain ⟨k,hk⟩:∃ k,a04=k+4:=by obtain ⟨q,e⟩:=cT7; exact ⟨q+999999999996,e⟩
 have u1:a01 (IntKind.wrap .u8 m.ae)=a01 m.ae:=u8w hae.1
 have u2:a01 (IntKind.wrap .u8 m.plen)=a01 m.plen:=u8w hpl.1
 have u3:a01 (IntKind.wrap .u8 (N:Int))=a01 N:=u8w (by omega)
 show aI1 a04 (mkW b c,m,(N:Int),())=_
 rw [cm8,u1,u2,u3]
 generalize hf:(a04:Nat)=F
 rw [hf] at hk
 unfold cB8 f28 bW8 eK9
 have hx:([a01 m.ae,128,a01 m.plen,a01 N]:Bs).length≤50:=by simp
 refine a09 (fun h0=>?_) (fun h0=>?_)
 ·rw [if_pos (by simp),if_pos (by simp),if_pos h0,if_pos h0]
  have:=ei4 (n:=F) (k:=k) (N:=N) (w:=mkW b c) (p0:=c.prefix_c0) (p1:=c.prefix_c1) (p2:=c.prefix_c2) (p3:=c.prefix_c3) (x6:=([a01 m.ae,128,a01 m.plen,a01 N]:Bs).set 1 (a01 0)) h (by simp) hfs hN hb
  rw [← hk] at this
  exact this
 ·rw [if_pos hae,if_neg h0,if_neg h0]
  have:=ei4 (n:=F) (k:=k) (N:=N) (w:=mkW b c) (p0:=if m.ae=0 then m.prefix_ else c.prefix_c0) (p1:=if m.ae=1 then m.prefix_ else c.prefix_c1) (p2:=if m.ae=2 then m.prefix_ else c.prefix_c2) (p3:=if m.ae=3 then m.prefix_ else c.prefix_c3) (x6:=[a01 m.ae,128,a01 m.plen,a01 N]) h hx hfs hN hb
  rw [← hk,if_neg h0] at this
  rw [if_neg h0]
  exact this
def e00 (c:Ctx) (m:Msg):Bs:=if m.metric=65535 then [] else (if m.id=c.id then [] else idT m.id)++(if m.next=aa0 c (a56 m.ae) then [] else dm6 m.next)
def cO9 (c:Ctx) (m:Msg):Ctx:=if m.metric=65535 then c else bD2 (av5 c m.id) (a56 m.ae) m.next
noncomputable def aJ8 (c:Ctx) (m:Msg):Bs × Ctx × Int:=
 if az0 m=false then ([],c,1) else if m.kind≠11 then (cl9 m,c,0)
 else if m.metric≠65535∧m.next=[]∧aa0 c (a56 m.ae)≠[] then ([],c,9)
 else (e00 c m++cB8 m (ab1 c m),bW8 (cO9 c m) m.ae m.prefix_,0)
theorem c27 {c:Ctx} {i:Bs} (h:i=c.id):av5 c i=c:=by subst h; rfl
theorem bL6 {c:Ctx} {f:Int} {a:Bs} (hf:f=0∨f=1) (h:a=aa0 c f):bD2 c f a=c:=by
 subst h
 rcases hf with rfl | rfl <;> rfl
theorem au9.fam {m:Msg} (h:au9 m) (hm:m.metric≠65535):(a56 m.ae=0∨a56 m.ae=1)∧(m.next≠[]→(a56 m.ae=0∧m.next.length=4)∨(a56 m.ae=1∧m.next.length=16)):=by
 have hn:=h.near hm
 have hf:=bD1 (ae:=m.ae) (by have:=h.pre.1; omega)
 refine ⟨by omega,fun hne=>?_⟩
 exact eL0 (by rcases hn.2.2 with q | q; exact absurd q hne; exact q) (by omega)
theorem eM1 {b:Bs} {c:Ctx} {m:Msg} (hc:okC c) (h:au9 m) (hfs:ai8 m.subs) (hb:b.length≤1000) :
  ((a50 (mkW b c,m,())).bind fun r6=>((a60 (r6.2.1,m,r6.1.1,())).bind fun r7=>(some ((r7.2.1.b,(a03.mk r7.2.1.c_Prefix_c0 r7.2.1.c_Prefix_c1 r7.2.1.c_Prefix_c2 r7.2.1.c_Prefix_c3 r7.2.1.c_Next_c0 r7.2.1.c_Next_c1 r7.2.1.c_Id),0,()),()):Option ((Bs × Ctx × Int × Unit) × Unit))))=some ((b++cB8 m (ab1 c m),bW8 c m.ae m.prefix_,0,()),()):=by
 rw [fl2 hc h,Option.bind_some]
 dsimp only
 rw [fh1 h hfs (ex5 c m) (by omega),Option.bind_some]
theorem cu4 {c:Ctx} {i:Bs} (hc:okC c) (h:i.length=8):okC (av5 c i):=⟨hc.1,hc.2.1,hc.2.2.1,hc.2.2.2.1,hc.2.2.2.2.1,hc.2.2.2.2.2.1,.inr h⟩
theorem ex6 {c:Ctx} {f:Int} {a:Bs} (hc:okC c) (h:(f=0∧a.length=4)∨(f=1∧a.length=16)):okC (bD2 c f a):=by
 obtain ⟨h0,h1,h2,h3,h4,h5,h6⟩:=hc
 rcases h with ⟨rfl,h⟩ | ⟨rfl,h⟩
 ·exact ⟨h0,h1,h2,h3,.inr h,h5,h6⟩
 ·exact ⟨h0,h1,h2,h3,h4,.inr h,h6⟩
theorem ec8 (s:Bs):(idT s).length≤257:=aV7 _ _
theorem dM5 (s:Bs):(dm6 s).length≤257:=aV7 _ _
theorem eU1 {c:Ctx} {m:Msg} (hc:okC c) (g:ai7 m):c15 (c,m,())=some (((aJ8 c m).1,(aJ8 c m).2.1,(aJ8 c m).2.2,()),()):=by
 rw [eo4,dm5 g,Option.bind_some]
 unfold aJ8
 dsimp only
 cases hl:az0 m with
 | false=>rw [a83,if_pos rfl]
 | true=>
 have hR:=aG4.1 hl
 rw [a41,if_neg (show ¬(true=false) by simp)]
 refine a16 (fun hk=>?_) (fun hk=>?_)
 ·rw [f33 g,Option.bind_some,if_pos hk]
 rw [if_neg (show ¬(m.kind≠11) from fun q=>q hk)]
 have h:au9 m:=by
  cases hR with
  | field h=>have:=aA7 (aj7.2 h); omega
  | route h=>have:=aO0 (aj8.2 h); omega
  | upd h=>exact h
  | opq h=>have:=h.kind; omega
 have hfs:=dp0 g.good
 unfold e00 cO9
 refine a16 (fun hm=>?_) (fun hm=>?_)
 rotate_left
 ·rw [if_neg (show ¬(m.metric≠65535∧m.next=[]∧aa0 c (a56 m.ae)≠[]) from fun q=>q.1 hm),if_pos hm,if_pos hm]
  exact eM1 hc h hfs (by simp)
 have hn:=h.near hm
 obtain ⟨hf,hop⟩:=h.fam hm
 have hf2:0≤a56 m.ae∧a56 m.ae < 2:=by omega
 have hnx:(if a56 m.ae=0 then c.next_c0 else c.next_c1)=aa0 c (a56 m.ae):=rfl
 rw [cO7,Option.bind_some]
 dsimp only
 rw [hnx,if_neg hm,if_neg hm]
 simp only [if_pos hf2]
 have hil:m.id.length≤10000:=by omega
 have nohop:∀ (b:Bs) (k:Ctx),okC k→b.length≤300→aa0 k (a56 m.ae)=aa0 c (a56 m.ae)→m.next=aa0 c (a56 m.ae)→ab1 k m=ab1 c m→
   ((a50 (mkW b k,m,())).bind fun r6=>((a60 (r6.2.1,m,r6.1.1,())).bind fun r7=>(some ((r7.2.1.b,(a03.mk r7.2.1.c_Prefix_c0 r7.2.1.c_Prefix_c1 r7.2.1.c_Prefix_c2 r7.2.1.c_Prefix_c3 r7.2.1.c_Next_c0 r7.2.1.c_Next_c1 r7.2.1.c_Id),0,()),()):Option ((Bs × Ctx × Int × Unit) × Unit))))=some ((((b++[])++cB8 m (ab1 c m)),bW8 (bD2 k (a56 m.ae) m.next) m.ae m.prefix_,0,()),()):=fun b k hk hb e1 e2 e3=>by
  rw [eM1 hk h hfs (by omega),bL6 hf (by rw [e1]; exact e2),e3,List.append_nil]
 have wihop:∀ (b:Bs) (k:Ctx),okC k→b.length≤300→m.next≠[]→ab1 k m=ab1 c m→
   ((ae0 (mkW b k,a56 m.ae,m.next,())).bind fun r5=>((a50 (r5.2.1,m,())).bind fun r6=>((a60 (r6.2.1,m,r6.1.1,())).bind fun r7=>(some ((r7.2.1.b,(a03.mk r7.2.1.c_Prefix_c0 r7.2.1.c_Prefix_c1 r7.2.1.c_Prefix_c2 r7.2.1.c_Prefix_c3 r7.2.1.c_Next_c0 r7.2.1.c_Next_c1 r7.2.1.c_Id),0,()),()):Option ((Bs × Ctx × Int × Unit) × Unit)))))=some ((((b++dm6 m.next)++cB8 m (ab1 c m)),bW8 (bD2 k (a56 m.ae) m.next) m.ae m.prefix_,0,()),()):=fun b k hk hb hne e3=>by
  have hl:=dM5 m.next
  rw [fh0 (by omega) (hop hne),Option.bind_some]
  dsimp only
  rw [eM1 (ex6 hk (hop hne)) h hfs (by simp; omega)]
  have:ab1 (bD2 k (a56 m.ae) m.next) m=ab1 k m:=rfl
  rw [this,e3]
 have hl0:ab1 (av5 c m.id) m=ab1 c m:=rfl
 have hidl:=ec8 m.id
 by_cases hne:m.next=[]
 ·rw [if_pos (by simp [hne])]
  by_cases hq:aa0 c (a56 m.ae)=[]
  ·rw [if_neg (by simp [hq]),if_neg (show ¬(m.metric≠65535∧m.next=[]∧aa0 c (a56 m.ae)≠[]) from fun q=>q.2.2 hq)]
   have e2:m.next=aa0 c (a56 m.ae):=by rw [hne,hq]
   by_cases hi:m.id=c.id
   ·rw [if_neg (by simp [hi]),if_neg (by simp [e2]),if_pos hi,if_pos e2,c27 hi]
    exact nohop [] c hc (by simp) rfl e2 rfl
   ·rw [if_pos (by simp [hi]),if_neg hi,if_pos e2,eU0 (by simp) hil,Option.bind_some]
    dsimp only
    rw [if_neg (by simp [e2])]
    exact nohop (idT m.id) (av5 c m.id) (cu4 hc hn.2.1) (by omega) rfl e2 hl0
  ·rw [if_pos (by simp [hq]),if_pos ⟨hm,hne,hq⟩]
 ·rw [if_neg (by simpa using hne),if_neg (show ¬(m.metric≠65535∧m.next=[]∧aa0 c (a56 m.ae)≠[]) from fun q=>hne q.2.1)]
  by_cases hi:m.id=c.id
  ·rw [if_neg (by simp [hi]),if_pos hi,c27 hi]
   by_cases e2:m.next=aa0 c (a56 m.ae)
   ·rw [if_neg (by simp [e2]),if_pos e2]
    exact nohop [] c hc (by simp) rfl e2 rfl
   ·rw [if_pos (by simpa using e2),if_neg e2]
    exact wihop [] c hc (by simp) hne rfl
  ·rw [if_pos (by simp [hi]),if_neg hi,eU0 (by simp) hil,Option.bind_some]
   dsimp only
   by_cases e2:m.next=aa0 c (a56 m.ae)
   ·rw [if_neg (by simp [e2]),if_pos e2]
    exact nohop (idT m.id) (av5 c m.id) (cu4 hc hn.2.1) (by omega) rfl e2 hl0
   ·rw [if_pos (by simpa using e2),if_neg e2]
    exact wihop (idT m.id) (av5 c m.id) (cu4 hc hn.2.1) (by omega) hne hl0
end Go.VP
namespace Go.VP
open Go Go.VI
theorem eU2 {s:Bs} (hs:s.length≤10000):bn9 (s,())=some ((idT s,()),()):=by
 rw [en8,if_pos (a11 (by omega)),au7,Option.bind_some]; rfl
theorem eU3 {a:Bs} (h:a79 a=true):dm4 a=3::0::a.drop 8:=by unfold dm4; rw [if_pos h]
theorem fl4 {a:Bs} (h:¬a79 a=true) (h4:a.length=4):dm4 a=1::0::a:=by unfold dm4; rw [if_neg h,if_pos h4]
theorem fh2 {a:Bs} (h:¬a79 a=true) (h4:¬a.length=4):dm4 a=2::0::a:=by unfold dm4; rw [if_neg h,if_neg h4]
theorem ei5 {a:Bs} (h:a.length=4∨a.length=16):aA4 (a,())=some ((dm6 a,()),()):=by
 rw [ea4,if_pos (a11 (by omega)),bC9]
 unfold dm6
 simp only [Option.bind_some]
 by_cases hl:a79 a=true
 ·have:=(ay4 hl).1
  rw [eU3 hl,if_neg (by simp; omega),if_pos hl,if_pos (by omega),if_pos (a11 (by simp; omega)),au7,Option.bind_some]; rfl
 ·by_cases h4:a.length=4
  ·rw [fl4 hl h4,if_pos (by simp; omega),if_pos (a11 (by omega)),if_neg hl,au7,Option.bind_some]; rfl
  ·rw [fh2 hl h4,if_neg (by simp; omega),if_neg hl,au7,Option.bind_some]; rfl
theorem ex7 {n:Int} (h:0≤n∧n < 65536):a39 (n,2,())=some ((be 2 n,()),()):=by
 have:=bL4 (n:=n) (k:=2) (a45.2 (by omega)) (by omega) (by omega)
 unfold ak5 at this
 rw [if_pos (b47.2 h)] at this
 exact this
theorem eU4 {m:Msg} {N:Nat} (h:au9 m) (hfs:ai8 m.subs) (hN:N≤(aa4 m).length):a07 (m,(N:Int),())=some ((cB8 m N,()),()):=by
 obtain ⟨hae,hpl,hbl,h16,hbs,hp16⟩:=h.pre
 have u1:a01 (IntKind.wrap .u8 m.ae)=a01 m.ae:=u8w hae.1
 have u2:a01 (IntKind.wrap .u8 m.plen)=a01 m.plen:=u8w hpl.1
 have u3:a01 (IntKind.wrap .u8 (N:Int))=a01 N:=u8w (by omega)
 have b2:∀ x,(be 2 x).length=2:=fun x=>a21 2 x
 have hsl:=ay6 h.subs
 have hsp:=dL4 hfs (by have:=hfs.1; have:=(aV2 h.subs).2; have:=b10 (l:=m.subs); omega)
 rw [cO5 h.subs] at hsp
 rw [dt6,u1,u2,u3,hsp,ex7 h.iv,ex7 h.sq,ex7 h.me,dZ9 h]
 unfold cB8 f28 eK9
 simp only [Option.bind_some]
 refine a09 (fun h0=>?_) (fun h0=>?_)
 ·rw [if_pos (a11 (by simp [b2])),if_pos (a11 (by simp [b2])),if_pos (a11 (by simp [b2])),if_pos (by omega),Int.toNat_natCast,if_pos (a11 (by simp [b2]; omega)),if_pos (a11 (by simp [b2]; omega)),au7,Option.bind_some,if_pos h0]
  simp only [List.append_assoc]; rfl
 ·rw [if_pos (a11 (by simp [b2])),if_pos (a11 (by simp [b2])),if_pos (a11 (by simp [b2])),if_pos (by omega),Int.toNat_natCast,if_pos (a11 (by simp [b2]; omega)),if_pos (a11 (by simp [b2]; omega)),au7,Option.bind_some,if_neg h0]
  simp only [List.append_assoc]; rfl
theorem f34 (m:Msg) (n:Nat):(cB8 m n).length≤257:=aV7 _ _
theorem bD5 {R:Type} {c:Ctx} {m:Msg} (hc:okC c) (h:au9 m) {U:Int→Option ((Bs × Unit) × Unit)} {K1 K2:((Bs × Unit) × Unit)→Option R} {r:Option R}
  (hr:(if m.ae=0 then (U ((ab1 c m:Nat):Int)).bind K2 else (U ((ab1 c m:Nat):Int)).bind K1)=r) :
  (if (m.ae != 0)=true then (if 0≤m.ae∧m.ae < 4 then (if (!((if m.ae=0 then c.prefix_c0 else (if m.ae=1 then c.prefix_c1 else (if m.ae=2 then c.prefix_c2 else c.prefix_c3)))==([]:Bs)))=true then (if 0≤m.ae∧m.ae < 4 then ((a82 (m.ae,())).bind fun r6=>(if 0≤r6.1.1∧r6.1.1≤((if m.ae=0 then c.prefix_c0 else (if m.ae=1 then c.prefix_c1 else (if m.ae=2 then c.prefix_c2 else c.prefix_c3))).length:Int) then ((a74 (m,())).bind fun r7=>((ac7 (((if m.ae=0 then c.prefix_c0 else (if m.ae=1 then c.prefix_c1 else (if m.ae=2 then c.prefix_c2 else c.prefix_c3))).drop r6.1.1.toNat),r7.1.1,())).bind fun r8=>(if (m.ae != 0)=true then (if 0≤m.ae∧m.ae < 4 then ((U r8.1.1).bind K1) else none) else ((U r8.1.1).bind K2)))) else none)) else none) else (if (m.ae != 0)=true then (if 0≤m.ae∧m.ae < 4 then ((U 0).bind K1) else none) else ((U 0).bind K2))) else none) else (if (m.ae != 0)=true then (if 0≤m.ae∧m.ae < 4 then ((U 0).bind K1) else none) else ((U 0).bind K2)))=r:=by
 subst hr
 obtain ⟨hae,hpl,hbl,h16,hbs,hp16⟩:=h.pre
 have hpre:(if m.ae=0 then c.prefix_c0 else (if m.ae=1 then c.prefix_c1 else (if m.ae=2 then c.prefix_c2 else c.prefix_c3)))=af9 c m.ae:=rfl
 rw [hpre]
 by_cases a0:m.ae=0
 ·have e0:af9 c m.ae=[]:=by unfold af9; rw [if_pos a0]; exact hc.1
  have l0:ab1 c m=0:=by unfold ab1; rw [if_pos e0]
  rw [if_neg (by simp [a0]),if_neg (by simp [a0]),if_pos a0,l0]; rfl
 rw [if_neg a0]
 rw [if_pos (by simp [a0]),if_pos hae]
 by_cases hq:af9 c m.ae=[]
 ·have l0:ab1 c m=0:=by unfold ab1; rw [if_pos hq]
  rw [if_neg (by simp [hq]),if_pos (by simp [a0]),if_pos hae,l0]; rfl
 ·have hl:=bb0 hc hae hq
  have hsz:szA m.ae≤16∧a52 m.ae≤szA m.ae:=by unfold szA a52; refine ⟨?_,?_⟩ <;> (split <;> (try split) <;> (try split) <;> omega)
  have l1:ab1 c m=av6 ((af9 c m.ae).drop (a52 m.ae).toNat) (aa4 m):=by unfold ab1; rw [if_neg hq]
  rw [if_pos (by simpa using hq),if_pos hae,ba9 hae,Option.bind_some]
  dsimp only
  rw [if_pos (by omega),dZ9 h,Option.bind_some]
  dsimp only
  rw [f32 (by simp; omega) (by omega),Option.bind_some]
  dsimp only
  rw [if_pos (by simp [a0]),if_pos hae,l1]
theorem fh3 {c:Ctx} {ae:Int} {a:Bs} (h:ae=0):bW8 c ae a=c:=by unfold bW8; rw [if_pos h]
theorem bb1 {c:Ctx} {ae:Int} {a:Bs} (h:ae≠0):bW8 c ae a=⟨(if ae=0 then a else c.prefix_c0),(if ae=1 then a else c.prefix_c1),(if ae=2 then a else c.prefix_c2),(if ae=3 then a else c.prefix_c3),c.next_c0,c.next_c1,c.id⟩:=by unfold bW8; rw [if_neg h,if_neg h]
theorem eU5 {c:Ctx} {m:Msg} (hc:okC c) (g:ai7 m):bH3 (c,m,())=some (((aJ8 c m).1,(aJ8 c m).2.1,(aJ8 c m).2.2,()),()):=by
 rw [ec7,cV1 g,Option.bind_some]
 unfold aJ8
 dsimp only
 cases hl:az0 m with
 | false=>rw [a83,if_pos rfl]
 | true=>
 have hR:=aG4.1 hl
 rw [a41,if_neg (show ¬(true=false) by simp)]
 refine a16 (fun hk=>?_) (fun hk=>?_)
 ·rw [eT9 g hR hk,Option.bind_some,if_pos hk]
 rw [if_neg (show ¬(m.kind≠11) from fun q=>q hk)]
 have h:au9 m:=by
  cases hR with
  | field h=>have:=aA7 (aj7.2 h); omega
  | route h=>have:=aO0 (aj8.2 h); omega
  | upd h=>exact h
  | opq h=>have:=h.kind; omega
 have hfs:=dp0 g.good
 have hle:=ex5 c m
 have hul:=f34 m (ab1 c m)
 have hidl:=ec8 m.id
 have hhl:=dM5 m.next
 have hU:=eU4 (N:=ab1 c m) h hfs hle
 unfold e00 cO9
 refine a16 (fun hm=>?_) (fun hm=>?_)
 rotate_left
 ·rw [if_neg (show ¬(m.metric≠65535∧m.next=[]∧aa0 c (a56 m.ae)≠[]) from fun q=>q.1 hm),if_pos hm,if_pos hm]
  refine bD5 (U:=fun n=>a07 (m,n,())) hc h ?_
  show (if m.ae=0 then (a07 (m,((ab1 c m:Nat):Int),())).bind _ else (a07 (m,((ab1 c m:Nat):Int),())).bind _)=_
  rw [hU]
  simp only [Option.bind_some]
  by_cases a0:m.ae=0
  ·rw [if_pos a0,if_pos (a11 (by omega)),fh3 a0]
  ·rw [if_neg a0,if_pos (a11 (by omega)),bb1 a0]
 have hn:=h.near hm
 have a0:m.ae≠0:=by omega
 obtain ⟨hf,hop⟩:=h.fam hm
 have hf2:0≤a56 m.ae∧a56 m.ae < 2:=by omega
 have hnx:(if a56 m.ae=0 then c.next_c0 else c.next_c1)=aa0 c (a56 m.ae):=rfl
 have hop':m.next≠[]→m.next.length=4∨m.next.length=16:=fun q=>by have:=hop q; omega
 rw [cl5,Option.bind_some]
 dsimp only
 rw [hnx,if_neg hm,if_neg hm]
 simp only [if_pos hf2]
 have hil:m.id.length≤10000:=by omega
 by_cases hne:m.next=[]
 ·rw [if_pos (by simp [hne])]
  by_cases hq:aa0 c (a56 m.ae)=[]
  ·rw [if_neg (by simp [hq]),if_neg (show ¬(m.metric≠65535∧m.next=[]∧aa0 c (a56 m.ae)≠[]) from fun q=>q.2.2 hq)]
   have e2:m.next=aa0 c (a56 m.ae):=by rw [hne,hq]
   have eN:∀ k:Ctx,aa0 k (a56 m.ae)=aa0 c (a56 m.ae)→bD2 k (a56 m.ae) m.next=k:=fun k hk=>bL6 hf (by rw [hk]; exact e2)
   by_cases hi:m.id=c.id
   ·rw [if_neg (by simp [hi]),if_neg (by simp [e2]),if_pos hi,if_pos e2,c27 hi,eN c rfl]
    refine bD5 (U:=fun n=>a07 (m,n,())) hc h ?_
    rw [if_neg a0]
    show (a07 (m,((ab1 c m:Nat):Int),())).bind _=_
    rw [hU]
    simp only [Option.bind_some]
    rw [if_pos (a11 (by first | omega | (simp; omega))),bb1 a0]
    simp
   ·rw [if_pos (by simp [hi]),if_neg hi,if_pos e2,eU2 hil,Option.bind_some]
    dsimp only
    rw [if_neg (by simp [e2]),eN (av5 c m.id) rfl]
    refine bD5 (U:=fun n=>a07 (m,n,())) hc h ?_
    rw [if_neg a0]
    show (a07 (m,((ab1 c m:Nat):Int),())).bind _=_
    rw [hU]
    simp only [Option.bind_some]
    rw [if_pos (a11 (by first | omega | (simp; omega))),bb1 a0]
    simp [bD2,av5]
  ·rw [if_pos (by simp [hq]),if_pos ⟨hm,hne,hq⟩]
 ·rw [if_neg (by simpa using hne),if_neg (show ¬(m.metric≠65535∧m.next=[]∧aa0 c (a56 m.ae)≠[]) from fun q=>hne q.2.1)]
  by_cases hi:m.id=c.id
  ·rw [if_neg (by simp [hi]),if_pos hi,c27 hi]
   by_cases e2:m.next=aa0 c (a56 m.ae)
   ·rw [if_neg (by simp [e2]),if_pos e2,bL6 hf e2]
    refine bD5 (U:=fun n=>a07 (m,n,())) hc h ?_
    rw [if_neg a0]
    show (a07 (m,((ab1 c m:Nat):Int),())).bind _=_
    rw [hU]
    simp only [Option.bind_some]
    rw [if_pos (a11 (by first | omega | (simp; omega))),bb1 a0]
    simp
   ·rw [if_pos (by simpa using e2),if_neg e2,ei5 (hop' hne),Option.bind_some]
    dsimp only
    rw [if_pos (a11 (by omega))]
    refine bD5 (U:=fun n=>a07 (m,n,())) hc h ?_
    rw [if_neg a0]
    show (a07 (m,((ab1 c m:Nat):Int),())).bind _=_
    rw [hU]
    simp only [Option.bind_some]
    rw [if_pos (a11 (by first | omega | (simp; omega))),bb1 a0]
    simp [bD2,av5]
  ·rw [if_pos (by simp [hi]),if_neg hi,eU2 hil,Option.bind_some]
   dsimp only
   by_cases e2:m.next=aa0 c (a56 m.ae)
   ·rw [if_neg (by simp [e2]),if_pos e2,bL6 hf (show m.next=aa0 (av5 c m.id) (a56 m.ae) from e2)]
    refine bD5 (U:=fun n=>a07 (m,n,())) hc h ?_
    rw [if_neg a0]
    show (a07 (m,((ab1 c m:Nat):Int),())).bind _=_
    rw [hU]
    simp only [Option.bind_some]
    rw [if_pos (a11 (by first | omega | (simp; omega))),bb1 a0]
    simp [bD2,av5]
   ·rw [if_pos (by simpa using e2),if_neg e2,ei5 (hop' hne),Option.bind_some]
    dsimp only
    rw [if_pos (a11 (by omega))]
    refine bD5 (U:=fun n=>a07 (m,n,())) hc h ?_
    rw [if_neg a0]
    show (a07 (m,((ab1 c m:Nat):Int),())).bind _=_
    rw [hU]
    simp only [Option.bind_some]
    rw [if_pos (a11 (by first | omega | (simp; omega))),bb1 a0]
    simp [bD2,av5]
end Go.VP
namespace Go.VP
open Go Go.VI
theorem eL1.eq {m:Msg} (h:eL1 m):do8 m.type_ m.data=m:=by
 have hx:ab0 m=some ⟨m.kind,0,0,[],0,0,[],0,0,[],0,[],0,0,0,0,0,0,0,[],[],[],m.type_,m.data,[]⟩:=by
  have hk:=h.kind
  unfold ab0; rw [if_neg (by omega),if_neg (by omega),if_neg (by omega),if_neg (by omega),if_neg (by omega),if_neg (by omega),if_neg (by omega),if_neg (by omega),if_neg (by omega),if_neg (by omega),if_neg (by omega),if_neg (by omega),if_neg (by omega),if_pos hk]
 have hb:=h.bare
 rw [a68,hx] at hb
 have:=bC8.1 hb
 rw [h.kind] at this
 exact this
theorem c25.upd_of {m:Msg} (h:c25 m) (hk:m.kind=11):au9 m:=by
 cases h with
 | field h=>have:=aA7 (aj7.2 h); omega
 | route h=>have:=aO0 (aj8.2 h); omega
 | upd h=>exact h
 | opq h=>have:=h.kind; omega
theorem eE9 {c:Ctx} {m:Msg} (hc:okC c) (h:c25 m):okC (aJ8 c m).2.1:=by
 unfold aJ8
 split
 ·exact hc
 split
 ·exact hc
 split
 ·exact hc
 rename_i hk hx
 have hu:=h.upd_of (by simpa using hk)
 have hk2:okC (cO9 c m):=by
  unfold cO9
  split
  ·exact hc
  ·rename_i hm
   obtain ⟨hf,hop⟩:=hu.fam hm
   have hc1:=cu4 (i:=m.id) hc (hu.near hm).2.1
   by_cases hne:m.next=[]
   ·have e:m.next=aa0 (av5 c m.id) (a56 m.ae):=by
     rw [hne]
     show []=aa0 c (a56 m.ae)
     cases hq:aa0 c (a56 m.ae) with
     | nil=>rfl
     | cons a b=>exact absurd ⟨hm,hne,by rw [hq]; simp⟩ hx
    rw [bL6 hf e]; exact hc1
   ·exact ex6 hc1 (hop hne)
 obtain ⟨a,b,c',d,e⟩:=cO6.1 hu.inn
 obtain ⟨h0,h1,h2,h3,h4,h5,h6⟩:=hk2
 show okC (bW8 (cO9 c m) m.ae m.prefix_)
 unfold bW8
 split
 ·exact ⟨h0,h1,h2,h3,h4,h5,h6⟩
 ·refine ⟨h0,?_,?_,?_,h4,h5,h6⟩
  ·dsimp only
   split
   ·rename_i q; rw [q] at b; right; have:szA 1=4:=rfl; omega
   ·exact h1
  ·dsimp only
   split
   ·rename_i q; rw [q] at b; right; have:szA 2=16:=rfl; omega
   ·exact h2
  ·dsimp only
   split
   ·rename_i q; exact .inr (e q)
   ·exact h3
end Go.VP
namespace Go.VP
open Go Go.VI
noncomputable def goO:Ctx→List Msg→Nat→Bs→Bs × Int × Int
 | _,[],_,b=>((c26 b).1,0,0)
 | c,m::r,i,b=>if (aJ8 c m).2.2≠0 then ([],i,(aJ8 c m).2.2) else if 65531 < ((b++(aJ8 c m).1).length:Int) then ([],i,10) else goO (aJ8 c m).2.1 r (i+1) (b++(aJ8 c m).1)
noncomputable def ec9:List Msg→Nat→Option Nat
 | [],_=>none
 | m::r,i=>if az0 m=false then some i else ec9 r (i+1)
noncomputable def f36 (l:List Msg):Bs × Int × Int:=match ec9 l 0 with
 | some i=>([],i,1)
 | none=>goO c0 l 0 []
end Go.VP
namespace Go.VP
open Go Go.VI
theorem e01 (c:Ctx) (m:Msg):(aJ8 c m).1.length≤800:=by
 have h1:=ec8 m.id; have h2:=dM5 m.next; have h3:(cB8 m (ab1 c m)).length≤257:=aV7 _ _
 have h4:(cl9 m).length≤257:=by
  unfold cl9 aq6 aq4
  split
  ·split
   ·exact aV7 _ _
   ·simp
  split
  ·exact aV7 _ _
  split
  ·exact aV7 _ _
  ·simp
 have h5:(e00 c m).length≤514:=by
  unfold e00
  split
  ·simp
  ·have a1:(if m.id=c.id then [] else idT m.id).length≤257:=by
    split
    ·simp
    ·exact h1
   have a2:(if m.next=aa0 c (a56 m.ae) then [] else dm6 m.next).length≤257:=by
    split
    ·simp
    ·exact h2
   rw [List.length_append]; omega
 unfold aJ8
 split
 ·simp
 split
 ·dsimp only; omega
 split
 ·simp
 ·dsimp only; rw [List.length_append]; omega
theorem eM2 {l:List Msg} {n:Nat} (hl:l.length≤100000) (hg:∀ m∈l,ai7 m) (hb:∀ m∈l,az0 m=true):∀ (d k i:Nat) (c:Ctx) (b:Bs),i+d=l.length→d < k→okC c→b.length≤65531→
  aB3 n k l b c.prefix_c0 c.prefix_c1 c.prefix_c2 c.prefix_c3 c.next_c0 c.next_c1 c.id i=some (a35 (goO c (l.drop i) i b),()):=by
 intro d
 induction d with
 | zero=>
  intro k i c b hd hk hc hbl
  obtain ⟨k,rfl⟩:∃ q,k=q+1:=⟨k - 1,by omega⟩
  rw [bp3,ifn (by omega),fg7 (by omega),List.drop_eq_nil_of_le (by omega)]; rfl
 | succ d ih=>
  intro k i c b hd hk hc hbl
  obtain ⟨k,rfl⟩:∃ q,k=q+1:=⟨k - 1,by omega⟩
  have hi:i < l.length:=by omega
  have hp:0≤(i:Int):=by omega
  have hm:=hb _ (List.getElem_mem hi)
  have hgm:=hg _ (List.getElem_mem hi)
  have ih':=fun c b=>ih k (i+1) c b (by omega) (by omega)
  rw [show ((i+1:Nat):Int)=(i:Int)+1 by omega] at ih'
  rw [bp3,ifd (by omega),if_pos hp,Int.toNat_natCast,a27 hi,List.drop_eq_getElem_cons hi,goO]
  generalize l[i]=m at *
  have hlen:=e01 c m
  rw [show (a03.mk c.prefix_c0 c.prefix_c1 c.prefix_c2 c.prefix_c3 c.next_c0 c.next_c1 c.id)=c from rfl,eU1 hc hgm,Option.bind_some]
  dsimp only
  refine a16 (fun he=>by rw [if_pos he]) (fun he=>?_)
  rw [if_neg (show ¬(aJ8 c m).2.2≠0 from fun q=>q he),if_pos (a89 (by omega))]
  refine a86 (fun q=>by rw [if_pos q]) (fun q=>?_)
  rw [if_neg q,w64 (by omega) (by omega)]
  exact ih' _ _ (eE9 hc (aG4.1 hm)) (by omega)
theorem eM3 {l:List Msg} {n:Nat} (hn:1000000≤n) (hl:l.length≤100000) (hg:∀ m∈l,ai7 m):∀ (d k i:Nat),i+d=l.length→d < k→(∀ m∈l.take i,az0 m=true)→
  aB2 n k l i=some (a35 (match ec9 (l.drop i) i with | some j=>([],(j:Int),1) | none=>goO c0 l 0 []),()):=by
 intro d
 induction d with
 | zero=>
  intro k i hd hk hq
  obtain ⟨k,rfl⟩:∃ q,k=q+1:=⟨k - 1,by omega⟩
  rw [List.take_of_length_le (by omega)] at hq
  have:=eM2 (n:=n) hl hg hq l.length n 0 c0 [] (by omega) (by omega) cl6 (by simp)
  rw [bp2,ifn (by omega),List.drop_eq_nil_of_le (by omega)]
  exact this
 | succ d ih=>
  intro k i hd hk hq
  obtain ⟨k,rfl⟩:∃ q,k=q+1:=⟨k - 1,by omega⟩
  have hi:i < l.length:=by omega
  have hp:0≤(i:Int):=by omega
  have ih':=ih k (i+1) (by omega) (by omega)
  rw [show ((i+1:Nat):Int)=(i:Int)+1 by omega] at ih'
  have hgm:=hg _ (List.getElem_mem hi)
  rw [bp2,ifd (by omega),if_pos hp,Int.toNat_natCast,a27 hi,dm5 hgm,Option.bind_some,List.drop_eq_getElem_cons hi,ec9]
  dsimp only
  cases hm:az0 l[i] with
  | false=>rw [a83,if_pos rfl]
  | true=>
   rw [a41,if_neg (show ¬(true=false) by simp),w64 (by omega) (by omega)]
   refine ih' (fun x hx=>?_)
   rw [List.take_succ_eq_append_getElem hi,List.mem_append,List.mem_singleton] at hx
   rcases hx with hx | rfl
   ·exact hq x hx
   ·exact hm
theorem fh4 {l:List Msg} (hl:l.length≤100000) (hg:∀ m∈l,ai7 m):bk5 (l,())=some (a35 (f36 l),()):=by
 show bk4 a04 (l,())=_
 rw [dl3]
 exact eM3 (n:=a04) (Nat.le_of_lt (a28 (by omega))) hl hg l.length a04 0 (by omega) (a28 (by omega)) (fun m hm=>by simp at hm)
theorem eB7 {l:List Msg} {n:Nat} (hl:l.length≤100000) (hg:∀ m∈l,ai7 m) (hb:∀ m∈l,az0 m=true):∀ (d k i:Nat) (c:Ctx) (b:Bs),i+d=l.length→d < k→okC c→b.length≤65531→
  aI9 n k l b c.prefix_c0 c.prefix_c1 c.prefix_c2 c.prefix_c3 c.next_c0 c.next_c1 c.id i=some (a35 (goO c (l.drop i) i b),()):=by
 intro d
 induction d with
 | zero=>
  intro k i c b hd hk hc hbl
  obtain ⟨k,rfl⟩:∃ q,k=q+1:=⟨k - 1,by omega⟩
  rw [bs5,ifn (by omega),f29 (by omega),List.drop_eq_nil_of_le (by omega)]; rfl
 | succ d ih=>
  intro k i c b hd hk hc hbl
  obtain ⟨k,rfl⟩:∃ q,k=q+1:=⟨k - 1,by omega⟩
  have hi:i < l.length:=by omega
  have hp:0≤(i:Int):=by omega
  have hm:=hb _ (List.getElem_mem hi)
  have hgm:=hg _ (List.getElem_mem hi)
  have ih':=fun c b=>ih k (i+1) c b (by omega) (by omega)
  rw [show ((i+1:Nat):Int)=(i:Int)+1 by omega] at ih'
  rw [bs5,ifd (by omega),if_pos hp,Int.toNat_natCast,a27 hi,List.drop_eq_getElem_cons hi,goO]
  generalize l[i]=m at *
  have hlen:=e01 c m
  rw [show (a03.mk c.prefix_c0 c.prefix_c1 c.prefix_c2 c.prefix_c3 c.next_c0 c.next_c1 c.id)=c from rfl,eU5 hc hgm,Option.bind_some]
  dsimp only
  refine a16 (fun he=>by rw [if_pos he]) (fun he=>?_)
  rw [if_neg (show ¬(aJ8 c m).2.2≠0 from fun q=>q he),if_pos (a11 (by omega))]
  refine a86 (fun q=>by rw [if_pos q]) (fun q=>?_)
  rw [if_neg q,w64 (by omega) (by omega)]
  exact ih' _ _ (eE9 hc (aG4.1 hm)) (by omega)
theorem eB8 {l:List Msg} {n:Nat} (hn:1000000≤n) (hl:l.length≤100000) (hg:∀ m∈l,ai7 m):∀ (d k i:Nat),i+d=l.length→d < k→(∀ m∈l.take i,az0 m=true)→
  aI8 n k l i=some (a35 (match ec9 (l.drop i) i with | some j=>([],(j:Int),1) | none=>goO c0 l 0 []),()):=by
 intro d
 induction d with
 | zero=>
  intro k i hd hk hq
  obtain ⟨k,rfl⟩:∃ q,k=q+1:=⟨k - 1,by omega⟩
  rw [List.take_of_length_le (by omega)] at hq
  have:=eB7 (n:=n) hl hg hq l.length n 0 c0 [] (by omega) (by omega) cl6 (by simp)
  rw [bs4,ifn (by omega),List.drop_eq_nil_of_le (by omega)]
  exact this
 | succ d ih=>
  intro k i hd hk hq
  obtain ⟨k,rfl⟩:∃ q,k=q+1:=⟨k - 1,by omega⟩
  have hi:i < l.length:=by omega
  have hp:0≤(i:Int):=by omega
  have ih':=ih k (i+1) (by omega) (by omega)
  rw [show ((i+1:Nat):Int)=(i:Int)+1 by omega] at ih'
  have hgm:=hg _ (List.getElem_mem hi)
  rw [bs4,ifd (by omega),if_pos hp,Int.toNat_natCast,a27 hi,cV1 hgm,Option.bind_some,List.drop_eq_getElem_cons hi,ec9]
  dsimp only
  cases hm:az0 l[i] with
  | false=>rw [a83,if_pos rfl]
  | true=>
   rw [a41,if_neg (show ¬(true=false) by simp),w64 (by omega) (by omega)]
   refine ih' (fun x hx=>?_)
   rw [List.take_succ_eq_append_getElem hi,List.mem_append,List.mem_singleton] at hx
   rcases hx with hx | rfl
   ·exact hq x hx
   ·exact hm
theorem f39 {l:List Msg} (hl:l.length≤100000) (hg:∀ m∈l,ai7 m):bB7 (l,())=some (a35 (f36 l),()):=by
 show bB6 a04 (l,())=_
 rw [dr5]
 exact eB8 (n:=a04) (Nat.le_of_lt (a28 (by omega))) hl hg l.length a04 0 (by omega) (a28 (by omega)) (fun m hm=>by simp at hm)
end Go.VP
namespace Go.VP
open Go Go.VI
def bp8 (s:Bs):Bool:=s.all (·==0)
theorem eU6 {n:Nat} {s:Bs} (hs:s.length≤1000000000):∀ (d m i:Nat),i+d=s.length→d < m→aW9 n m s i=some (((s.drop i).all (·==0),()),()):=by
 intro d
 induction d with
 | zero=>
  intro m i hd hm
  obtain ⟨m,rfl⟩:∃ k,m=k+1:=⟨m - 1,by omega⟩
  rw [bY3,ifn (by omega),List.drop_eq_nil_of_le (by omega)]; rfl
 | succ d ih=>
  intro m i hd hm
  obtain ⟨m,rfl⟩:∃ k,m=k+1:=⟨m - 1,by omega⟩
  have ha:i < s.length:=by omega
  have:=ih m (i+1) (by omega) (by omega)
  rw [show ((i+1:Nat):Int)=(i:Int)+1 by omega] at this
  rw [bY3,ifd (by omega),if_pos (by omega),Int.toNat_natCast,a27 ha,w64 (by omega) (by omega),this,List.drop_eq_getElem_cons ha,List.all_cons]
  refine a16 (fun h=>?_) (fun h=>?_)
  ·have:(s[i]==0)=false:=by
    rw [beq_eq_false_iff_ne]; intro e; rw [e] at h; exact h rfl
   rw [this]; rfl
  ·have:s[i]=0:=b92 h
   rw [this]; simp
theorem c45 {s:Bs} (hs:s.length≤1000000000):a49 (s,())=some ((bp8 s,()),()):=by
 show c62 a04 (s,())=_
 rw [dU5]
 exact eU6 hs s.length a04 0 (by omega) (a28 (by omega))
abbrev z4:Bs:=[0,0,0,0]
theorem eq5 {s:Bs} (h:s.length=4):bp8 s=true↔s=z4:=by
 match s,h with
 | [a,b,c,d],_=>simp [bp8]
theorem fd5 {s t:Bs} (h:s.length=4) (h':t.length=4):bp8 (s++t)=true↔s=z4∧t=z4:=by
 rw [← eq5 h,← eq5 h']; simp [bp8,List.all_append]
theorem cu5:a95 ()=some ((z4,()),()):=dr9
def bp9 (s:Bs):a23:=⟨num (a06 s 0 2),num (a06 s 2 2),a06 s 4 4,a06 s 8 4,a06 s 12 4,num (a06 s 16 4)⟩
theorem ed0 {s:Bs} {p q n:Int} (w:WfC s p q) (h:1≤n) (h7:n≤7) (h2:p+n≤q):ai1 (⟨s,p,q,false⟩,n,())=some ((num (a06 s p n),()),(⟨s,p+n,q,false⟩,())):=by
 rw [cN0]
 have:=ak9 w h h7 h2
 unfold cu at this
 dsimp only
 rw [this]; rfl
theorem dM6 {s:Bs} {p q:Int} (w:WfC s p q) (h2:p+4≤q):ag2 (⟨s,p,q,false⟩,())=some ((a06 s p 4,()),(⟨s,p+4,q,false⟩,())):=by
 rw [cA8]
 have:=ap0 (n:=4) w (by omega) h2
 unfold cu at this
 dsimp only
 rw [this]; rfl
theorem eU7 {s:Bs} (h:s.length=20):bE2 (s,())=some ((bp9 s,true,()),()):=by
 have w:=WfC.whole (s:=s) (by omega)
 rw [e71,if_neg (by simp [h]),bp5,Option.bind_some]
 dsimp only [cu]
 rw [ed0 w (by omega) (by omega) (by omega),Option.bind_some]
 dsimp only
 rw [ed0 (w.fwd (by omega) (by omega)) (by omega) (by omega) (by omega),Option.bind_some]
 dsimp only
 rw [dM6 ((w.fwd (n:=2) (by omega) (by omega)).fwd (by omega) (by omega)) (by omega),Option.bind_some]
 dsimp only
 rw [dM6 (((w.fwd (n:=2) (by omega) (by omega)).fwd (n:=2) (by omega) (by omega)).fwd (by omega) (by omega)) (by omega),Option.bind_some]
 dsimp only
 rw [dM6 ((((w.fwd (n:=2) (by omega) (by omega)).fwd (n:=2) (by omega) (by omega)).fwd (n:=4) (by omega) (by omega)).fwd (by omega) (by omega)) (by omega),Option.bind_some]
 dsimp only
 rw [ed0 (((((w.fwd (n:=2) (by omega) (by omega)).fwd (n:=2) (by omega) (by omega)).fwd (n:=4) (by omega) (by omega)).fwd (n:=4) (by omega) (by omega)).fwd (by omega) (by omega)) (by omega) (by omega) (by omega),Option.bind_some]
 rfl
theorem eM4 {s:Bs} (h:s.length=20):bF6 (s,())=some ((bp9 s,true,()),()):=by
 rw [e88,if_neg (by simp [h]),if_pos (by omega),at0 (by simp; omega),Option.bind_some,if_pos (by omega),at0 (by simp; omega),Option.bind_some,if_pos (by omega),if_pos (by omega),if_pos (by omega),if_pos (by omega),at0 (by simp; omega),Option.bind_some]
 have e:s.drop 16=a06 s 16 4:=by unfold a06; rw [List.take_of_length_le (by simp; omega)]; rfl
 have e2:s.take 2=a06 s 0 2:=by unfold a06; simp
 rw [e,e2]; rfl
def an4 (n:Int):Bs:=a71 [255,255,255,255] n
theorem eU8:∀ k:Fin 33,([(a01 (IntKind.wrap .u8 (a42 .u32 (a91 .u32 4294967295 (IntKind.wrap .u64 (IntKind.wrap .i64 (32 - (k.val:Int))))) 24))),(a01 (IntKind.wrap .u8 (a42 .u32 (a91 .u32 4294967295 (IntKind.wrap .u64 (IntKind.wrap .i64 (32 - (k.val:Int))))) 16))),(a01 (IntKind.wrap .u8 (a42 .u32 (a91 .u32 4294967295 (IntKind.wrap .u64 (IntKind.wrap .i64 (32 - (k.val:Int))))) 8))),(a01 (IntKind.wrap .u8 (a91 .u32 4294967295 (IntKind.wrap .u64 (IntKind.wrap .i64 (32 - (k.val:Int)))))))]:Bs)=an4 k.val:=by decide +kernel
theorem ex8 (n:Int):(an4 n).length=4:=by unfold an4; rw [ac9]; rfl
theorem fn8 {n:Int} (h:0≤n) (h':n≤32):∃ k:Fin 33,n=(k.val:Int):=⟨⟨n.toNat,by omega⟩,by simp; omega⟩
theorem dm7 {n:Int} (h:0≤n) (h':n≤32):bc4 (n,())=some ((an4 n,true,()),()):=by
 obtain ⟨k,rfl⟩:=fn8 h h'
 rw [dl1,ifn (by omega),ifn (by omega),if_pos (by rw [w64 (by omega) (by omega),ev4 (by omega) (by omega)]; omega),eU8 k]
theorem eM5 {n:Int} (h:n < 0∨32 < n):bc4 (n,())=some (([],false,()),()):=by
 rw [dl1]
 by_cases h0:n < 0
 ·rw [ifd h0]
 ·rw [ifn h0,ifd (by omega)]
theorem e02 {n:Int} (h:0≤n) (h':n≤32):bm0 (n,())=some ((an4 n,true,()),()):=by
 rw [en7,ifn (by omega),ifn (by omega),bD0 (by simp),Option.bind_some]; rfl
def b48 (s:Bs):Nat→Nat→Int × Bool
 | 0,_=>(0,false)
 | d+1,k=>if an4 k=s then ((k:Int),true) else b48 s d (k+1)
def af0 (s:Bs):Int × Bool:=b48 s 33 0
theorem eM6 {n:Nat} {s:Bs}:∀ (d m k:Nat),k+d=33→d < m→aZ1 n m s k=some (((b48 s d k).1,(b48 s d k).2,()),()):=by
 intro d
 induction d with
 | zero=>
  intro m k hk hm
  obtain ⟨m,rfl⟩:∃ k,m=k+1:=⟨m - 1,by omega⟩
  rw [bZ0,ifn (by omega)]; rfl
 | succ d ih=>
  intro m k hk hm
  obtain ⟨m,rfl⟩:∃ k,m=k+1:=⟨m - 1,by omega⟩
  have:=ih m (k+1) (by omega) (by omega)
  rw [show ((k+1:Nat):Int)=(k:Int)+1 by omega] at this
  rw [bZ0,ifd (by omega),e02 (by omega) (by omega),Option.bind_some,w64 (by omega) (by omega),this,b48]
  by_cases h:an4 k=s
  ·rw [if_pos (by simp [h]),if_pos h]
  ·rw [if_neg (by simpa using h),if_neg h]
theorem f55 {s:Bs}:cc7 (s,())=some (((af0 s).1,(af0 s).2,()),()):=by
 show cc6 a04 (s,())=_
 rw [dW1]
 exact eM6 33 a04 0 (by omega) (a28 (by omega))
theorem dm8 (s:Bs):∀ (d k:Nat),(∃ j:Nat,k≤j∧j < k+d∧b48 s d k=((j:Int),true)∧an4 j=s)∨(b48 s d k=(0,false)∧∀ j:Nat,k≤j→j < k+d→an4 j≠s)
 | 0,k=>.inr ⟨rfl,fun j h1 h2=>by omega⟩
 | d+1,k=>by
  by_cases h:an4 k=s
  ·exact .inl ⟨k,by omega,by omega,by rw [b48,if_pos h],h⟩
  ·rcases dm8 s d (k+1) with ⟨j,h1,h2,h3,h4⟩ | ⟨h3,h4⟩
   ·exact .inl ⟨j,by omega,by omega,by rw [b48,if_neg h,h3],h4⟩
   ·refine .inr ⟨by rw [b48,if_neg h,h3],fun j h1 h2=>?_⟩
    by_cases e:j=k
    ·rw [e]; exact h
    ·exact h4 j (by omega) (by omega)
theorem cB9 (s:Bs):(∃ k:Fin 33,af0 s=((k.val:Int),true)∧an4 k.val=s)∨(af0 s=(0,false)∧∀ j:Nat,j < 33→an4 j≠s):=by
 rcases dm8 s 33 0 with ⟨j,_,h2,h3,h4⟩ | ⟨h3,h4⟩
 ·exact .inl ⟨⟨j,by omega⟩,h3,h4⟩
 ·exact .inr ⟨h3,fun j h=>h4 j (by omega) (by omega)⟩
theorem eU9:∀ j:Fin 33,aq8 (2 ^ j.val - 1,())=some (((j.val:Int),()),()):=by
 intro j
 rw [bp1]
 revert j
 decide +kernel
theorem fl5 (x:Int):0≤IntKind.wrap .u8 x∧(IntKind.wrap .u8 x).toNat < 256:=by rw [wu8]; omega
theorem eV0 (x:Int):∃ r,aq8 (x,())=some ((r,()),()):=by
 rw [bp1]
 split <;> split <;>
 ·rw [if_pos (fl5 _).1,List.getElem?_eq_getElem (fl5 _).2,Option.bind_some]
  exact ⟨_,rfl⟩
theorem fl6:∀ k:Fin 33,a47 .xor .u32 (4294967295) (a47 .or .u32 (a47 .or .u32 (a47 .or .u32 (a91 .u32 (IntKind.wrap .u32 ((((an4 k.val)[0]?.getD 0).toNat:Nat):Int)) 24) (a91 .u32 (IntKind.wrap .u32 ((((an4 k.val)[1]?.getD 0).toNat:Nat):Int)) 16)) (a91 .u32 (IntKind.wrap .u32 ((((an4 k.val)[2]?.getD 0).toNat:Nat):Int)) 8)) (IntKind.wrap .u32 ((((an4 k.val)[3]?.getD 0).toNat:Nat):Int)))=2 ^ (32 - k.val) - 1:=by decide +kernel
theorem fh5 {s:Bs} (h:s.length=4):bE4 (s,())=some (((af0 s).1,(af0 s).2,()),()):=by
 rw [e74,if_neg (by simp [h]),a40 (i:=0) (by omega),Option.bind_some,a40 (i:=1) (by omega),Option.bind_some,a40 (i:=2) (by omega),Option.bind_some,a40 (i:=3) (by omega),Option.bind_some]
 rcases cB9 s with ⟨k,e,rfl⟩ | ⟨e,hn⟩
 ·rw [fl6 k,aA9]
  have:=eU9 ⟨32 - k.val,by omega⟩
  dsimp only at this
  rw [this,Option.bind_some,Option.bind_some]
  dsimp only
  have hk:=k.isLt
  rw [w64 (by omega) (by omega),show (32:Int) - ((32 - k.val:Nat):Int)=k.val by omega,dm7 (by omega) (by omega),Option.bind_some]
  dsimp only
  rw [if_neg (by simp),e]
 ·rw [aA9]
  obtain ⟨r,hr⟩:=eV0 (a47 .xor .u32 (4294967295) (a47 .or .u32 (a47 .or .u32 (a47 .or .u32 (a91 .u32 (IntKind.wrap .u32 (((s[0]?.getD 0).toNat:Nat):Int)) 24) (a91 .u32 (IntKind.wrap .u32 (((s[1]?.getD 0).toNat:Nat):Int)) 16)) (a91 .u32 (IntKind.wrap .u32 (((s[2]?.getD 0).toNat:Nat):Int)) 8)) (IntKind.wrap .u32 (((s[3]?.getD 0).toNat:Nat):Int))))
  rw [hr,Option.bind_some,Option.bind_some]
  dsimp only
  generalize IntKind.wrap .i64 (32 - r)=x
  by_cases hx:x < 0∨32 < x
  ·rw [eM5 hx,Option.bind_some]
   dsimp only
   rw [if_pos (by cases s with | nil=>simp at h | cons=>rfl),e]
  ·rw [dm7 (by omega) (by omega),Option.bind_some]
   dsimp only
   have:an4 x≠s:=by
    have:=hn x.toNat (by omega)
    rwa [show ((x.toNat:Nat):Int)=x by omega] at this
   rw [if_pos (by simpa using this),e]
theorem dM7 {s:Bs} (h:(af0 s).2=true):0≤(af0 s).1∧(af0 s).1≤32∧an4 (af0 s).1=s:=by
 rcases cB9 s with ⟨k,e,hk⟩ | ⟨e,_⟩
 ·rw [e]; have:=k.isLt; exact ⟨by simp,by simp; omega,hk⟩
 ·rw [e] at h; cases h
end Go.VP
namespace Go.VP
open Go Go.VI
def okR (m:Msg):Prop:=m.kind=1∧a68 m=true∧(m.cmd=1∨m.cmd=2)∧(m.ver=1∨m.ver=2)∧m.prefix_.length=4∧m.next.length=4∧(m.auth=[]∨(m.ver=2∧m.auth.length=18))∧
 ((m.family=0∧m.cmd=1∧m.tag=0∧m.plen=0∧m.prefix_=z4∧m.next=z4∧m.metric=16)∨
  (m.family=2∧1≤m.metric∧m.metric≤16∧
   ((m.ver=1∧m.tag=0∧m.plen=32∧m.next=z4)∨(m.ver=2∧0≤m.tag∧m.tag≤65535∧0≤m.plen∧m.plen≤32∧ah1 m.prefix_ m.plen=true))))
open Classical in
noncomputable def af2 (m:Msg):Bool:=decide (okR m)
theorem ad8 {m:Msg}:af2 m=true↔okR m:=by unfold af2; simp
structure RM (m:Msg):Prop where
 tag:IntKind.has .i64 m.tag
 plen:IntKind.has .i64 m.plen
 list:m.list.length≤1000000000
 subs:m.subs.length≤1000000000
theorem a29 {R:Type} {p:Prop} [Decidable p] {t f r:R} (h:p→t=r) (h':¬p→f=r):(if decide p=true then t else f)=r:=by
 by_cases hp:p
 ·rw [ifd hp]; exact h hp
 ·rw [ifn hp]; exact h' hp
theorem ax3 {R:Type} {b:Bool} {t f r:R} (h:b=false→t=r) (h':b=true→f=r):(if (!b)=true then t else f)=r:=by
 cases b
 ·exact h rfl
 ·exact h' rfl
theorem ex9 {R:Type} {x y:Bs} {f t r:R} (heq:x=y→t=r) (hne:x≠y→f=r):(if (x==y)=true then t else f)=r:=by
 by_cases h:x=y
 ·rw [if_pos (by simp [h])]; exact heq h
 ·rw [if_neg (by simpa using h)]; exact hne h
theorem cV2 {R:Type} {x a b:Int} {F V r:R} (h1:¬(x=a∨x=b)→F=r) (h2:(x=a∨x=b)→V=r):(if (x != a)=true then (if (x != b)=true then F else V) else V)=r:=
 a16 (fun ha=>a16 (fun hb=>h1 (by omega)) (fun hb=>h2 (.inr hb))) (fun ha=>h2 (.inl ha))
theorem fh6 {R:Type} {s:Bs} {v:Int} {F T r:R} (h1:¬(s=[]∨(v≠1∧s.length=18))→F=r) (h2:(s=[]∨(v≠1∧s.length=18))→T=r):(if (!(s==([]:Bs)))=true then (if (v==1)=true then F else (if ((s.length:Int) != 18)=true then F else T)) else T)=r:=
 c41 (fun ha=>a09 (fun hb=>h1 (by grind)) (fun hb=>a16 (fun hc=>h1 (by grind)) (fun hc=>h2 (by grind)))) (fun ha=>h2 (.inl ha))
theorem f56 {R:Type} {s:Bs} {v:Int} {F T r:R} (h1:¬(s=[]∨(v=2∧s.length=18))→F=r) (h2:(s=[]∨(v=2∧s.length=18))→T=r):(if (!(s==([]:Bs)))=true then (if (v != 2)=true then F else (if ((s.length:Int) != 18)=true then F else T)) else T)=r:=
 c41 (fun ha=>a16 (fun hb=>h1 (by grind)) (fun hb=>a16 (fun hc=>h1 (by grind)) (fun hc=>h2 (by grind)))) (fun ha=>h2 (.inl ha))
theorem eF0 {a:Bs} {n:Int} (h:a.length=4) (hn:IntKind.has .i64 n):a72 (a,n,())=some ((decide (0≤n∧n≤32) && ah1 a n,()),()):=by
 rw [bY5,if_pos (by simp [h]),dL6 (by omega) hn,Option.bind_some]
 dsimp only
 refine a29 (fun h0=>?_) (fun h0=>?_)
 ·rw [w64 (by omega) (by omega)]
  refine a29 (fun h1=>?_) (fun h1=>?_)
  ·rw [decide_eq_true (by omega)]; rfl
  ·rw [decide_eq_false (by omega)]; rfl
 ·rw [decide_eq_false (by omega)]; rfl
theorem ey0 {a:Bs} {n:Int} (h:a.length=4):aa7 (a,n,())=some ((decide (0≤n∧n≤32) && ah1 a n,()),()):=by
 rw [ck0,if_pos (by simp [h]),eg6 (by omega),Option.bind_some]
 dsimp only
 refine a29 (fun h0=>?_) (fun h0=>?_)
 ·rw [w64 (by omega) (by omega)]
  refine a29 (fun h1=>?_) (fun h1=>?_)
  ·rw [decide_eq_true (by omega)]; rfl
  ·rw [decide_eq_false (by omega)]; rfl
 ·rw [decide_eq_false (by omega)]; rfl
theorem cC0 {m:Msg} (g:RM m):aM7 (m,())=some ((af2 m,()),()):=by
 have no:¬okR m→(some ((false,()),()):Option ((Bool × Unit) × Unit))=some ((af2 m,()),()):=fun h=>by
  have:af2 m=false:=by cases e:af2 m with | false=>rfl | true=>exact absurd (ad8.1 e) h
  rw [this]
 have yes:∀ {b:Bool},(b=true↔okR m)→(some ((b,()),()):Option ((Bool × Unit) × Unit))=some ((af2 m,()),()):=fun {b} h=>by
  have:b=af2 m:=by rw [Bool.eq_iff_iff,h,ad8]
  rw [this]
 rw [e73]
 refine a16 (fun hk=>no fun h=>hk h.1) (fun hk=>?_)
 rw [b08,Option.bind_some]
 refine ax3 (fun hb=>no fun h=>by have:=h.2.1; dsimp only at hb; rw [hb] at this; cases this) (fun hb=>?_)
 dsimp only at hb
 rw [d61,Option.bind_some]
 refine ax3 (fun hp=>no fun h=>by have:=h.2.2.2.2.1; dsimp only at hp; simp at hp; omega) (fun hp=>?_)
 have hp4:m.prefix_.length=4:=by simp at hp; omega
 rw [d61,Option.bind_some]
 refine ax3 (fun hp=>no fun h=>by have:=h.2.2.2.2.2.1; dsimp only at hp; simp at hp; omega) (fun hn=>?_)
 have hn4:m.next.length=4:=by simp at hn; omega
 refine cV2 (fun hc=>no fun h=>hc h.2.2.1) (fun hc=>?_)
 refine cV2 (fun hv=>no fun h=>hv h.2.2.2.1) (fun hv=>?_)
 refine fh6 (fun ha=>no fun h=>ha (by have:=h.2.2.2.2.2.2.1; grind)) (fun ha=>?_)
 have ha':m.auth=[]∨(m.ver=2∧m.auth.length=18):=by grind
 have z8:=fd5 hp4 hn4
 have zn:=eq5 hn4
 refine a09 (fun f0=>?_) (fun f0=>?_)
 ·refine a09 (fun c1=>?_) (fun c1=>no (by grind [okR]))
  refine a09 (fun t0=>?_) (fun t0=>no (by grind [okR]))
  refine a09 (fun p0=>?_) (fun t0=>no (by grind [okR]))
  refine a09 (fun m0=>?_) (fun t0=>no (by grind [okR]))
  rw [if_pos (a11 (by omega)),c45 (by simp; omega),Option.bind_some]
  exact yes (by rw [z8]; grind [okR])
 ·refine a16 (fun f2=>no (by grind [okR])) (fun f2=>?_)
  refine a29 (fun h1=>no (by grind [okR])) (fun h1=>?_)
  refine a29 (fun h2=>no (by grind [okR])) (fun h2=>?_)
  refine a09 (fun v1=>?_) (fun v1=>?_)
  ·refine a09 (fun t0=>?_) (fun t0=>no (by grind [okR]))
   refine a09 (fun p0=>?_) (fun t0=>no (by grind [okR]))
   rw [c45 (by omega),Option.bind_some]
   exact yes (by rw [zn]; grind [okR])
  ·have ft:=ak1 (k:=2) g.tag (by omega) (by omega)
   rw [show ((2:Nat):Int)=2 from rfl] at ft
   rw [ft,Option.bind_some]
   dsimp only
   have hf:a25 m.tag 2=true↔0≤m.tag∧m.tag≤65535:=by unfold a25; rw [decide_eq_true_eq]; omega
   cases hfb:a25 m.tag 2 with
   | false=>rw [aa1]; exact no (fun h=>by
    have:¬(0≤m.tag∧m.tag≤65535):=by rw [← hf,hfb]; simp
    grind [okR])
   | true=>
    have:=hf.1 hfb
    rw [ift,eF0 hp4 g.plen,Option.bind_some]
    exact yes (by rw [Bool.and_eq_true,decide_eq_true_eq]; grind [okR])
theorem cm0 {m:Msg} (g:RM m):ax0 (m,())=some ((af2 m,()),()):=by
 have no:¬okR m→(some ((false,()),()):Option ((Bool × Unit) × Unit))=some ((af2 m,()),()):=fun h=>by
  have:af2 m=false:=by cases e:af2 m with | false=>rfl | true=>exact absurd (ad8.1 e) h
  rw [this]
 have yes:∀ {b:Bool},(b=true↔okR m)→(some ((b,()),()):Option ((Bool × Unit) × Unit))=some ((af2 m,()),()):=fun {b} h=>by
  have:b=af2 m:=by rw [Bool.eq_iff_iff,h,ad8]
  rw [this]
 rw [dH3]
 refine a16 (fun hk=>no fun h=>hk h.1) (fun hk=>?_)
 rw [aJ7 g.list g.subs,Option.bind_some]
 refine ax3 (fun hb=>no fun h=>by have:=h.2.1; dsimp only at hb; rw [hb] at this; cases this) (fun hb=>?_)
 dsimp only at hb
 refine a29 (fun h1=>no (by grind [okR])) (fun c1=>?_)
 refine a29 (fun h1=>no (by grind [okR])) (fun c2=>?_)
 refine a29 (fun h1=>no (by grind [okR])) (fun v1=>?_)
 refine a29 (fun h1=>no (by grind [okR])) (fun v2=>?_)
 refine a16 (fun h1=>no (by grind [okR])) (fun hp=>?_)
 refine a16 (fun h1=>no (by grind [okR])) (fun hn=>?_)
 have hp4:m.prefix_.length=4:=by omega
 have hn4:m.next.length=4:=by omega
 have hc:m.cmd=1∨m.cmd=2:=by omega
 have hv:m.ver=1∨m.ver=2:=by omega
 refine f56 (fun ha=>no fun h=>ha h.2.2.2.2.2.2.1) (fun ha=>?_)
 rw [cu5,Option.bind_some]
 refine a09 (fun f0=>?_) (fun f0=>?_)
 ·refine a09 (fun c1=>?_) (fun c1=>no (by grind [okR]))
  refine a09 (fun t0=>?_) (fun t0=>no (by grind [okR]))
  refine a09 (fun p0=>?_) (fun t0=>no (by grind [okR]))
  refine ex9 (fun e1=>?_) (fun t0=>no (by grind [okR]))
  rw [Option.bind_some]
  refine ex9 (fun e1=>?_) (fun t0=>no (by grind [okR]))
  exact yes (by rw [beq_iff_eq]; grind [okR])
 ·refine a16 (fun f2=>no (by grind [okR])) (fun f2=>?_)
  refine a29 (fun h1=>no (by grind [okR])) (fun h1=>?_)
  refine a29 (fun h2=>no (by grind [okR])) (fun h2=>?_)
  refine a09 (fun v1=>?_) (fun v1=>?_)
  ·refine a09 (fun t0=>?_) (fun t0=>no (by grind [okR]))
   refine a09 (fun p0=>?_) (fun t0=>no (by grind [okR]))
   rw [Option.bind_some]
   exact yes (by rw [beq_iff_eq]; grind [okR])
  ·refine a29 (fun t0=>?_) (fun t0=>no (by grind [okR]))
   refine a29 (fun t0=>?_) (fun t0=>no (by grind [okR]))
   rw [ey0 hp4,Option.bind_some]
   exact yes (by rw [Bool.and_eq_true,decide_eq_true_eq]; grind [okR])
end Go.VP
namespace Go.VP
open Go Go.VI
abbrev Ent:=a23
def a90 (cmd ver:Int) (says:Bs) (e:Ent):Msg:=⟨1,cmd,ver,says,e.family,0,e.addr,(if e.family=0 then 0 else if ver=1 then 32 else (af0 e.mask).1),e.tag,e.next,e.metric,[],0,0,0,0,0,0,0,[],[],[],0,[],[]⟩
open Classical in
noncomputable def ad1 (cmd ver:Int) (says:Bs) (alone:Bool) (e:Ent):Int:=
 if e.family=0 then (if alone=true∧e.mask=z4∧okR (a90 cmd ver says e) then 0 else 7)
 else if e.family≠2 then 4
 else if ver=1 then (if e.tag≠0∨e.mask≠z4∨e.next≠z4 then 5 else if e.metric < 1∨16 < e.metric then 6 else 0)
 else if ¬((af0 e.mask).2=true∧ah1 e.addr (af0 e.mask).1=true) then 7
 else if e.metric < 1∨16 < e.metric then 6 else 0
theorem lf {x:Msg} {v E:Int} {M:Msg} {R:Type} {S:R} (h:E=v) (h0:v≠0):∃ m',(some ((x,v,()),S):Option ((Msg × Int × Unit) × R))=some ((m',E,()),S)∧(E=0→m'=M):=⟨x,by rw [h],fun e=>absurd (h.symm.trans e) h0⟩
theorem lf0 {x:Msg} {E:Int} {M:Msg} {R:Type} {S:R} (hx:x=M) (h:E=0):∃ m',(some ((x,0,()),S):Option ((Msg × Int × Unit) × R))=some ((m',E,()),S)∧(E=0→m'=M):=⟨M,by rw [h,hx],fun _=>rfl⟩
structure ao3 (e:Ent):Prop where
 fam:0≤e.family∧e.family≤65535
 tag:0≤e.tag∧e.tag≤65535
 addr:e.addr.length=4
 mask:e.mask.length=4
 next:e.next.length=4
 metric:0≤e.metric∧e.metric≤4294967295
theorem ak2 {s:Bs} {p n:Nat} (h:p+n≤s.length):(a06 s p n).length=n:=by
 have:=a61 (s:=s) (p:=p) (n:=n) (by omega) (by omega) (by omega)
 omega
theorem ed1 {s:Bs} (h:s.length=20):ao3 (bp9 s):=by
 have h2:∀ p:Nat,p+2≤20→0≤num (a06 s p 2)∧num (a06 s p 2)≤65535:=fun p hp=>by
  have:=aF3 (a06 s p 2)
  have hl:(a06 s p 2).length=2:=ak2 (n:=2) (by omega)
  rw [hl] at this; omega
 have h4:=aF3 (a06 s 16 4)
 have hl:(a06 s 16 4).length=4:=ak2 (p:=16) (n:=4) (by omega)
 rw [hl] at h4
 exact ⟨h2 0 (by omega),h2 2 (by omega),ak2 (p:=4) (n:=4) (by omega),ak2 (p:=8) (n:=4) (by omega),ak2 (p:=12) (n:=4) (by omega),by show 0≤num (a06 s 16 4)∧_; exact ⟨h4.1,by show num (a06 s 16 4)≤_; omega⟩⟩
theorem ei6 {cmd ver:Int} {says:Bs} {e:Ent} (h:ao3 e):RM (a90 cmd ver says e):=by
 have h1:=h.tag
 refine ⟨a45.2 (by show _≤e.tag∧e.tag≤_; omega),?_,by simp [a90],by simp [a90]⟩
 rw [a45]
 show _≤(if e.family=0 then (0:Int) else if ver=1 then 32 else (af0 e.mask).1)∧(if e.family=0 then (0:Int) else if ver=1 then 32 else (af0 e.mask).1)≤_
 rcases cB9 e.mask with ⟨k,hk,_⟩ | ⟨hk,_⟩
 ·rw [hk]; have:=k.isLt; split
  ·omega
  ·split <;> simp <;> omega
 ·rw [hk]; split
  ·omega
  ·split <;> simp
theorem f69 {cmd ver:Int} {says:Bs} {alone:Bool} {e:Ent} (h:ao3 e) :
  ∃ m',ax7 (⟨cmd,ver,says,alone⟩,e,())=some ((m',ad1 cmd ver says alone e,()),((⟨cmd,ver,says,alone⟩:aC9),()))∧(ad1 cmd ver says alone e=0→m'=a90 cmd ver says e):=by
 have zm:=eq5 h.mask
 have zz:=fd5 h.mask h.next
 have rm:=ei6 (cmd:=cmd) (ver:=ver) (says:=says) h
 rw [cN1]
 dsimp only
 by_cases f0:e.family=0
 ·rw [if_pos (by simp [f0])]
  cases alone with
  | false=>rw [a83]; exact lf (v:=7) (by unfold ad1; rw [if_pos f0,if_neg (by simp)]) (by decide)
  | true=>
   rw [a41,c45 (by have:=h.mask; omega),Option.bind_some]
   dsimp only
   cases hz:bp8 e.mask with
   | false=>
    rw [a83]; exact lf (v:=7) (by unfold ad1; rw [if_pos f0,if_neg (by rw [← zm,hz]; simp)]) (by decide)
   | true=>
    have hm:=zm.1 hz
    have er:(⟨1,cmd,ver,says,e.family,0,e.addr,0,e.tag,e.next,e.metric,[],0,0,0,0,0,0,0,[],[],[],0,[],[]⟩:Msg)=a90 cmd ver says e:=by unfold a90; rw [if_pos f0]
    rw [a41,er,cC0 rm,Option.bind_some]
    dsimp only
    by_cases ho:okR (a90 cmd ver says e)
    ·rw [ad8.2 ho,a41]
     exact lf0 rfl (by unfold ad1; rw [if_pos f0,if_pos ⟨rfl,hm,ho⟩])
    ·have:af2 (a90 cmd ver says e)=false:=by cases e':af2 (a90 cmd ver says e) with | false=>rfl | true=>exact absurd (ad8.1 e') ho
     rw [this,a83]
     exact lf (v:=7) (by unfold ad1; rw [if_pos f0,if_neg (fun h=>ho h.2.2)]) (by decide)
 ·rw [if_neg (by simp [f0])]
  by_cases f2:e.family=2
  ·rw [if_neg (by simp [f2])]
   by_cases v1:ver=1
   ·subst v1
    rw [if_pos (by rfl)]
    by_cases t0:e.tag=0
    ·rw [if_neg (by simp [t0]),if_pos (a11 (by have:=h.mask; have:=h.next; omega)),c45 (by have:=h.mask; have:=h.next; simp; omega),Option.bind_some]
     dsimp only
     cases hz:bp8 (e.mask++e.next) with
     | false=>
      rw [a83]
      refine lf (v:=5) ?_ (by decide)
      unfold ad1; rw [if_neg f0,if_neg (by omega),if_pos rfl,if_pos]
      by_cases hm:e.mask=z4
      ·refine .inr (.inr fun hn=>?_); have:=zz.2 ⟨hm,hn⟩; rw [hz] at this; cases this
      ·exact .inr (.inl hm)
     | true=>
      have hm:=zz.1 hz
      rw [a41]
      by_cases m1:e.metric < 1
      ·rw [ifd m1]; exact lf (v:=6) (by unfold ad1; rw [if_neg f0,if_neg (by omega),if_pos rfl,if_neg (by grind),if_pos (.inl m1)]) (by decide)
      ·rw [ifn m1]
       by_cases m2:16 < e.metric
       ·rw [ifd m2]; exact lf (v:=6) (by unfold ad1; rw [if_neg f0,if_neg (by omega),if_pos rfl,if_neg (by grind),if_pos (.inr m2)]) (by decide)
       ·rw [ifn m2]; exact lf0 (by unfold a90; rw [if_neg f0,if_pos rfl]) (by unfold ad1; rw [if_neg f0,if_neg (by omega),if_pos rfl,if_neg (by grind),if_neg (by omega)])
    ·rw [if_pos (by simp [t0])]
     exact lf (v:=5) (by unfold ad1; rw [if_neg f0,if_neg (by omega),if_pos rfl,if_pos (.inl t0)]) (by decide)
   ·rw [if_neg (by simp [v1]),fh5 h.mask,Option.bind_some]
    dsimp only
    cases hp:(af0 e.mask).2 with
    | false=>
     rw [a83]
     exact lf (v:=7) (by unfold ad1; rw [if_neg f0,if_neg (by omega),if_neg v1,if_pos (by rw [hp]; simp)]) (by decide)
    | true=>
     have pr:=dM7 hp
     rw [a41,eF0 h.addr (a45.2 (by omega)),Option.bind_some]
     dsimp only
     rw [decide_eq_true (show 0≤(af0 e.mask).1∧(af0 e.mask).1≤32 by omega),Bool.true_and]
     cases hc:ah1 e.addr (af0 e.mask).1 with
     | false=>
      rw [a83]
      exact lf (v:=7) (by unfold ad1; rw [if_neg f0,if_neg (by omega),if_neg v1,if_pos (by rw [hc]; simp)]) (by decide)
     | true=>
      rw [a41]
      by_cases m1:e.metric < 1
      ·rw [ifd m1]; exact lf (v:=6) (by unfold ad1; rw [if_neg f0,if_neg (by omega),if_neg v1,if_neg (by simp [hp,hc]),if_pos (.inl m1)]) (by decide)
      ·rw [ifn m1]
       by_cases m2:16 < e.metric
       ·rw [ifd m2]; exact lf (v:=6) (by unfold ad1; rw [if_neg f0,if_neg (by omega),if_neg v1,if_neg (by simp [hp,hc]),if_pos (.inr m2)]) (by decide)
       ·rw [ifn m2]; exact lf0 (by unfold a90; rw [if_neg f0,if_neg v1]) (by unfold ad1; rw [if_neg f0,if_neg (by omega),if_neg v1,if_neg (by simp [hp,hc]),if_neg (by omega)])
  ·rw [if_pos (by simp [f2])]
   exact lf (v:=4) (by unfold ad1; rw [if_neg f0,if_pos f2]) (by decide)
theorem eV1 {cmd ver:Int} {says:Bs} {alone:Bool} {e:Ent} (h:ao3 e) :
  ∃ m',b75 (e,cmd,ver,says,alone,())=some ((m',ad1 cmd ver says alone e,()),())∧(ad1 cmd ver says alone e=0→m'=a90 cmd ver says e):=by
 have rm:=ei6 (cmd:=cmd) (ver:=ver) (says:=says) h
 rw [dI8]
 by_cases f0:e.family=0
 ·rw [if_pos (by simp [f0])]
  cases alone with
  | false=>rw [a83]; exact lf (v:=7) (by unfold ad1; rw [if_pos f0,if_neg (by simp)]) (by decide)
  | true=>
   rw [a41,cu5,Option.bind_some]
   dsimp only
   by_cases hm:e.mask=z4
   ·have er:(⟨1,cmd,ver,says,e.family,0,e.addr,0,e.tag,e.next,e.metric,[],0,0,0,0,0,0,0,[],[],[],0,[],[]⟩:Msg)=a90 cmd ver says e:=by unfold a90; rw [if_pos f0]
    rw [if_neg (by simp [hm]),er,cm0 rm,Option.bind_some]
    dsimp only
    by_cases ho:okR (a90 cmd ver says e)
    ·rw [ad8.2 ho,a41]
     exact lf0 rfl (by unfold ad1; rw [if_pos f0,if_pos ⟨rfl,hm,ho⟩])
    ·have:af2 (a90 cmd ver says e)=false:=by cases e':af2 (a90 cmd ver says e) with | false=>rfl | true=>exact absurd (ad8.1 e') ho
     rw [this,a83]
     exact lf (v:=7) (by unfold ad1; rw [if_pos f0,if_neg (fun h=>ho h.2.2)]) (by decide)
   ·rw [if_pos (by simpa using hm)]
    exact lf (v:=7) (by unfold ad1; rw [if_pos f0,if_neg (fun h=>hm h.2.1)]) (by decide)
 ·rw [if_neg (by simp [f0])]
  by_cases f2:e.family=2
  ·rw [if_neg (by simp [f2])]
   by_cases v1:ver=1
   ·subst v1
    rw [if_pos (by rfl)]
    by_cases t0:e.tag=0
    ·rw [if_neg (by simp [t0]),cu5,Option.bind_some]
     dsimp only
     by_cases hm:e.mask=z4
     ·rw [if_neg (by simp [hm]),Option.bind_some]
      dsimp only
      by_cases hn:e.next=z4
      ·rw [if_neg (by simp [hn])]
       by_cases m1:e.metric < 1
       ·rw [ifd m1]; exact lf (v:=6) (by unfold ad1; rw [if_neg f0,if_neg (by omega),if_pos rfl,if_neg (by grind),if_pos (.inl m1)]) (by decide)
       ·rw [ifn m1]
        by_cases m2:16 < e.metric
        ·rw [ifd m2]; exact lf (v:=6) (by unfold ad1; rw [if_neg f0,if_neg (by omega),if_pos rfl,if_neg (by grind),if_pos (.inr m2)]) (by decide)
        ·rw [ifn m2]; exact lf0 (by unfold a90; rw [if_neg f0,if_pos rfl]) (by unfold ad1; rw [if_neg f0,if_neg (by omega),if_pos rfl,if_neg (by grind),if_neg (by omega)])
      ·rw [if_pos (by simpa using hn)]
       exact lf (v:=5) (by unfold ad1; rw [if_neg f0,if_neg (by omega),if_pos rfl,if_pos (.inr (.inr hn))]) (by decide)
     ·rw [if_pos (by simpa using hm)]
      exact lf (v:=5) (by unfold ad1; rw [if_neg f0,if_neg (by omega),if_pos rfl,if_pos (.inr (.inl hm))]) (by decide)
    ·rw [if_pos (by simp [t0])]
     exact lf (v:=5) (by unfold ad1; rw [if_neg f0,if_neg (by omega),if_pos rfl,if_pos (.inl t0)]) (by decide)
   ·rw [if_neg (by simp [v1]),f55,Option.bind_some]
    dsimp only
    cases hp:(af0 e.mask).2 with
    | false=>
     rw [a83]
     exact lf (v:=7) (by unfold ad1; rw [if_neg f0,if_neg (by omega),if_neg v1,if_pos (by rw [hp]; simp)]) (by decide)
    | true=>
     have pr:=dM7 hp
     rw [a41,ey0 h.addr,Option.bind_some]
     dsimp only
     rw [decide_eq_true (show 0≤(af0 e.mask).1∧(af0 e.mask).1≤32 by omega),Bool.true_and]
     cases hc:ah1 e.addr (af0 e.mask).1 with
     | false=>
      rw [a83]
      exact lf (v:=7) (by unfold ad1; rw [if_neg f0,if_neg (by omega),if_neg v1,if_pos (by rw [hc]; simp)]) (by decide)
     | true=>
      rw [a41]
      by_cases m1:e.metric < 1
      ·rw [ifd m1]; exact lf (v:=6) (by unfold ad1; rw [if_neg f0,if_neg (by omega),if_neg v1,if_neg (by simp [hp,hc]),if_pos (.inl m1)]) (by decide)
      ·rw [ifn m1]
       by_cases m2:16 < e.metric
       ·rw [ifd m2]; exact lf (v:=6) (by unfold ad1; rw [if_neg f0,if_neg (by omega),if_neg v1,if_neg (by simp [hp,hc]),if_pos (.inr m2)]) (by decide)
       ·rw [ifn m2]; exact lf0 (by unfold a90; rw [if_neg f0,if_neg v1]) (by unfold ad1; rw [if_neg f0,if_neg (by omega),if_neg v1,if_neg (by simp [hp,hc]),if_neg (by omega)])
  ·rw [if_pos (by simp [f2])]
   exact lf (v:=4) (by unfold ad1; rw [if_neg f0,if_pos f2]) (by decide)
end Go.VP
namespace Go.VP
open Go Go.VI
def ae7 (b:Bs):Int × Int:=
 if b.length < 4 then (b.length,2) else if ¬(bt b 0=1∨bt b 0=2) then (0,4) else if ¬(bt b 1=1∨bt b 1=2) then (1,4)
 else if ¬(bt b 2=0∧bt b 3=0) then (2,5) else if ((b.length:Int) - 4) % 20≠0 then (b.length,2) else if b.length=4 then (b.length,8) else if 504 < b.length then (504,8) else (0,0)
theorem cV3 {b:Bs} (h:(ae7 b).2=0):24≤b.length∧b.length≤504∧(bt b 0=1∨bt b 0=2)∧(bt b 1=1∨bt b 1=2)∧bt b 2=0∧bt b 3=0∧((b.length:Int) - 4) % 20=0:=by
 unfold ae7 at h
 split at h
 ·simp at h
 split at h
 ·simp at h
 split at h
 ·simp at h
 split at h
 ·simp at h
 split at h
 ·simp at h
 split at h
 ·simp at h
 split at h
 ·simp at h
 ·rename_i h1 h2 h3 h4 h5 h6 h7
  exact ⟨by omega,by omega,by omega,by omega,by omega,by omega,by omega⟩
theorem cP0 {b:Bs} (h:¬b.length < 4):∃ w x y z r,b=w::x::y::z::r:=by
 match b,h with
 | w::x::y::z::r,_=>exact ⟨w,x,y,z,r,rfl⟩
 | [],h=>simp at h
 | [_],h=>simp at h
 | [_,_],h=>simp at h
 | [_,_,_],h=>simp at h
theorem fh7 {b:Bs} (hb:b.length≤100000):bZ9 (b,())=some (((ae7 b).1,(ae7 b).2,()),()):=by
 rw [en1]
 by_cases h4:b.length < 4
 ·rw [ifd (by omega)]; unfold ae7; rw [if_pos h4]
 obtain ⟨w,x,y,z,r,rfl⟩:=cP0 h4
 rw [ifn (by omega)]
 have e0:bt (w::x::y::z::r) 0=(w.toNat:Int):=rfl
 have e1:bt (w::x::y::z::r) 1=(x.toNat:Int):=rfl
 have e2:bt (w::x::y::z::r) 2=(y.toNat:Int):=rfl
 have e3:bt (w::x::y::z::r) 3=(z.toNat:Int):=rfl
 simp only [List.getElem?_cons_zero,List.getElem?_cons_succ,Option.bind_some]
 refine cV2 (fun h=>?_) (fun ha=>?_)
 ·unfold ae7; rw [if_neg h4,if_pos (by rw [e0]; exact h)]
 refine cV2 (fun h=>?_) (fun hb'=>?_)
 ·unfold ae7; rw [if_neg h4,if_neg (by rw [e0]; exact fun c=>c ha),if_pos (by rw [e1]; exact h)]
 rw [if_pos (by omega),show (List.take 4 (w::x::y::z::r)).drop 2=[y,z] from rfl,c45 (by simp),Option.bind_some]
 have hz:bp8 [y,z]=true↔((y.toNat:Int)=0∧(z.toNat:Int)=0):=by
  simp only [bp8,List.all_cons,List.all_nil,Bool.and_true,Bool.and_eq_true,beq_iff_eq]
  constructor
  ·rintro ⟨rfl,rfl⟩; exact ⟨rfl,rfl⟩
  ·rintro ⟨h1,h2⟩; exact ⟨b92 h1,b92 h2⟩
 refine ax3 (fun h=>?_) (fun hzz=>?_)
 ·unfold ae7; rw [if_neg h4,if_neg (by rw [e0]; exact fun c=>c ha),if_neg (by rw [e1]; exact fun c=>c hb'),if_pos (by rw [e2,e3,← hz]; dsimp only at h; rw [h]; simp)]
 have hzz':=hz.1 hzz
 have hL:(4:Int)≤((w::x::y::z::r).length:Int):=by omega
 generalize hLL:(w::x::y::z::r).length=L at *
 rw [w64 (by omega) (by omega),Int.tmod_eq_emod_of_nonneg (by omega),Int.tdiv_eq_ediv_of_nonneg (by omega),w64 (by omega) (by omega)]
 have hd:ae7 (w::x::y::z::r)=(if ((L:Int) - 4) % 20≠0 then ((L:Int),2) else if L=4 then ((L:Int),8) else if 504 < L then (504,8) else (0,0)):=by
  unfold ae7; rw [hLL,if_neg (by omega),if_neg (by rw [e0]; exact fun c=>c ha),if_neg (by rw [e1]; exact fun c=>c hb'),if_neg (by rw [e2,e3]; exact fun c=>c hzz')]
 rw [hd]
 refine a29 (fun h=>?_) (fun h5=>?_)
 ·rw [if_pos (by omega)]
 rw [if_neg (show ¬((L:Int) - 4) % 20≠0 by omega)]
 refine a09 (fun h=>?_) (fun h6=>?_)
 ·rw [if_pos (by omega)]
 rw [if_neg (show ¬L=4 by omega)]
 refine a29 (fun h=>?_) (fun h7=>?_)
 ·rw [if_pos (by omega)]
 ·rw [if_neg (by omega)]
theorem fa0 {b:Bs} (hb:b.length≤100000):bl6 (b,())=some (((ae7 b).1,(ae7 b).2,()),()):=by
 rw [dW0]
 by_cases h4:b.length < 4
 ·rw [ifd (by omega)]; unfold ae7; rw [if_pos h4]
 obtain ⟨w,x,y,z,r,rfl⟩:=cP0 h4
 rw [ifn (by omega)]
 have e0:bt (w::x::y::z::r) 0=(w.toNat:Int):=rfl
 have e1:bt (w::x::y::z::r) 1=(x.toNat:Int):=rfl
 have e2:bt (w::x::y::z::r) 2=(y.toNat:Int):=rfl
 have e3:bt (w::x::y::z::r) 3=(z.toNat:Int):=rfl
 simp only [List.getElem?_cons_zero,List.getElem?_cons_succ,Option.bind_some]
 have bad0:¬((w.toNat:Int)=1∨(w.toNat:Int)=2)→ae7 (w::x::y::z::r)=(0,4):=fun h=>by
  unfold ae7; rw [if_neg h4,if_pos (by rw [e0]; exact h)]
 refine a29 (fun h=>?_) (fun ha=>?_)
 ·rw [bad0 (by omega)]
 refine a29 (fun h=>?_) (fun ha2=>?_)
 ·rw [bad0 (by omega)]
 have bad1:¬((x.toNat:Int)=1∨(x.toNat:Int)=2)→ae7 (w::x::y::z::r)=(1,4):=fun h=>by
  unfold ae7; rw [if_neg h4,if_neg (by rw [e0]; omega),if_pos (by rw [e1]; exact h)]
 refine a29 (fun h=>?_) (fun hb1=>?_)
 ·rw [bad1 (by omega)]
 refine a29 (fun h=>?_) (fun hb2=>?_)
 ·rw [bad1 (by omega)]
 have bad2:¬((y.toNat:Int)=0∧(z.toNat:Int)=0)→ae7 (w::x::y::z::r)=(2,5):=fun h=>by
  unfold ae7; rw [if_neg h4,if_neg (by rw [e0]; omega),if_neg (by rw [e1]; omega),if_pos (by rw [e2,e3]; exact h)]
 refine a16 (fun h=>?_) (fun hy=>?_)
 ·rw [bad2 (by omega)]
 refine a16 (fun h=>?_) (fun hz=>?_)
 ·rw [bad2 (by omega)]
 generalize hLL:(w::x::y::z::r).length=L at *
 rw [w64 (by omega) (by omega),Int.tmod_eq_emod_of_nonneg (by omega)]
 have hd:ae7 (w::x::y::z::r)=(if ((L:Int) - 4) % 20≠0 then ((L:Int),2) else if L=4 then ((L:Int),8) else if 504 < L then (504,8) else (0,0)):=by
  unfold ae7; rw [hLL,if_neg (by omega),if_neg (by rw [e0]; omega),if_neg (by rw [e1]; omega),if_neg (by rw [e2,e3]; exact fun c=>c ⟨hy,hz⟩)]
 rw [hd]
 refine a16 (fun h=>?_) (fun h5=>?_)
 ·rw [if_pos (by omega)]
 rw [if_neg (show ¬((L:Int) - 4) % 20≠0 by omega)]
 refine a09 (fun h=>?_) (fun h6=>?_)
 ·rw [if_pos (by omega)]
 rw [if_neg (show ¬L=4 by omega)]
 refine a29 (fun h=>?_) (fun h7=>?_)
 ·rw [if_pos (by omega)]
 ·rw [if_neg (by omega)]
def goR (f:Ent→Msg × Int) (b:Bs):Nat→Nat→List Msg→List Msg × Int × Int
 | 0,_,acc=>(acc,0,0)
 | k+1,at_,acc=>if (f (bp9 (a06 b at_ 20))).2≠0 then ([],(at_:Int),(f (bp9 (a06 b at_ 20))).2) else goR f b k (at_+20) (acc++[(f (bp9 (a06 b at_ 20))).1])
noncomputable def rt (cmd ver:Int) (says:Bs) (alone:Bool) (e:Ent):Msg × Int:=(a90 cmd ver says e,ad1 cmd ver says alone e)
theorem eq6:am8≤100000:=Nat.le_of_ble_eq_true (by kernel_rfl)
theorem e03 {n:Nat} {b:Bs} {cmd ver:Int} {says:Bs} {alone:Bool} (hb:b.length≤100000):∀ (k m at_:Nat) (acc:List Msg),at_+20 * k=b.length→k < m→acc.length+k≤10000→
  ap4 n m b at_ acc cmd ver says alone=some (((goR (rt cmd ver says alone) b k at_ acc).1,(goR (rt cmd ver says alone) b k at_ acc).2.1,(goR (rt cmd ver says alone) b k at_ acc).2.2,()),()):=by
 intro k
 induction k with
 | zero=>
  intro m at_ acc h hm ha
  obtain ⟨m,rfl⟩:∃ k,m=k+1:=⟨m - 1,by omega⟩
  rw [cj8,ifn (by omega)]; rfl
 | succ k ih=>
  intro m at_ acc h hm ha
  obtain ⟨m,rfl⟩:∃ k,m=k+1:=⟨m - 1,by omega⟩
  have hl:(a06 b at_ 20).length=20:=ak2 (n:=20) (by omega)
  obtain ⟨m',er,hm'⟩:=f69 (cmd:=cmd) (ver:=ver) (says:=says) (alone:=alone) (ed1 hl)
  rw [cj8,ifd (by omega),w64 (by omega) (by omega),if_pos (by omega)]
  rw [show (List.take ((at_:Int)+20).toNat b).drop ((at_:Int)).toNat=a06 b at_ 20 from rfl,eU7 hl,Option.bind_some]
  dsimp only
  rw [er,Option.bind_some]
  dsimp only
  refine a16 (fun he=>?_) (fun he=>?_)
  ·rw [goR,if_pos (show (rt cmd ver says alone (bp9 (a06 b at_ 20))).2≠0 from he)]; rfl
  ·have:=ih m (at_+20) (acc++[m']) (by omega) (by omega) (by simp; omega)
   rw [show ((at_+20:Nat):Int)=(at_:Int)+20 by omega] at this
   have hbo:=eq6
   rw [if_pos (a89 (by rw [show (acc.length + [m'].length)=acc.length+1 from rfl]; exact Nat.le_trans (Nat.mul_le_mul (show acc.length+1≤10000 by omega) hbo) (by decide))),this,goR,if_neg (show ¬(rt cmd ver says alone (bp9 (a06 b at_ 20))).2≠0 from fun c=>c he),hm' he]; rfl
theorem dC3 {n:Nat} {b:Bs} {cmd ver:Int} {says:Bs} {alone:Bool} {st:Int} (hb:b.length≤100000) (h2:2≤b.length) (hs:0≤st∧st≤100000) (hc:cmd=bt b 0) (hv:ver=bt b 1) (hal:alone=(((b.length:Int) - st)==20)):∀ (k m at_:Nat) (acc:List Msg),at_+20 * k=b.length→k < m→acc.length+k≤10000→
  aj2 n m b st says acc at_=some (((goR (rt cmd ver says alone) b k at_ acc).1,(goR (rt cmd ver says alone) b k at_ acc).2.1,(goR (rt cmd ver says alone) b k at_ acc).2.2,()),()):=by
 intro k
 induction k with
 | zero=>
  intro m at_ acc h hm ha
  obtain ⟨m,rfl⟩:∃ k,m=k+1:=⟨m - 1,by omega⟩
  rw [bK7,ifn (by omega)]; rfl
 | succ k ih=>
  intro m at_ acc h hm ha
  obtain ⟨m,rfl⟩:∃ k,m=k+1:=⟨m - 1,by omega⟩
  have hl:(a06 b at_ 20).length=20:=ak2 (n:=20) (by omega)
  obtain ⟨m',er,hm'⟩:=eV1 (cmd:=cmd) (ver:=ver) (says:=says) (alone:=alone) (ed1 hl)
  rw [bK7,ifd (by omega),w64 (x:=(at_:Int)+20) (by omega) (by omega),if_pos (by omega)]
  rw [show (List.take ((at_:Int)+20).toNat b).drop ((at_:Int)).toNat=a06 b at_ 20 from rfl,eM4 hl,Option.bind_some,a40 (i:=0) (by omega),Option.bind_some,a40 (i:=1) (by omega),Option.bind_some]
  rw [am4,am4,w64 (x:=(b.length:Int) - st) (by omega) (by omega),← hal]
  have e0:(((b[0]?.getD 0).toNat:Nat):Int)=cmd:=hc.symm
  have e1:(((b[1]?.getD 0).toNat:Nat):Int)=ver:=hv.symm
  rw [e0,e1]
  dsimp only
  rw [er,Option.bind_some]
  dsimp only
  refine a16 (fun he=>?_) (fun he=>?_)
  ·rw [goR,if_pos (show (rt cmd ver says alone (bp9 (a06 b at_ 20))).2≠0 from he)]; rfl
  ·have:=ih m (at_+20) (acc++[m']) (by omega) (by omega) (by simp; omega)
   rw [show ((at_+20:Nat):Int)=(at_:Int)+20 by omega] at this
   have hbo:=eq6
   rw [if_pos (a89 (by rw [show (acc.length + [m'].length)=acc.length+1 from rfl]; exact Nat.le_trans (Nat.mul_le_mul (show acc.length+1≤10000 by omega) hbo) (by decide))),this,goR,if_neg (show ¬(rt cmd ver says alone (bp9 (a06 b at_ 20))).2≠0 from fun c=>c he),hm' he]; rfl
def aJ9 (b:Bs):Bool:=b.take 2==[255,255]
theorem fh8 {s:Bs} (h:s.length=20):c00 (s,())=some (((if aJ9 s=true then s.drop 2 else []),aJ9 s,()),()):=by
 rw [en2,cA7,b07,ao9]
 rw [ifd (by simp; omega),if_pos (by simp; omega),Option.bind_some]
 rw [show (([255,255]:Bs).length:Int).toNat=2 from rfl]
 cases ha:aJ9 s with
 | false=>
  have:(s.take 2==[255,255])=false:=ha
  rw [this]; rfl
 | true=>
  have:(s.take 2==[255,255])=true:=ha
  rw [this]
  dsimp only
  rw [a41,if_pos (by simp; omega),Option.bind_some,Option.bind_some]
  dsimp only
  rw [a41,if_neg (by simp; omega),if_pos rfl]
theorem eV2 {s:Bs} (h:s.length=20):bl7 (s,())=some ((aJ9 s,()),()):=by
 match s,h with
 | x::y::r,h=>
  rw [en6,if_pos (by simp at h ⊢; omega)]
  simp only [List.getElem?_cons_zero,List.getElem?_cons_succ,Option.bind_some]
  have e:aJ9 (x::y::r)=((x==255) && (y==255)):=by simp [aJ9]
  have k:∀ v:UInt8,(((v.toNat:Int)==255):Bool)=(v==255):=fun v=>by
   rw [Bool.eq_iff_iff,beq_iff_eq,beq_iff_eq]
   exact ⟨fun h=>b92 h,fun h=>by rw [h]; rfl⟩
  rw [k,k,e]
  cases (x==255) <;> rfl
theorem fa1 {s:Bs} (h:s.length=20) (ha:aJ9 s=true):bF5 (s,())=some ((s.drop 2,true,()),()):=by
 rw [e87,eV2 h,Option.bind_some,ha]
 dsimp only
 rw [a41,if_pos (by omega)]
noncomputable def a93 (b:Bs):List Msg × Int × Int:=
 if (ae7 b).2≠0 then ([],(ae7 b).1,(ae7 b).2)
 else if bt b 1=2∧aJ9 (a06 b 4 20)=true then
  (if b.length=24 then ([],24,8) else goR (rt (bt b 0) (bt b 1) ((a06 b 4 20).drop 2) (decide (b.length=44))) b ((b.length - 24) / 20) 24 [])
 else goR (rt (bt b 0) (bt b 1) [] (decide (b.length=24))) b ((b.length - 4) / 20) 4 []
theorem eF1 (a c:Nat):(((a:Int)==(c:Int)):Bool)=decide (a=c):=by
 rw [Bool.eq_iff_iff,beq_iff_eq,decide_eq_true_eq]; omega
theorem fa2 {b:Bs} (hb:b.length≤100000):cw6 (b,())=some (((a93 b).1,(a93 b).2.1,(a93 b).2.2,()),()):=by
 show cw5 a04 (b,())=_
 rw [e75,fh7 hb,Option.bind_some]
 dsimp only
 refine a16 (fun he=>?_) (fun he=>?_)
 ·unfold a93; rw [if_pos he]
 obtain ⟨h1,h2,h3,h4,_,_,h5⟩:=cV3 he
 have hl:(a06 b 4 20).length=20:=ak2 (p:=4) (n:=20) (by omega)
 rw [a40 (i:=0) (by omega),Option.bind_some,a40 (i:=1) (by omega),Option.bind_some,if_pos (by omega),show (List.take 24 b).drop 4=a06 b 4 20 from rfl,fh8 hl,Option.bind_some,am4,am4]
 have e0:bt b 0=(((b[0]?.getD 0).toNat:Nat):Int):=rfl
 have e1:bt b 1=(((b[1]?.getD 0).toNat:Nat):Int):=rfl
 rw [← e0,← e1]
 have L4:=e03 (n:=a04) (cmd:=bt b 0) (ver:=bt b 1) (says:=[]) (alone:=decide (b.length=24)) hb ((b.length - 4) / 20) a04 4 [] (by omega) (a28 (by omega)) (by simp; omega)
 have no:¬(bt b 1=2∧aJ9 (a06 b 4 20)=true)→(if ((4:Int)==(b.length:Int))=true then (some (([],4,8,()),()):Option ((List Msg × Int × Int × Unit) × Unit)) else (ap4 a04 a04 b 4 [] (bt b 0) (bt b 1) ([]:List UInt8) ((b.length:Int)==24)))=some (((a93 b).1,(a93 b).2.1,(a93 b).2.2,()),()):=fun hn=>by
  rw [if_neg (by simp; omega),show (((b.length:Int)==24):Bool)=decide (b.length=24) from eF1 _ 24,show (4:Int)=((4:Nat):Int) from rfl,L4]
  unfold a93; rw [if_neg (fun c=>c he),if_neg hn]
 dsimp only
 cases ha:aJ9 (a06 b 4 20) with
 | false=>rw [aa1]; exact no (by rw [ha]; simp)
 | true=>
  rw [ift]
  refine a09 (fun hv=>?_) (fun hv=>no (fun c=>hv c.1))
  have hp:a93 b=(if b.length=24 then ([],24,8) else goR (rt (bt b 0) (bt b 1) ((a06 b 4 20).drop 2) (decide (b.length=44))) b ((b.length - 24) / 20) 24 []):=by
   unfold a93; rw [if_neg (fun c=>c he),if_pos ⟨hv,ha⟩]
  rw [hp]
  refine a09 (fun hq=>?_) (fun hq=>?_)
  ·rw [if_pos (by omega)]
  ·have L24:=e03 (n:=a04) (cmd:=bt b 0) (ver:=bt b 1) (says:=(a06 b 4 20).drop 2) (alone:=decide (b.length=44)) hb ((b.length - 24) / 20) a04 24 [] (by omega) (a28 (by omega)) (by simp; omega)
   rw [ift,if_neg (show ¬b.length=24 by omega),show (((b.length:Int)==44):Bool)=decide (b.length=44) from eF1 _ 44,show (24:Int)=((24:Nat):Int) from rfl,L24]
theorem eV3 {b:Bs} (hb:b.length≤100000):bU4 (b,())=some (((a93 b).1,(a93 b).2.1,(a93 b).2.2,()),()):=by
 show bU3 a04 (b,())=_
 rw [dI9,fa0 hb,Option.bind_some]
 dsimp only
 refine a16 (fun he=>?_) (fun he=>?_)
 ·unfold a93; rw [if_pos he]
 obtain ⟨h1,h2,h3,h4,_,_,h5⟩:=cV3 he
 have hl:(a06 b 4 20).length=20:=ak2 (p:=4) (n:=20) (by omega)
 rw [a40 (i:=1) (by omega),Option.bind_some]
 have e1:bt b 1=(((b[1]?.getD 0).toNat:Nat):Int):=rfl
 rw [← e1]
 have L4:=dC3 (n:=a04) (cmd:=bt b 0) (ver:=bt b 1) (says:=[]) (alone:=decide (b.length=24)) (st:=4) hb (by omega) (by omega) rfl rfl (by rw [Bool.eq_iff_iff,beq_iff_eq,decide_eq_true_eq]; omega) ((b.length - 4) / 20) a04 4 [] (by omega) (a28 (by omega)) (by simp; omega)
 have no:¬(bt b 1=2∧aJ9 (a06 b 4 20)=true)→(aj2 a04 a04 b 4 ([]:List UInt8) [] 4)=some (((a93 b).1,(a93 b).2.1,(a93 b).2.2,()),()):=fun hn=>by
  have:=L4
  rw [show (((4:Nat):Int))=4 from rfl] at this
  rw [this]
  unfold a93; rw [if_neg (fun c=>c he),if_neg hn]
 refine a09 (fun hv=>?_) (fun hv=>no (fun c=>hv c.1))
 rw [if_pos (by omega),show (List.take 24 b).drop 4=a06 b 4 20 from rfl,eV2 hl,Option.bind_some]
 dsimp only
 cases ha:aJ9 (a06 b 4 20) with
 | false=>rw [aa1]; exact no (by rw [ha]; simp)
 | true=>
  rw [ift,if_pos (by omega),fa1 hl ha,Option.bind_some]
  have hp:a93 b=(if b.length=24 then ([],24,8) else goR (rt (bt b 0) (bt b 1) ((a06 b 4 20).drop 2) (decide (b.length=44))) b ((b.length - 24) / 20) 24 []):=by
   unfold a93; rw [if_neg (fun c=>c he),if_pos ⟨hv,ha⟩]
  rw [hp]
  refine a09 (fun hq=>?_) (fun hq=>?_)
  ·rw [if_pos (by omega)]
  ·have L24:=dC3 (n:=a04) (cmd:=bt b 0) (ver:=bt b 1) (says:=(a06 b 4 20).drop 2) (alone:=decide (b.length=44)) (st:=24) hb (by omega) (by omega) rfl rfl (by rw [Bool.eq_iff_iff,beq_iff_eq,decide_eq_true_eq]; omega) ((b.length - 24) / 20) a04 24 [] (by omega) (a28 (by omega)) (by simp; omega)
   rw [show (((24:Nat):Int))=24 from rfl] at L24
   dsimp only
   rw [if_neg (show ¬b.length=24 by omega),L24]
end Go.VP
namespace Go.VP
open Go Go.VI
theorem fl7 {x:Int} (h:0≤x):a42 .i64 x 8=x / 256:=by
 unfold a42
 rw [show (2:Int) ^ (min (8:Int).toNat IntKind.i64.bits)=256 by decide]
 exact Int.fdiv_eq_ediv_of_nonneg _ (by decide)
theorem ei7 {c:Nat}:∀ (i m:Nat) (x:Int) (acc:Bs),i≤acc.length→acc.length≤100→i < m→0≤x→aK8 c m x ((i:Int) - 1) acc=some ((be i x++acc.drop i,true,()),())
 | 0,m,x,acc,h1,h2,hm,hx=>by
  obtain ⟨m,rfl⟩:∃ k,m=k+1:=⟨m - 1,by omega⟩
  rw [aJ4,ifn (by omega)]; simp [be]
 | i+1,m,x,acc,h1,h2,hm,hx=>by
  obtain ⟨m,rfl⟩:∃ k,m=k+1:=⟨m - 1,by omega⟩
  have e:(((i+1:Nat):Int) - 1)=(i:Int):=by omega
  rw [aJ4,e,ifd (by omega),if_pos (by omega),Int.toNat_natCast,if_pos (by omega),w64 (by omega) (by omega),fl7 hx,ei7 i m (x / 256) _ (by simp; omega) (by simp; omega) (by omega) (by omega),wu8,be]
  have:(acc.set i (a01 (x % 256))).drop i=a01 (x % 256)::acc.drop (i+1):=by
   rw [List.drop_eq_getElem_cons (by simp; omega),List.getElem_set_self,List.drop_set_of_lt (by omega)]
  rw [this]; simp
theorem dp1 {n:Int} {k:Nat} (hn:IntKind.has .i64 n) (h1:1≤k) (h7:k≤7) (hf:a25 n k=true):ad7 (n,(k:Int),())=some ((be k n,true,()),()):=by
 show bE8 a04 (n,(k:Int),())=_
 have h0:0≤n:=by unfold a25 at hf; rw [decide_eq_true_eq] at hf; exact hf.1
 rw [cN7,ak1 hn h1 h7,Option.bind_some,hf]
 dsimp only
 have hr:(k:Int)≤a98:=by unfold a98; omega
 rw [a41,if_pos ⟨by omega,hr⟩,w64 (by omega) (by omega),Int.toNat_natCast,ei7 k a04 n _ (by simp) (by simp; omega) (a28 (by omega)) h0]
 simp
def ed2 (e:Ent):Bs:=be 2 e.family++be 2 e.tag++e.addr++e.mask++e.next++be 4 e.metric
theorem ed3 {n:Int} (h:0≤n∧n≤65535):a25 n 2=true:=by unfold a25; rw [decide_eq_true_eq]; omega
theorem fa3 {n:Int} (h:0≤n∧n≤4294967295):a25 n 4=true:=by unfold a25; rw [decide_eq_true_eq]; omega
theorem eV4 {e:Ent} (h:ao3 e):aN1 (e,())=some ((ed2 e,true,()),()):=by
 have h1:=h.addr; have h2:=h.mask; have h3:=h.next; have h4:=h.fam; have h5:=h.tag; have h6:=h.metric
 have hf:IntKind.has .i64 e.family:=a45.2 (by omega)
 have ht:IntKind.has .i64 e.tag:=a45.2 (by omega)
 have hm:IntKind.has .i64 e.metric:=a45.2 (by omega)
 have a1:=ak1 (k:=4) hm (by omega) (by omega)
 have a2:=ak1 (k:=2) hf (by omega) (by omega)
 have a3:=ak1 (k:=2) ht (by omega) (by omega)
 have b1:=dp1 (k:=2) hf (by omega) (by omega) (ed3 h4)
 have b2:=dp1 (k:=2) ht (by omega) (by omega) (ed3 h5)
 have b3:=dp1 (k:=4) hm (by omega) (by omega) (fa3 h6)
 rw [fa3 h6] at a1; rw [ed3 h4] at a2; rw [ed3 h5] at a3
 rw [show ((2:Nat):Int)=2 from rfl] at *
 rw [show ((4:Nat):Int)=4 from rfl] at *
 rw [eb4,if_neg (by simp; omega),if_neg (by simp; omega),if_neg (by simp; omega),a1,Option.bind_some]
 dsimp only
 rw [a41,a2,Option.bind_some]
 dsimp only
 rw [a41,a3,Option.bind_some]
 dsimp only
 rw [a41,b1,Option.bind_some,b2,Option.bind_some,b3,Option.bind_some]
 dsimp only
 have l2:=a21 2
 have l4:=a21 4
 rw [if_pos (a11 (by simp [l2])),if_pos (a11 (by simp [l2,h1])),if_pos (a11 (by simp [l2,h1,h2])),if_pos (a11 (by simp [l2,h1,h2,h3])),if_pos (a11 (by simp [l2,l4,h1,h2,h3]))]
 rfl
theorem eq7 {n:Int} {k:Nat} (hf:a25 n k=true):ak5 n k=(be k n,true):=by unfold ak5; rw [if_pos hf]
theorem eM7 {e:Ent} (h:ao3 e):aN5 (e,())=some ((ed2 e,true,()),()):=by
 have h1:=h.addr; have h2:=h.mask; have h3:=h.next; have h4:=h.fam; have h5:=h.tag; have h6:=h.metric
 have hf:IntKind.has .i64 e.family:=a45.2 (by omega)
 have ht:IntKind.has .i64 e.tag:=a45.2 (by omega)
 have hm:IntKind.has .i64 e.metric:=a45.2 (by omega)
 have b1:=c36 (k:=2) hf (by omega) (by omega)
 have b2:=c36 (k:=2) ht (by omega) (by omega)
 have b3:=c36 (k:=4) hm (by omega) (by omega)
 rw [eq7 (ed3 h4)] at b1; rw [eq7 (ed3 h5)] at b2; rw [eq7 (fa3 h6)] at b3
 rw [show ((2:Nat):Int)=2 from rfl] at *
 rw [show ((4:Nat):Int)=4 from rfl] at *
 rw [e93,b1,Option.bind_some,b2,Option.bind_some,b3,Option.bind_some]
 dsimp only
 rw [a41,a41,a41,if_neg (by simp; omega),if_neg (by simp; omega),if_neg (by simp; omega)]
 have l2:=a21 2
 have l4:=a21 4
 rw [if_pos (a11 (by simp [l2])),if_pos (a11 (by simp [l2,h1])),if_pos (a11 (by simp [l2,h1,h2])),if_pos (a11 (by simp [l2,h1,h2,h3])),if_pos (a11 (by simp [l2,l4,h1,h2,h3]))]
 rfl
def aK0 (m:Msg):Ent:=⟨m.family,m.tag,m.prefix_,(if m.family=2∧m.ver=2 then an4 m.plen else z4),m.next,m.metric⟩
def aS5 (m:Msg):Bs:=ed2 (aK0 m)
theorem ed4 {m:Msg} (h:okR m):ao3 (aK0 m):=by
 obtain ⟨_,_,_,_,hp,hn,_,h⟩:=h
 refine ⟨?_,?_,hp,?_,hn,?_⟩
 ·show 0≤m.family∧m.family≤65535; omega
 ·show 0≤m.tag∧m.tag≤65535; omega
 ·unfold aK0; dsimp only; split
  ·exact ex8 _
  ·rfl
 ·show 0≤m.metric∧m.metric≤4294967295; omega
theorem bq0 {m:Msg} (h:okR m):(aS5 m).length=20:=by
 have g:=ed4 h
 unfold aS5 ed2
 have h1:=g.addr; have h2:=g.mask; have h3:=g.next
 simp [a21,h1,h2,h3]
theorem fl8:a96 (4,())=some ((z4,()),()):=by
 rw [ba7,if_pos (by unfold a98; decide)]; rfl
theorem fh9 {m:Msg} (h:okR m):bj0 (m,())=some ((aS5 m,()),()):=by
 have g:=eV4 (ed4 h)
 rw [eo5,fl8,Option.bind_some]
 refine a09 (fun f2=>a09 (fun v2=>?_) (fun v2=>?_)) (fun f2=>?_)
 ·have hp:0≤m.plen∧m.plen≤32:=by obtain ⟨_,_,_,_,_,_,_,h⟩:=h; omega
  rw [dm7 hp.1 hp.2,Option.bind_some]
  have e:aK0 m=⟨m.family,m.tag,m.prefix_,an4 m.plen,m.next,m.metric⟩:=by unfold aK0; rw [if_pos ⟨f2,v2⟩]
  rw [e] at g
  dsimp only
  rw [g,Option.bind_some,← e]; rfl
 ·have e:aK0 m=⟨m.family,m.tag,m.prefix_,z4,m.next,m.metric⟩:=by unfold aK0; rw [if_neg (fun c=>v2 c.2)]
  rw [e] at g
  dsimp only
  rw [g,Option.bind_some,← e]; rfl
 ·have e:aK0 m=⟨m.family,m.tag,m.prefix_,z4,m.next,m.metric⟩:=by unfold aK0; rw [if_neg (fun c=>f2 c.1)]
  rw [e] at g
  dsimp only
  rw [g,Option.bind_some,← e]; rfl
theorem fa4 {m:Msg} (h:okR m):aU8 (m,())=some ((aS5 m,()),()):=by
 have g:=eM7 (ed4 h)
 rw [dW2,cu5,Option.bind_some]
 refine a09 (fun f2=>a09 (fun v2=>?_) (fun v2=>?_)) (fun f2=>?_)
 ·have hp:0≤m.plen∧m.plen≤32:=by obtain ⟨_,_,_,_,_,_,_,h⟩:=h; omega
  rw [e02 hp.1 hp.2,Option.bind_some]
  have e:aK0 m=⟨m.family,m.tag,m.prefix_,an4 m.plen,m.next,m.metric⟩:=by unfold aK0; rw [if_pos ⟨f2,v2⟩]
  rw [e] at g
  dsimp only
  rw [g,Option.bind_some,← e]; rfl
 ·have e:aK0 m=⟨m.family,m.tag,m.prefix_,z4,m.next,m.metric⟩:=by unfold aK0; rw [if_neg (fun c=>v2 c.2)]
  rw [e] at g
  dsimp only
  rw [g,Option.bind_some,← e]; rfl
 ·have e:aK0 m=⟨m.family,m.tag,m.prefix_,z4,m.next,m.metric⟩:=by unfold aK0; rw [if_neg (fun c=>f2 c.1)]
  rw [e] at g
  dsimp only
  rw [g,Option.bind_some,← e]; rfl
def bq1 (f m:Msg):Prop:=m.cmd=f.cmd∧m.ver=f.ver∧m.auth=f.auth∧m.family≠0∧f.family≠0
instance (f m:Msg):Decidable (bq1 f m):=by unfold bq1; infer_instance
def av7 (f:Msg) (most:Int):List Msg→Nat→Bs→Bs × Int × Int
 | [],_,acc=>(acc,0,0)
 | m::r,i,acc=>if (i:Int)=most then ([],(i:Int),8) else if 0 < i∧¬bq1 f m then ([],(i:Int),7) else av7 f most r (i+1) (acc++aS5 m)
theorem fl9 (f m:Msg):∃ b,aX6 (f,m,())=some ((b,()),())∧(b=true↔bq1 f m):=by
 rw [dt2]
 by_cases h1:m.cmd=f.cmd
 ·rw [if_pos (by simp [h1])]
  by_cases h2:m.ver=f.ver
  ·rw [if_pos (by simp [h2])]
   by_cases h3:m.auth=f.auth
   ·rw [if_pos (by simp [h3])]
    by_cases h4:m.family=0
    ·rw [if_neg (by simp [h4])]; exact ⟨_,rfl,by simp [bq1,h4]⟩
    ·rw [if_pos (by simp [h4])]; exact ⟨_,rfl,by simp [bq1,h1,h2,h3,h4]⟩
   ·rw [if_neg (by simpa using h3)]; exact ⟨_,rfl,by simp [bq1,h3]⟩
  ·rw [if_neg (by simpa using h2)]; exact ⟨_,rfl,by simp [bq1,h2]⟩
 ·rw [if_neg (by simpa using h1)]; exact ⟨_,rfl,by simp [bq1,h1]⟩
theorem eV5 {n:Nat} {l:List Msg} {f:Msg} {most:Int} (hf:l[0]?=some f) (hok:∀ m∈l,okR m) (hl:l.length≤1000):∀ (d m i:Nat) (acc:Bs),i+d=l.length→d < m→acc.length≤1000+20 * i→
  at3 n m l most acc i=some (((av7 f most (l.drop i) i acc).1,(av7 f most (l.drop i) i acc).2.1,(av7 f most (l.drop i) i acc).2.2,()),()):=by
 intro d
 induction d with
 | zero=>
  intro m i acc hd hm ha
  obtain ⟨m,rfl⟩:∃ k,m=k+1:=⟨m - 1,by omega⟩
  rw [bZ5,ifn (by omega),List.drop_eq_nil_of_le (by omega)]; rfl
 | succ d ih=>
  intro m i acc hd hm ha
  obtain ⟨m,rfl⟩:∃ k,m=k+1:=⟨m - 1,by omega⟩
  have hi:i < l.length:=by omega
  have ho:=hok _ (List.getElem_mem hi)
  have:=ih m (i+1) (acc++aS5 l[i]) (by omega) (by omega) (by simp [bq0 ho]; omega)
  rw [show ((i+1:Nat):Int)=(i:Int)+1 by omega] at this
  rw [bZ5,ifd (by omega),if_pos (by omega),Int.toNat_natCast,a27 hi,List.drop_eq_getElem_cons hi,hf,Option.bind_some,fh9 ho,Option.bind_some,if_pos (a89 (by rw [bq0 ho]; omega)),w64 (by omega) (by omega),this,av7]
  refine a09 (fun h=>?_) (fun h=>?_)
  ·rw [if_pos h]
  rw [if_neg h]
  obtain ⟨b,hb,hb'⟩:=fl9 f l[i]
  rw [hb,Option.bind_some]
  refine a29 (fun h0=>?_) (fun h0=>?_)
  ·refine ax3 (fun hz=>?_) (fun hz=>?_)
   ·rw [if_pos ⟨by omega,by rw [← hb']; dsimp only at hz; rw [hz]; simp⟩]
   ·rw [if_neg (fun c=>c.2 (hb'.1 hz))]
  ·rw [if_neg (fun c=>h0 (by omega))]
theorem eM8 {n:Nat} {l:List Msg} {f:Msg} {most:Int} (hf:l[0]?=some f) (hok:∀ m∈l,okR m) (hl:l.length≤1000) (hmost:0≤most):∀ (d m i:Nat) (acc:Bs),i+d=l.length→d < m→(i:Int)≤most→acc.length≤1000+20 * i→
  am0 n m l f most acc i=some (((av7 f most (l.drop i) i acc).1,(av7 f most (l.drop i) i acc).2.1,(av7 f most (l.drop i) i acc).2.2,()),()):=by
 intro d
 induction d with
 | zero=>
  intro m i acc hd hm hmo ha
  obtain ⟨m,rfl⟩:∃ k,m=k+1:=⟨m - 1,by omega⟩
  rw [bs9,ifn (by omega),List.drop_eq_nil_of_le (by omega)]; rfl
 | succ d ih=>
  intro m i acc hd hm hmo ha
  obtain ⟨m,rfl⟩:∃ k,m=k+1:=⟨m - 1,by omega⟩
  have hi:i < l.length:=by omega
  have ho:=hok _ (List.getElem_mem hi)
  rw [bs9,ifd (by omega),List.drop_eq_getElem_cons hi,av7]
  refine a29 (fun h=>?_) (fun h=>?_)
  ·rw [if_pos (show (i:Int)=most by omega)]
  have:=ih m (i+1) (acc++aS5 l[i]) (by omega) (by omega) (by omega) (by simp [bq0 ho]; omega)
  rw [show ((i+1:Nat):Int)=(i:Int)+1 by omega] at this
  rw [if_neg (show ¬(i:Int)=most by omega)]
  have hp:0≤(i:Int):=by omega
  have hfi:i=0→l[i]=f:=fun h0=>by
   subst h0
   rw [List.getElem?_eq_getElem hi] at hf; exact Option.some.inj hf
  simp only [if_pos hp,Int.toNat_natCast,List.getElem?_eq_getElem hi,Option.bind_some,fa4 ho]
  rw [if_pos (a11 (by rw [bq0 ho]; omega)),w64 (by omega) (by omega),this]
  have key:¬bq1 f l[i]→0 < i→(some (([],(i:Int),7,()),()):Option ((Bs × Int × Int × Unit) × Unit))=some (((if 0 < i∧¬bq1 f l[i] then ([],(i:Int),7) else av7 f most (List.drop (i+1) l) (i+1) (acc++aS5 l[i])).1,(if 0 < i∧¬bq1 f l[i] then ([],(i:Int),7) else av7 f most (List.drop (i+1) l) (i+1) (acc++aS5 l[i])).2.1,(if 0 < i∧¬bq1 f l[i] then ([],(i:Int),7) else av7 f most (List.drop (i+1) l) (i+1) (acc++aS5 l[i])).2.2,()),()):=fun h h0=>by
   rw [if_pos ⟨h0,h⟩]
  have pos:∀ {P:Prop},¬P→(i=0→P)→0 < i:=fun {P} h h'=>by
   rcases Nat.eq_zero_or_pos i with h0 | h0
   ·exact absurd (h' h0) h
   ·exact h0
  refine a16 (fun hc=>?_) (fun hc=>?_)
  ·exact key (fun c=>hc c.1) (pos hc (fun h0=>by rw [hfi h0]))
  refine a16 (fun hv=>?_) (fun hv=>?_)
  ·exact key (fun c=>hv c.2.1) (pos hv (fun h0=>by rw [hfi h0]))
  refine c41 (fun ha=>?_) (fun ha=>?_)
  ·exact key (fun c=>ha c.2.2.1) (pos ha (fun h0=>by rw [hfi h0]))
  refine a29 (fun h0=>?_) (fun h0=>?_)
  ·refine a09 (fun h1=>key (fun c=>c.2.2.2.2 h1) (by omega)) (fun h1=>?_)
   refine a09 (fun h2=>key (fun c=>c.2.2.2.1 h2) (by omega)) (fun h2=>?_)
   rw [if_neg (fun c=>c.2 ⟨hc,hv,ha,h2,h1⟩)]
  ·rw [if_neg (fun c=>h0 (by omega))]
open Classical in
noncomputable def bq2:List Msg→Nat→Option Nat
 | [],_=>none
 | m::r,i=>if okR m then bq2 r (i+1) else some i
def b13 (f:Msg):Int:=if f.auth=[] then 25 else 24
def aK1 (f:Msg):Bs:=[a01 (f.cmd % 256),a01 (f.ver % 256),0,0]++(if f.auth=[] then [] else [255,255]++f.auth)
noncomputable def aw1 (l:List Msg):Bs × Int × Int:=match bq2 l 0 with
 | some i=>([],(i:Int),1)
 | none=>match l with
  | []=>([],0,8)
  | f::_=>av7 f (b13 f) l 0 (aK1 f)
theorem dm9:∀ {l:List Msg} {i:Nat},bq2 l i=none→∀ m∈l,okR m
 | [],_,_,m,hm=>by cases hm
 | x::r,i,h,m,hm=>by
  unfold bq2 at h
  split at h
  ·rename_i hx
   rcases List.mem_cons.1 hm with rfl | hm
   ·exact hx
   ·exact dm9 h m hm
  ·cases h
theorem eF2:∀ {l:List Msg} {i:Nat},(∀ m∈l,okR m)→bq2 l i=none
 | [],_,_=>rfl
 | x::r,i,h=>by
  unfold bq2; rw [if_pos (h x (by simp))]; exact eF2 (fun m hm=>h m (by simp [hm]))
theorem ey1 {f:Msg} (h:okR f):(aK1 f).length=if f.auth=[] then 4 else 24:=by
 obtain ⟨_,_,_,_,_,_,ha,_⟩:=h
 unfold aK1
 by_cases e:f.auth=[]
 ·rw [if_pos e,if_pos e]; rfl
 ·rw [if_neg e,if_neg e]
  have:f.auth.length=18:=by rcases ha with h | h; exact absurd h e; exact h.2
  simp [this]
theorem fm0 {l:List Msg} (g:∀ m∈l,RM m) (hl:l.length≤1000):c88 (l,())=some (((aw1 l).1,(aw1 l).2.1,(aw1 l).2.2,()),()):=by
 show c87 a04 (l,())=_
 rw [dY3]
 have main:∀ (d m i:Nat),i+d=l.length→d < m→bq2 l 0=bq2 (l.drop i) i→aX7 a04 m l i=some (((aw1 l).1,(aw1 l).2.1,(aw1 l).2.2,()),()):=by
  intro d
  induction d with
  | zero=>
   intro m i hd hm hb
   obtain ⟨m,rfl⟩:∃ k,m=k+1:=⟨m - 1,by omega⟩
   rw [List.drop_eq_nil_of_le (by omega)] at hb
   have hn:bq2 l 0=none:=hb
   have hok:=dm9 hn
   rw [bZ4,ifn (by omega)]
   cases l with
   | nil=>rfl
   | cons f r=>
    have hf:=hok f (by simp)
    have hl4:=ey1 hf
    have he:aw1 (f::r)=av7 f (b13 f) (f::r) 0 (aK1 f):=by unfold aw1; rw [hn]
    rw [he,if_neg (by simp; omega)]
    simp only [List.getElem?_cons_zero,Option.bind_some]
    have L:=fun (most:Int) (acc:Bs) (h:acc.length≤1000)=>eV5 (n:=a04) (f:=f) (most:=most) (l:=f::r) rfl hok hl (f::r).length a04 0 acc (by omega) (a28 (by omega)) (by omega)
    rw [ep2,wu8,wu8]
    by_cases ha:f.auth=[]
    ·rw [if_pos (by simp [ha]),Option.bind_some]
     have e1:aK1 f=[a01 (f.cmd % 256),a01 (f.ver % 256),0,0]:=by unfold aK1; rw [if_pos ha]; rfl
     have e2:b13 f=25:=by unfold b13; rw [if_pos ha]
     dsimp only
     rw [aa1,e1,e2]
     exact L 25 _ (by simp)
    ·have h18:f.auth.length=18:=by
      obtain ⟨_,_,_,_,_,_,ha',_⟩:=hf
      rcases ha' with h | h
      ·exact absurd h ha
      ·exact h.2
     rw [if_neg (by simp; omega),if_pos (a11 (by omega)),Option.bind_some]
     have e1:aK1 f=[a01 (f.cmd % 256),a01 (f.ver % 256),0,0]++([255,255]++f.auth):=by unfold aK1; rw [if_neg ha]
     have e2:b13 f=24:=by unfold b13; rw [if_neg ha]
     dsimp only
     rw [ift,if_pos (a89 (by simp; omega)),e1,e2]
     exact L 24 _ (by simp; omega)
  | succ d ih=>
   intro m i hd hm hb
   obtain ⟨m,rfl⟩:∃ k,m=k+1:=⟨m - 1,by omega⟩
   have hi:i < l.length:=by omega
   rw [List.drop_eq_getElem_cons hi,bq2] at hb
   rw [bZ4,ifd (by omega),if_pos (by omega),Int.toNat_natCast,a27 hi,cC0 (g _ (List.getElem_mem hi)),Option.bind_some]
   dsimp only
   by_cases ho:okR l[i]
   ·rw [if_pos ho] at hb
    have:=ih m (i+1) (by omega) (by omega) hb
    rw [ad8.2 ho,a41,w64 (by omega) (by omega)]
    exact this
   ·rw [if_neg ho] at hb
    have:af2 l[i]=false:=by cases e':af2 l[i] with | false=>rfl | true=>exact absurd (ad8.1 e') ho
    rw [this,a83]
    unfold aw1; rw [hb]
 exact main l.length a04 0 (by omega) (a28 (by omega)) rfl
theorem fi0 {l:List Msg} (g:∀ m∈l,RM m) (hl:l.length≤1000):bA8 (l,())=some (((aw1 l).1,(aw1 l).2.1,(aw1 l).2.2,()),()):=by
 show bA7 a04 (l,())=_
 rw [ds7]
 have main:∀ (d m i:Nat),i+d=l.length→d < m→bq2 l 0=bq2 (l.drop i) i→aI5 a04 m l i=some (((aw1 l).1,(aw1 l).2.1,(aw1 l).2.2,()),()):=by
  intro d
  induction d with
  | zero=>
   intro m i hd hm hb
   obtain ⟨m,rfl⟩:∃ k,m=k+1:=⟨m - 1,by omega⟩
   rw [List.drop_eq_nil_of_le (by omega)] at hb
   have hn:bq2 l 0=none:=hb
   have hok:=dm9 hn
   rw [bs8,ifn (by omega)]
   cases l with
   | nil=>rfl
   | cons f r=>
    have hf:=hok f (by simp)
    have he:aw1 (f::r)=av7 f (b13 f) (f::r) 0 (aK1 f):=by unfold aw1; rw [hn]
    have hc:0≤f.cmd∧f.cmd < 256:=by obtain ⟨_,_,hc,_⟩:=hf; omega
    have hv:0≤f.ver∧f.ver < 256:=by obtain ⟨_,_,_,hv,_⟩:=hf; omega
    have r1:=bL4 (n:=f.cmd) (k:=1) (a45.2 (by omega)) (by omega) (by omega)
    have r2:=bL4 (n:=f.ver) (k:=1) (a45.2 (by omega)) (by omega) (by omega)
    rw [eq7 (by unfold a25; rw [decide_eq_true_eq]; omega)] at r1 r2
    rw [show ((1:Nat):Int)=1 from rfl] at r1 r2
    rw [he,if_neg (by simp; omega)]
    simp only [List.getElem?_cons_zero,Option.bind_some,r1,r2]
    rw [show be 1 f.cmd=[a01 (f.cmd % 256)] from rfl,show be 1 f.ver=[a01 (f.ver % 256)] from rfl]
    rw [if_pos (a11 (by simp)),if_pos (a11 (by simp))]
    have L:=fun (most:Int) (acc:Bs) (h:acc.length≤1000) (h0:0≤most)=>eM8 (n:=a04) (f:=f) (most:=most) (l:=f::r) rfl hok hl h0 (f::r).length a04 0 acc (by omega) (a28 (by omega)) (by omega) (by omega)
    by_cases ha:f.auth=[]
    ·have e1:aK1 f=([a01 (f.cmd % 256)]++[a01 (f.ver % 256)])++[0,0]:=by unfold aK1; rw [if_pos ha]; rfl
     have e2:b13 f=25:=by unfold b13; rw [if_pos ha]
     rw [if_neg (by simp [ha]),e1,e2]
     exact L 25 _ (by simp) (by omega)
    ·have h18:f.auth.length=18:=by
      obtain ⟨_,_,_,_,_,_,ha',_⟩:=hf
      rcases ha' with h | h
      ·exact absurd h ha
      ·exact h.2
     have e1:aK1 f=(([a01 (f.cmd % 256)]++[a01 (f.ver % 256)])++[0,0])++([255,255]++f.auth):=by unfold aK1; rw [if_neg ha]; rfl
     have e2:b13 f=24:=by unfold b13; rw [if_neg ha]
     rw [if_pos (by simpa using ha),e83,if_neg (by simp; omega),if_pos (a11 (by omega)),Option.bind_some]
     dsimp only
     rw [if_pos (a11 (by simp; omega)),e1,e2]
     exact L 24 _ (by simp; omega) (by omega)
  | succ d ih=>
   intro m i hd hm hb
   obtain ⟨m,rfl⟩:∃ k,m=k+1:=⟨m - 1,by omega⟩
   have hi:i < l.length:=by omega
   rw [List.drop_eq_getElem_cons hi,bq2] at hb
   rw [bs8,ifd (by omega),if_pos (by omega),Int.toNat_natCast,a27 hi,cm0 (g _ (List.getElem_mem hi)),Option.bind_some]
   dsimp only
   by_cases ho:okR l[i]
   ·rw [if_pos ho] at hb
    have:=ih m (i+1) (by omega) (by omega) hb
    rw [ad8.2 ho,a41,w64 (by omega) (by omega)]
    exact this
   ·rw [if_neg ho] at hb
    have:af2 l[i]=false:=by cases e':af2 l[i] with | false=>rfl | true=>exact absurd (ad8.1 e') ho
    rw [this,a83]
    unfold aw1; rw [hb]
 exact main l.length a04 0 (by omega) (a28 (by omega)) rfl
end Go.VP
namespace Go.VP
open Go Go.VI
theorem fm1 {m:Msg} (g:au6 m) (h:Few m):RM m:=by
 obtain ⟨g1,g2,g3,g4,g5,g6,g7,g8,g9,g10,g11,g12,g13,g14,g15,g16,g17,g18,g19,g20,g21,_⟩:=g
 exact ⟨g9,g8,by have:=h.list; omega,by have:=h.subs; omega⟩
theorem ed5 {P:Msg→Prop} {f:Ent→Msg × Int} {b:Bs} (hf:∀ e,P (f e).1):∀ (k at_:Nat) (acc:List Msg),(∀ m∈acc,P m)→∀ m∈(goR f b k at_ acc).1,P m
 | 0,_,acc,h=>h
 | k+1,at_,acc,h=>by
  rw [goR]
  split
  ·intro m hm; cases hm
  ·exact ed5 hf k (at_+20) _ (fun m hm=>by
    rcases List.mem_append.1 hm with hm | hm
    ·exact h m hm
    ·rw [List.mem_singleton] at hm; rw [hm]; exact hf _)
theorem eM9 {P:Msg→Prop} {b:Bs} (hP:∀ c v s e,P (a90 c v s e)):∀ m∈(a93 b).1,P m:=by
 unfold a93
 split
 ·intro m hm; cases hm
 split
 ·split
  ·intro m hm; cases hm
  ·exact ed5 (fun e=>hP _ _ _ e) _ _ _ (fun m hm=>by cases hm)
 ·exact ed5 (fun e=>hP _ _ _ e) _ _ _ (fun m hm=>by cases hm)
end Go.VP
