import Derived.Test.YtbjjekbhopgonaaGreatKcFQ12
import Derived.Test.YtbjjekbhopgonaaGreatKcFQ3
import Derived.Test.YtbjjekbhopgonaaGreatKcFQ5
import Derived.Test.YtbjjekbhopgonaaGreatKcFQ6
import Derived.Test.YtbjjekbhopgonaaGreatKcFQ7
import Derived.Test.YtbjjekbhopgonaaGreatKcFQ9
import Derived.Test.YtbjjekbhopgonaaGreatKcM0
import Derived.Test.YtbjjekbhopgonaaGreatKcFQ11
import Derived.Test.YtbjjekbhopgonaaGreatKcFQ4
import Derived.Test.YtbjjekbhopgonaaGreatKcFQ2
import Derived.Test.YtbjjekbhopgonaaGreatKcFQ10
import Derived.Test.YtbjjekbhopgonaaGreatKcFQ15
set_option linter.unusedVariables false
set_option linter.unusedSimpArgs false
set_option maxRecDepth 100000
namespace Go.VP
open Go Go.VI
def szA (ae:Int):Int:=if ae=0 then 0 else (if ae=1 then 4 else (if ae=2 then 16 else 16))
def a52 (ae:Int):Int:=if ae=0 then 0 else (if ae=1 then 0 else (if ae=2 then 0 else 8))
def as1 (ae:Int):Int:=if ae=0 then 0 else (if ae=1 then 0 else (if ae=2 then 0 else 64))
def ag1 (ae:Int):Int:=if ae=0 then 0 else (if ae=1 then 32 else (if ae=2 then 128 else 128))
theorem aq5 {ae:Int} (h:0≤ae∧ae < 4):ae=0∨ae=1∨ae=2∨ae=3:=by omega
def inB (ae:Int) (a:Bs) (plen:Int):Bool:=decide (0≤ae∧ae < 4) && (decide ((a.length:Int)=szA ae) && (decide (as1 ae≤plen∧plen≤ag1 ae) && (ah1 a plen && (decide (ae≠3) || a79 a))))
theorem fd4 {ae plen:Int} {a:Bs} (ha:a.length≤1000000000) (hp:IntKind.has .i64 plen):bj8 (ae,a,plen,())=some ((inB ae a plen,()),()):=by
 rw [ep0,aB8,Option.bind_some]
 dsimp only
 unfold inB
 by_cases h0:ae < 0
 ·rw [ifd h0,decide_eq_false (by omega)]; rfl
 by_cases h3:3 < ae
 ·rw [ifn h0,ifd h3,decide_eq_false (by omega)]; rfl
 have hae:0≤ae∧ae < 4:=by omega
 rw [ifn h0,ifn h3,if_pos hae,decide_eq_true hae,Bool.true_and]
 change (if ((a.length:Int)==szA ae)=true then (if decide (as1 ae≤plen)=true then (if decide (plen≤ag1 ae)=true then _ else _) else _) else _)=_
 by_cases h1:(a.length:Int)=szA ae
 ·rw [if_pos (by simp [h1]),decide_eq_true h1,Bool.true_and]
  by_cases h2:as1 ae≤plen
  ·rw [ifd h2]
   by_cases h4:plen≤ag1 ae
   ·rw [ifd h4,decide_eq_true ⟨h2,h4⟩,Bool.true_and,dL6 ha hp,Option.bind_some,cO3]
    dsimp only
    cases ah1 a plen
    ·rfl
    ·rw [ift,Bool.true_and]
     by_cases h5:ae=3
     ·rw [if_neg (by simp [h5])]; simp [h5]
     ·rw [if_pos (by simp [h5])]; simp [h5]
   ·rw [ifn h4,decide_eq_false (by omega)]; rfl
  ·rw [ifn h2,decide_eq_false (by omega)]; rfl
 ·rw [if_neg (by simp [h1]),decide_eq_false h1]; rfl
theorem c20 {a:Bs} {n:Int} (ha:a.length≤1000000000) (h:a.length=4∨a.length=16):aa7 (a,n,())=some ((decide (0≤n∧n≤8 * a.length) && ah1 a n,()),()):=by
 rw [ck0,w64 (x:=8 * (a.length:Int)) (by omega) (by omega),eg6 ha,Option.bind_some]
 have go:(if decide (0≤n)=true then (if decide (n≤8 * (a.length:Int))=true then (some ((ah1 a n,()),()):Option ((Bool × Unit) × Unit)) else some ((false,()),())) else some ((false,()),()))=some ((decide (0≤n∧n≤8 * a.length) && ah1 a n,()),()):=by
  by_cases h1:0≤n
  ·rw [ifd h1]
   by_cases h2:n≤8 * (a.length:Int)
   ·rw [ifd h2,decide_eq_true ⟨h1,h2⟩]; rfl
   ·rw [ifn h2,decide_eq_false (by omega)]; rfl
  ·rw [ifn h1,decide_eq_false (by omega)]; rfl
 rcases h with h | h
 ·rw [if_pos (by simp; omega)]; exact go
 ·rw [if_neg (by simp; omega),if_pos (by simp; omega)]; exact go
theorem eS4 {ae plen:Int} {a:Bs} (ha:a.length≤1000000000):bl2 (ae,a,plen,())=some ((inB ae a plen,()),()):=by
 rw [en5,bC9]
 unfold inB
 refine a09 (fun h=>?_) (fun h0=>?_)
 ·subst h
  by_cases h1:a=[]
  ·subst h1
   rw [if_pos (show (([]:Bs)==[])=true from rfl)]
   have hc:ah1 [] plen=true:=rfl
   rw [hc]
   by_cases h2:plen=0
   ·subst h2; rfl
   ·have:(plen==0)=false:=by simpa using h2
    have h3:¬(as1 0≤plen∧plen≤ag1 0):=by show ¬(0≤plen∧plen≤0); omega
    rw [this,decide_eq_false h3]; simp
  ·have hl:¬((a.length:Int)=szA 0):=by show ¬((a.length:Int)=0); intro h; exact h1 (List.length_eq_zero_iff.1 (by omega))
   rw [if_neg (by simpa using h1),decide_eq_false hl]; simp
 refine a09 (fun h=>?_) (fun h1=>?_)
 ·subst h
  by_cases h4:a.length=4
  ·rw [if_pos (by simp; omega),c20 ha (.inl h4),Option.bind_some,h4]
   rw [decide_eq_true (show (0:Int)≤1∧(1:Int) < 4 by omega),decide_eq_true (show ((4:Nat):Int)=szA 1 from rfl),decide_eq_true (show (1:Int)≠3 by omega)]
   show some ((decide (0≤plen∧plen≤32) && ah1 a plen,()),())=some ((true && (true && (decide (0≤plen∧plen≤32) && (ah1 a plen && (true || a79 a)))),()),())
   simp
  ·have hl:¬((a.length:Int)=szA 1):=by show ¬((a.length:Int)=4); omega
   rw [if_neg (by simp; omega),decide_eq_false hl]; simp
 refine a09 (fun h=>?_) (fun h2=>?_)
 ·subst h
  by_cases h4:a.length=16
  ·rw [if_pos (by simp; omega),c20 ha (.inr h4),Option.bind_some,h4]
   rw [decide_eq_true (show (0:Int)≤2∧(2:Int) < 4 by omega),decide_eq_true (show ((16:Nat):Int)=szA 2 from rfl),decide_eq_true (show (2:Int)≠3 by omega)]
   show some ((decide (0≤plen∧plen≤128) && ah1 a plen,()),())=some ((true && (true && (decide (0≤plen∧plen≤128) && (ah1 a plen && (true || a79 a)))),()),())
   simp
  ·have hl:¬((a.length:Int)=szA 2):=by show ¬((a.length:Int)=16); omega
   rw [if_neg (by simp; omega),decide_eq_false hl]; simp
 refine a09 (fun h=>?_) (fun h3=>?_)
 ·subst h
  rw [Option.bind_some]
  dsimp only
  by_cases hb:a79 a=true
  ·have h16:=(ay4 hb).1
   rw [hb,ift,c20 ha (.inr h16),Option.bind_some,h16]
   rw [decide_eq_true (show (0:Int)≤3∧(3:Int) < 4 by omega),decide_eq_true (show ((16:Nat):Int)=szA 3 from rfl)]
   by_cases h6:64≤plen
   ·have:decide (as1 3≤plen∧plen≤ag1 3)=decide (0≤plen∧plen≤8 * ((16:Nat):Int)):=by
     rw [Bool.eq_iff_iff]; show decide (64≤plen∧plen≤128)=true↔_; simp; omega
    rw [ifd h6,this]; simp
   ·have:decide (as1 3≤plen∧plen≤ag1 3)=false:=decide_eq_false (by show ¬(64≤plen∧plen≤128); omega)
    rw [ifn h6,this]; simp
  ·rw [Bool.not_eq_true] at hb
   rw [hb,aa1]; simp
 rw [decide_eq_false (by omega)]; rfl
def cU4 (m:Msg):Bool:=if m.kind=12 then true else if m.kind=13 then (decide (0 < m.ae) && (a25 m.seq 2 && (decide (1≤m.hops∧m.hops≤255) && decide (m.id.length=8)))) else false
noncomputable def au8 (m:Msg):Bool:=a68 m && (ac8 m.subs && (inB m.ae m.prefix_ m.plen && cU4 m))
theorem eK1 (l:Bs):((l.length:Int)==8)=decide (l.length=8):=by rw [Bool.eq_iff_iff]; simp; omega
theorem dZ4 {m:Msg} (g:aC2 m):aw7 (m,())=some ((au8 m,()),()):=by
 have h2:a24 (m.seq,2,())=some ((a25 m.seq 2,()),()):=ak1 (k:=2) g.seq (by omega) (by omega)
 have h1:a24 (m.hops,1,())=some ((a25 m.hops 1,()),()):=ak1 (k:=1) g.hops (by omega) (by omega)
 rw [dK6,b08,Option.bind_some,ct9 g.few.fewS,Option.bind_some,fd4 (by have:=g.few.pre; omega) g.plen,Option.bind_some,h1,h2]
 dsimp only
 unfold au8
 cases a68 m
 ·rfl
 rw [a41,Bool.true_and]
 cases ac8 m.subs
 ·rfl
 rw [a41,Bool.true_and]
 cases inB m.ae m.prefix_ m.plen
 ·rfl
 rw [a41,Bool.true_and]
 unfold cU4
 refine a09 (fun h=>?_) (fun h=>?_)
 ·rw [if_pos h]
 rw [if_neg h]
 refine a09 (fun h=>?_) (fun h=>?_)
 ·rw [if_pos h,Option.bind_some,Option.bind_some,eK1]
  by_cases ha:0 < m.ae
  ·rw [ifd ha,decide_eq_true ha,Bool.true_and]
   cases a25 m.seq 2
   ·rfl
   rw [ift,Bool.true_and]
   by_cases hh:0 < m.hops
   ·rw [ifd hh]
    have:a25 m.hops 1=decide (1≤m.hops∧m.hops≤255):=by unfold a25; rw [Bool.eq_iff_iff]; simp; omega
    rw [this]
    cases decide (1≤m.hops∧m.hops≤255) <;> rfl
   ·rw [ifn hh,decide_eq_false (by omega)]; rfl
  ·rw [ifn ha,decide_eq_false ha]; rfl
 rw [if_neg h]
theorem dC1 {m:Msg} (g:aC2 m):aM2 (m,())=some ((au8 m,()),()):=by
 have h2:a81 (m.seq,2,())=some ((a25 m.seq 2,()),()):=bC6 (k:=2) (by omega) (by omega)
 rw [dI4,aJ7 (by have:=g.few.list; omega) (by have:=g.few.subs; omega),Option.bind_some,c18 g.few.fewS,Option.bind_some,eS4 (by have:=g.few.pre; omega),Option.bind_some,h2]
 dsimp only
 unfold au8
 cases a68 m
 ·rfl
 rw [a41,Bool.true_and]
 cases ac8 m.subs
 ·rfl
 rw [a41,Bool.true_and]
 cases hin:inB m.ae m.prefix_ m.plen
 ·rfl
 have hae:0≤m.ae∧m.ae < 4:=by
  unfold inB at hin
  simp only [Bool.and_eq_true,decide_eq_true_eq] at hin
  exact hin.1
 rw [a41,Bool.true_and]
 unfold cU4
 refine a09 (fun h=>?_) (fun h=>?_)
 ·rw [if_pos h]
 rw [if_neg h]
 refine a09 (fun h=>?_) (fun h=>?_)
 ·rw [if_pos h,Option.bind_some,eK1]
  by_cases ha:m.ae=0
  ·rw [if_neg (by simp [ha]),decide_eq_false (by omega)]; rfl
  ·rw [if_pos (by simp [ha]),decide_eq_true (show 0 < m.ae by omega),Bool.true_and]
   cases a25 m.seq 2
   ·rfl
   rw [ift,Bool.true_and]
   by_cases hh:1≤m.hops
   ·rw [ifd hh]
    by_cases h5:m.hops≤255
    ·rw [ifd h5,decide_eq_true (show 1≤m.hops∧m.hops≤255 from ⟨hh,h5⟩)]; rfl
    ·rw [ifn h5,decide_eq_false (by omega)]; rfl
   ·rw [ifn hh,decide_eq_false (by omega)]; rfl
 rw [if_neg h]
structure ay8 (m:Msg):Prop where
 bare:a68 m=true
 subs:ac8 m.subs=true
 ae:0≤m.ae∧m.ae < 4
 len:(m.prefix_.length:Int)=szA m.ae
 plen:as1 m.ae≤m.plen∧m.plen≤ag1 m.ae
 clean:a71 m.prefix_ m.plen=m.prefix_
 link:m.ae=3→a79 m.prefix_=true
 kind:cU4 m=true
theorem cO6 {ae plen:Int} {a:Bs}:inB ae a plen=true↔(0≤ae∧ae < 4)∧(a.length:Int)=szA ae∧(as1 ae≤plen∧plen≤ag1 ae)∧a71 a plen=a∧(ae=3→a79 a=true):=by
 unfold inB ah1
 simp only [Bool.and_eq_true,decide_eq_true_eq,beq_iff_eq,Bool.or_eq_true]
 constructor
 ·rintro ⟨a,b,c,d,e⟩; exact ⟨a,b,c,d,fun h=>e.resolve_left (fun h2=>h2 h)⟩
 ·rintro ⟨a,b,c,d,e⟩; exact ⟨a,b,c,d,by by_cases h:ae=3 <;> simp [h,e]⟩
theorem aj8 {m:Msg}:au8 m=true↔ay8 m:=by
 unfold au8
 simp only [Bool.and_eq_true,cO6]
 exact ⟨fun ⟨a,b,⟨c,d,e,f,g⟩,h⟩=>⟨a,b,c,d,e,f,g,h⟩,fun h=>⟨h.1,h.2,⟨h.3,h.4,h.5,h.6,h.7⟩,h.8⟩⟩
theorem ay8.kinds {m:Msg} (h:ay8 m):m.kind=12∨(m.kind=13∧0 < m.ae∧(0≤m.seq∧m.seq < 65536)∧(1≤m.hops∧m.hops≤255)∧m.id.length=8):=by
 have:=h.kind
 unfold cU4 at this
 split at this
 ·exact .inl (by assumption)
 ·split at this
  ·simp only [Bool.and_eq_true,decide_eq_true_eq,b47] at this
   exact .inr ⟨by assumption,this⟩
  ·cases this
def aa4 (m:Msg):Bs:=(cl4 m.prefix_ m.plen).drop (a52 m.ae).toNat
theorem eB1 (a:Bs) (n:Int):(cl4 a n).length=min (a87 n).toNat a.length:=by unfold cl4; rw [ac9,List.length_take]
theorem an3 {ae plen:Int} (hae:0≤ae∧ae < 4) (hp:as1 ae≤plen∧plen≤ag1 ae):0≤a52 ae∧a52 ae≤a87 plen∧a87 plen≤szA ae∧0≤plen∧plen≤128∧szA ae≤16:=by
 have h8:a87 plen=if plen < 0 then 0 else (plen+7) / 8:=rfl
 rcases aq5 hae with rfl | rfl | rfl | rfl
 ·have:0≤plen∧plen≤0:=hp
  rw [h8]; show 0≤(0:Int)∧(0:Int)≤_∧_≤(0:Int)∧_∧_∧(0:Int)≤16; rw [if_neg (by omega)]; omega
 ·have:0≤plen∧plen≤32:=hp
  rw [h8]; show 0≤(0:Int)∧(0:Int)≤_∧_≤(4:Int)∧_∧_∧(4:Int)≤16; rw [if_neg (by omega)]; omega
 ·have:0≤plen∧plen≤128:=hp
  rw [h8]; show 0≤(0:Int)∧(0:Int)≤_∧_≤(16:Int)∧_∧_∧(16:Int)≤16; rw [if_neg (by omega)]; omega
 ·have:64≤plen∧plen≤128:=hp
  rw [h8]; show 0≤(8:Int)∧(8:Int)≤_∧_≤(16:Int)∧_∧_∧(16:Int)≤16; rw [if_neg (by omega)]; omega
theorem ay8.cut {m:Msg} (h:ay8 m):((cl4 m.prefix_ m.plen).length:Int)=a87 m.plen∧((aa4 m).length:Int)=a87 m.plen - a52 m.ae:=by
 obtain ⟨h1,h2,h3,h4,h5,h6⟩:=an3 h.ae h.plen
 have:=h.len
 have hc:((cl4 m.prefix_ m.plen).length:Int)=a87 m.plen:=by rw [eB1]; omega
 exact ⟨hc,by unfold aa4; rw [List.length_drop]; omega⟩
def aS4 (m:Msg):Bs:=if m.kind=13 then a01 m.ae::a01 m.plen::(be 2 m.seq++(a01 m.hops::0::(m.id++aa4 m))) else a01 m.ae::a01 m.plen::aa4 m
noncomputable def aq6 (m:Msg):Bs × Bool:=if au8 m=true then aw0 (if m.kind=13 then 10 else 9) (aS4 m++a73 m.subs) else ([],false)
theorem u8w {n:Int} (h:0≤n):a01 (IntKind.wrap .u8 n)=a01 n:=by rw [wu8,an2 h]
theorem fo5 {n:Int} (h:0≤n∧n < 65536):be 2 n=[a01 (IntKind.wrap .u8 (a42 .i64 n 8)),a01 (IntKind.wrap .u8 n)]:=(be2 h).symm
theorem eS5 {m:Msg} (g:aC2 m):b35 (m,())=some (((aq6 m).1,(aq6 m).2,()),()):=by
 rw [ea7,dZ4 g,Option.bind_some]
 unfold aq6
 dsimp only
 by_cases h:au8 m=true
 ·have r:=aj8.1 h
  have hs:=ec1 g.few.fewS (by have:=g.few.subs; omega)
  rw [cO5 r.subs] at hs
  have hz:=ay6 r.subs
  obtain ⟨c1,c2⟩:=r.cut
  obtain ⟨l1,l2,l3,l4,l5,l6⟩:=an3 r.ae r.plen
  have hcut:=eE2 (a:=m.prefix_) (n:=m.plen) (by have:=g.few.pre; omega) g.plen (by omega)
  rw [if_neg (by simp [h]),if_pos h,hs,Option.bind_some,hcut,aB8,u8w r.ae.1,u8w l4]
  simp only [Option.bind_some]
  have hd:((cl4 m.prefix_ m.plen).drop (a52 m.ae).toNat)=aa4 m:=rfl
  have hae:0≤m.ae∧m.ae < 4:=r.ae
  rcases r.kinds with hk | ⟨hk,_,hq,hh,hi⟩
  ·rw [if_neg (show ¬(m.kind==13)=true by simp [hk]),if_pos hae]
   change (if 0≤a52 m.ae∧a52 m.ae≤((cl4 m.prefix_ m.plen).length:Int) then (if a66 ([a01 m.ae,a01 m.plen].length+(aa4 m).length)=true then (if a10 (([a01 m.ae,a01 m.plen]++aa4 m).length+(a73 m.subs).length)=true then ((a88 (9,(([a01 m.ae,a01 m.plen]++aa4 m)++a73 m.subs),())).bind _) else none) else none) else none)=_
   rw [if_pos (by omega),if_pos (a89 (by simp; omega)),if_pos (a11 (by simp; omega)),aN8,Option.bind_some,if_neg (show ¬m.kind=13 by omega)]
   unfold aS4
   rw [if_neg (show ¬m.kind=13 by omega)]; rfl
  ·rw [if_pos (show (m.kind==13)=true by simp [hk]),if_pos (a89 (by simp)),if_pos (a89 (by simp; omega)),if_pos hae,u8w (n:=m.hops) (by omega)]
   change (if 0≤a52 m.ae∧a52 m.ae≤((cl4 m.prefix_ m.plen).length:Int) then (if a66 ((([a01 m.ae,a01 m.plen]++[a01 (IntKind.wrap .u8 (a42 .i64 m.seq 8)),a01 (IntKind.wrap .u8 m.seq),a01 m.hops,0])++m.id).length+(aa4 m).length)=true then (if a10 (((([a01 m.ae,a01 m.plen]++[a01 (IntKind.wrap .u8 (a42 .i64 m.seq 8)),a01 (IntKind.wrap .u8 m.seq),a01 m.hops,0])++m.id)++aa4 m).length+(a73 m.subs).length)=true then ((a88 (10,(((([a01 m.ae,a01 m.plen]++[a01 (IntKind.wrap .u8 (a42 .i64 m.seq 8)),a01 (IntKind.wrap .u8 m.seq),a01 m.hops,0])++m.id)++aa4 m)++a73 m.subs),())).bind _) else none) else none) else none)=_
   rw [if_pos (by omega),if_pos (a89 (by simp; omega)),if_pos (a11 (by simp; omega)),aN8,Option.bind_some,if_pos hk]
   unfold aS4
   rw [if_pos hk,fo5 hq]
   simp
 ·rw [Bool.not_eq_true] at h
  rw [h,a83,aa1]
theorem ba9 {ae:Int} (h:0≤ae∧ae < 4):a82 (ae,())=some ((a52 ae,()),()):=by
 rw [dX9]
 rcases aq5 h with rfl | rfl | rfl | rfl <;> rfl
theorem eB2 {m:Msg} (g:aC2 m) (r:ay8 m):a74 (m,())=some ((aa4 m,()),()):=by
 obtain ⟨c1,c2⟩:=r.cut
 obtain ⟨l1,l2,l3,l4,l5,l6⟩:=an3 r.ae r.plen
 rw [ck5,eE3 (by have:=g.few.pre; omega) (by omega),Option.bind_some,ba9 r.ae,Option.bind_some]
 dsimp only
 rw [if_pos (by omega)]; rfl
theorem eS6 {m:Msg} (g:aC2 m):bH2 (m,())=some (((aq6 m).1,(aq6 m).2,()),()):=by
 rw [ea3,dC1 g,Option.bind_some]
 unfold aq6
 dsimp only
 by_cases h:au8 m=true
 ·have r:=aj8.1 h
  have hs:=dL4 g.few.fewS (by have:=g.few.subs; omega)
  rw [cO5 r.subs] at hs
  have hz:=ay6 r.subs
  obtain ⟨c1,c2⟩:=r.cut
  obtain ⟨l1,l2,l3,l4,l5,l6⟩:=an3 r.ae r.plen
  rw [if_neg (by simp [h]),if_pos h,hs,Option.bind_some,eB2 g r,u8w r.ae.1,u8w l4]
  rcases r.kinds with hk | ⟨hk,_,hq,hh,hi⟩
  ·rw [if_pos (by simp [hk]),Option.bind_some]
   dsimp only
   rw [if_pos (a11 (by simp; omega)),if_pos (a11 (by simp; omega)),au7,Option.bind_some,if_neg (show ¬m.kind=13 by omega)]
   unfold aS4
   rw [if_neg (show ¬m.kind=13 by omega)]; rfl
  ·rw [if_neg (by simp [hk]),dL8 hq,Option.bind_some]
   dsimp only
   rw [if_pos (a11 (by simp [a21])),if_pos (a11 (by simp [a21])),if_pos (a11 (by simp [a21]; omega)),Option.bind_some]
   dsimp only
   rw [if_pos (a11 (by simp [a21]; omega)),if_pos (a11 (by simp [a21]; omega)),au7,Option.bind_some,if_pos hk,u8w (n:=m.hops) (by omega)]
   unfold aS4
   rw [if_pos hk]
   simp
 ·rw [Bool.not_eq_true] at h
  rw [h,a83,aa1]
end Go.VP
namespace Go.VP
open Go Go.VI
abbrev Raw:=a64
abbrev dm0:Raw:=⟨0,0,0,0,0,0,0,0,[],[]⟩
abbrev rrd (d:Bs) (p:Int) (b:Bool):a37:=⟨d,p,d.length,b⟩
theorem wfd {d:Bs} {p:Int} (h:d.length≤1000000) (h0:0≤p) (h1:p≤d.length):WfC d p d.length:=⟨h0,h1,by omega,by omega⟩
theorem c21 {d:Bs} {p n:Int} (h:d.length≤1000000) (h0:0≤p) (hn:1≤n∧n≤7) (h2:p+n≤d.length):a46 (rrd d p false,n,())=some ((num (a06 d p n),()),(rrd d (p+n) false,())):=by
 rw [bd5,ak9 (wfd h h0 (by omega)) hn.1 hn.2 h2]; rfl
theorem eS7 {d:Bs} {p n:Int} {b:Bool} (h:d.length≤1000000) (h0:0≤p) (h1:p≤d.length) (hn:1≤n∧n≤7) (h2:b=true∨(d.length:Int) < p+n):a46 (rrd d p b,n,())=some ((0,()),(rrd d p true,())):=by
 rw [bd5,c35 (wfd h h0 h1) hn.1 hn.2 h2]; rfl
theorem eq3 {d:Bs} {p n:Int} (h:d.length≤1000000) (h0:0≤p) (hn:0≤n) (h2:p+n≤d.length):a99 (rrd d p false,n,())=some ((a06 d p n,()),(rrd d (p+n) false,())):=by
 rw [b44,ap0 (wfd h h0 (by omega)) hn h2]; rfl
theorem ew5 {d:Bs} {p n:Int} {b:Bool} (h:d.length≤1000000) (h0:0≤p) (h1:p≤d.length) (h2:b=true∨n < 0∨(d.length:Int) < p+n):a99 (rrd d p b,n,())=some (([],()),(rrd d p true,())):=by
 rw [b44,ba8 (wfd h h0 h1) h2]; rfl
theorem ay9 {d:Bs} {p n:Int} {b:Bool} (h:d.length≤1000000) (h0:0≤p) (h1:p≤d.length) (hn:1≤n∧n≤7):∃ v q c,a46 (rrd d p b,n,())=some ((v,()),(rrd d q c,()))∧0≤q∧q≤d.length∧(c=false→b=false∧q=p+n)∧(0≤v):=by
 by_cases hb:b=true
 ·exact ⟨_,_,_,eS7 h h0 h1 hn (.inl hb),h0,h1,(fun h=>by cases h),by omega⟩
 ·rw [Bool.not_eq_true] at hb
  subst hb
  by_cases hl:p+n≤d.length
  ·exact ⟨_,_,_,c21 h h0 hn hl,by omega,hl,fun _=>⟨rfl,rfl⟩,(aF3 _).1⟩
  ·exact ⟨_,_,_,eS7 h h0 h1 hn (.inr (by omega)),h0,h1,(fun h=>by cases h),by omega⟩
theorem fk5 {d:Bs} {p n:Int} {b:Bool} (h:d.length≤1000000) (h0:0≤p) (h1:p≤d.length) (hn:0≤n):∃ v q c,a99 (rrd d p b,n,())=some ((v,()),(rrd d q c,()))∧0≤q∧q≤d.length∧(c=false→b=false∧q=p+n):=by
 by_cases hb:b=true
 ·exact ⟨_,_,_,ew5 h h0 h1 (.inl hb),h0,h1,fun h=>by cases h⟩
 ·rw [Bool.not_eq_true] at hb
  subst hb
  by_cases hl:p+n≤d.length
  ·exact ⟨_,_,_,eq3 h h0 hn hl,by omega,hl,fun _=>⟨rfl,rfl⟩⟩
  ·exact ⟨_,_,_,ew5 h h0 h1 (.inr (.inr (by omega))),h0,h1,fun h=>by cases h⟩
def af7 (ae plen:Int):Bool:=!decide (as1 ae≤plen∧plen≤ag1 ae)
def a43 (ae plen om:Int):Int:=a87 plen - a52 ae - om
def ad0 (d:Bs) (p ae plen om:Int):Bs × Int:=if af7 ae plen=true∨a43 ae plen om < 0 then ([],6) else if (d.length:Int) < p+a43 ae plen om then ([],2) else (a06 d p (a43 ae plen om),0)
theorem c22 {n:Int} (h:0≤n∧n≤255):0≤a87 n∧a87 n≤32:=by unfold a87; split <;> omega
theorem at2 (ae:Int):0≤a52 ae∧a52 ae≤8:=by unfold a52; split <;> (try split) <;> (try split) <;> omega
theorem ew6 {d:Bs} {p ae plen om:Int} (h:d.length≤1000000) (h0:0≤p) (h1:p≤d.length) (hae:0≤ae∧ae < 4) (hp:0≤plen∧plen≤255) (ho:0≤om∧om≤255) :
  ∃ r,ab9 (rrd d p false,ae,plen,om,())=some (((ad0 d p ae plen om).1,(ad0 d p ae plen om).2,()),(r,()))∧((ad0 d p ae plen om).2=0→r=rrd d (p+a43 ae plen om) false∧0≤a43 ae plen om∧p+a43 ae plen om≤d.length):=by
 have hl:=c22 hp
 have hb:=at2 ae
 rw [ck7,aB8,Option.bind_some,if_pos hae,ew1 (by omega),Option.bind_some]
 change ∃ r,(if decide (plen < as1 ae)=true then _ else (if decide (ag1 ae < plen)=true then _ else (if decide (IntKind.wrap .i64 (IntKind.wrap .i64 (a87 plen - a52 ae) - om) < 0)=true then _ else ((a99 (rrd d p false,IntKind.wrap .i64 (IntKind.wrap .i64 (a87 plen - a52 ae) - om),())).bind fun r3=>(if r3.2.1.c_Bad=true then some ((([]:List UInt8),2,()),(r3.2.1,())) else some ((r3.1.1,0,()),(r3.2.1,())))))))=_∧_
 rw [w64 (x:=a87 plen - a52 ae) (by omega) (by omega),w64 (by omega) (by omega)]
 unfold ad0 af7
 by_cases c1:plen < as1 ae
 ·have e:(!decide (as1 ae≤plen∧plen≤ag1 ae))=true:=by simp; omega
  rw [ifd c1,if_pos (.inl e)]; exact ⟨_,rfl,fun h=>by cases h⟩
 by_cases c2:ag1 ae < plen
 ·have e:(!decide (as1 ae≤plen∧plen≤ag1 ae))=true:=by simp; omega
  rw [ifn c1,ifd c2,if_pos (.inl e)]; exact ⟨_,rfl,fun h=>by cases h⟩
 have e:¬(!decide (as1 ae≤plen∧plen≤ag1 ae))=true:=by simp; omega
 rw [ifn c1,ifn c2]
 have er:a87 plen - a52 ae - om=a43 ae plen om:=rfl
 rw [er]
 by_cases c3:a43 ae plen om < 0
 ·rw [ifd c3,if_pos (.inr c3)]; exact ⟨_,rfl,fun h=>by cases h⟩
 ·rw [ifn c3,if_neg (fun h=>h.elim e c3)]
  by_cases c4:(d.length:Int) < p+a43 ae plen om
  ·rw [if_pos c4,ew5 h h0 h1 (.inr (.inr c4)),Option.bind_some]; exact ⟨_,rfl,fun h=>by cases h⟩
  ·rw [if_neg c4,eq3 h h0 (by omega) (by omega),Option.bind_some]; exact ⟨_,rfl,fun _=>⟨rfl,by omega,by omega⟩⟩
theorem ec5 {d:Bs} {p:Int} (h:d.length≤1000000) (h0:0≤p) (h1:p≤d.length):∃ r,ae2 (rrd d p false,())=some (a35 (ak6 (d.drop p.toNat)),(r,())):=by
 have e:a06 d p ((d.length:Int) - p)=d.drop p.toNat:=by
  unfold a06
  rw [show (p+((d.length:Int) - p)).toNat=d.length by omega,List.take_length]
 rw [cB0,do5 (wfd h h0 h1),Option.bind_some]
 dsimp only
 rw [eq3 h h0 (by omega) (by omega),Option.bind_some]
 dsimp only
 rw [e,c40 (by simp; omega)]
 exact ⟨_,rfl⟩
def ab4 (ae:Int) (b:Bs) (plen:Int):Bs:=a71 (if ae=3 then ah6++as0 b 8 else as0 b (szA ae)) plen
theorem a84 (s:Bs) (n:Int):(as0 s n).length=max s.length n.toNat:=by unfold as0; simp; omega
theorem ew7 {ae plen:Int} {b:Bs} (hae:0≤ae∧ae < 4) (hp:IntKind.has .i64 plen) (hb:b.length≤1000) (h3:ae=3→b.length≤8):aw5 (ae,b,plen,())=some ((ab4 ae b plen,()),()):=by
 rw [dK8,aB8,Option.bind_some,if_pos hae]
 change ((ah3 (b,IntKind.wrap .i64 (szA ae - a52 ae),())).bind _)=_
 have hsz:0≤szA ae∧szA ae≤16:=by unfold szA; split <;> (try split) <;> (try split) <;> omega
 have hbs:=at2 ae
 rw [w64 (by omega) (by omega),cO4 (by omega),Option.bind_some]
 unfold ab4
 refine a09 (fun h=>?_) (fun h=>?_)
 ·subst h
  have e:szA 3 - a52 3=8:=rfl
  rw [e,c42,Option.bind_some,if_pos rfl]
  have hl:aj6 (as0 b 8)=(ah6++as0 b 8,true):=by unfold aj6; rw [if_pos (by rw [a84]; have:=h3 rfl; omega)]
  rw [hl,be0 (by simp [a84,ah6]; omega) hp,Option.bind_some]
 ·have e:szA ae - a52 ae=szA ae:=by
   rcases aq5 hae with rfl | rfl | rfl | rfl
   ·rfl
   ·rfl
   ·rfl
   ·exact absurd rfl h
  rw [e,if_neg h,be0 (by rw [a84]; omega) hp]; rfl
theorem cu1 {ae plen:Int} {b:Bs} (hae:0≤ae∧ae < 4) (hb:b.length≤1000) (h0:ae=0→b=[]) (h3:ae=3→b.length≤8):aq3 (ae,b,plen,())=some ((ab4 ae b plen,()),()):=by
 rw [dK2]
 unfold ab4
 rcases aq5 hae with rfl | rfl | rfl | rfl
 ·rw [h0 rfl]; rfl
 ·rw [if_pos (by decide),dL7 (by omega),Option.bind_some,bD0 (by rw [a84]; omega)]; rfl
 ·rw [if_neg (by decide),if_pos (by decide),dL7 (by omega),Option.bind_some,bD0 (by rw [a84]; omega)]; rfl
 ·have hl:aj6 (as0 b 8)=(ah6++as0 b 8,true):=by unfold aj6; rw [if_pos (by rw [a84]; have:=h3 rfl; omega)]
  rw [if_neg (by decide),if_neg (by decide),if_pos (by decide),dL7 (by omega),Option.bind_some,dL5,hl,Option.bind_some,bD0 (by simp [a84,ah6]; omega)]; rfl
def aF4 (ty:Int) (d:Bs):Msg × Bool × Int:=
 if (d.length:Int) < (if ty=10 then 14 else 2) then (aP5,false,2)
 else if 3 < bt d 0 then (aP5,false,0)
 else
  let p:Int:=if ty=10 then 14 else 2
  let b:=ad0 d p (bt d 0) (bt d 1) 0
  if b.2≠0 then (aP5,false,b.2)
  else
   let x:=ak6 (d.drop (p+a43 (bt d 0) (bt d 1) 0).toNat)
   if x.2.2≠0∨x.2.1=false then (aP5,false,x.2.2)
   else if ty=10 then (if bt d 0=0∨bt d 4=0 then (aP5,false,0) else (⟨13,0,0,[],0,bt d 0,ab4 (bt d 0) b.1 (bt d 1),bt d 1,0,[],0,a06 d 6 8,num (a06 d 2 2),0,0,0,bt d 4,0,0,[],[],[],0,[],x.1⟩,true,0))
   else (⟨12,0,0,[],0,bt d 0,ab4 (bt d 0) b.1 (bt d 1),bt d 1,0,[],0,[],0,0,0,0,0,0,0,[],[],[],0,[],x.1⟩,true,0)
theorem aV6 {ae plen:Int} (hae:0≤ae∧ae < 4) (hg:af7 ae plen=false):0≤a43 ae plen 0∧a43 ae plen 0≤16∧(ae=0→a43 ae plen 0=0)∧(ae=3→a43 ae plen 0≤8)∧(0≤plen∧plen≤128):=by
 unfold af7 at hg
 have hp:as1 ae≤plen∧plen≤ag1 ae:=by simpa using hg
 obtain ⟨h1,h2,h3,h4,h5,h6⟩:=an3 hae hp
 unfold a43
 refine ⟨by omega,by omega,fun h=>?_,fun h=>?_,h4,h5⟩
 ·subst h; have:szA 0=0:=rfl; omega
 ·subst h; have:szA 3=16:=rfl; have:a52 3=8:=rfl; omega
theorem ec6 {d:Bs} {p ae plen:Int} (hae:0≤ae∧ae < 4) (h0:0≤p) (h:(ad0 d p ae plen 0).2=0):(ad0 d p ae plen 0).1=a06 d p (a43 ae plen 0)∧af7 ae plen=false∧p+a43 ae plen 0≤d.length∧((ad0 d p ae plen 0).1.length:Int)=a43 ae plen 0:=by
 unfold ad0 at h ⊢
 split at h
 ·cases h
 ·rename_i hg
  have hg':af7 ae plen=false:=by
   cases hx:af7 ae plen with
   | false=>rfl
   | true=>exact absurd (.inl hx) hg
  have:=aV6 hae hg'
  split at h
  ·cases h
  ·rename_i hl
   rw [if_neg hg,if_neg hl]
   exact ⟨rfl,hg',by omega,a61 h0 (by omega) (by omega)⟩
theorem cU5 {d:Bs} {p ae plen om:Int} (h:af7 ae plen=true):ad0 d p ae plen om=([],6):=by unfold ad0; rw [if_pos (.inl h)]
theorem cU6 {d:Bs} {p ae plen om:Int} (h:af7 ae plen=false) (h0:0≤a43 ae plen om) (h2:(d.length:Int) < p+a43 ae plen om):ad0 d p ae plen om=([],2):=by
 unfold ad0; rw [h,if_neg (by simp; omega),if_pos h2]
theorem dm1 {d:Bs} {p ae plen om:Int} (h:af7 ae plen=false) (h0:0≤a43 ae plen om) (h2:¬(d.length:Int) < p+a43 ae plen om):ad0 d p ae plen om=(a06 d p (a43 ae plen om),0):=by
 unfold ad0; rw [h,if_neg (by simp; omega),if_neg h2]
theorem b11 {d:Bs} {p:Nat} {q:Int} (hq:q=p) (h:p+1≤d.length):num (a06 d q 1)=bt d p:=by subst hq; exact cB2 h
theorem eE6 {ty at_:Int} {d:Bs} (hd:d.length≤1000) (ht:ty=9∨ty=10):b32 (⟨ty,at_,d⟩,())=some (a35 (aF4 ty d),()):=by
 have b0:=a31 d 0
 have b1:=a31 d 1
 have b4:=a31 d 4
 have nw:=bp5 d
 rw [ec0]
 dsimp only
 rw [nw,Option.bind_some]
 dsimp only
 rcases ht with rfl | rfl
 ·by_cases hl:(d.length:Int) < 2
  ·obtain ⟨v1,q1,c1,e1,k1,k2,k3,k4⟩:=ay9 (d:=d) (p:=0) (n:=1) (b:=false) (by omega) (by omega) (by omega) (by omega)
   obtain ⟨v2,q2,c2,e2,l1,l2,l3,l4⟩:=ay9 (d:=d) (p:=q1) (n:=1) (b:=c1) (by omega) k1 k2 (by omega)
   have hc:c2=true:=by
    cases c2 with
    | true=>rfl
    | false=>
     obtain ⟨rfl,g2⟩:=l3 rfl
     obtain ⟨_,g3⟩:=k3 rfl
     omega
   rw [e1,Option.bind_some]; dsimp only
   rw [e2,Option.bind_some]; dsimp only
   rw [if_neg (show ¬((9:Int)==10)=true by decide),if_pos hc]
   unfold aF4
   rw [if_neg (show ¬(9:Int)=10 by decide),if_pos hl]
  ·rw [c21 (by omega) (by omega) (by omega) (by omega),Option.bind_some]; dsimp only
   rw [c21 (by omega) (by omega) (by omega) (by omega),Option.bind_some]; dsimp only
   rw [if_neg (show ¬((9:Int)==10)=true by decide),aa1,b11 (p:=0) (q:=0) rfl (by omega),b11 (p:=1) (q:=0+1) rfl (by omega)]
   unfold aF4
   rw [if_neg (show ¬(9:Int)=10 by decide),if_neg hl]
   by_cases ha:3 < bt d 0
   ·rw [ifd ha,if_pos ha]
   ·have hae:0≤bt d 0∧bt d 0 < 4:=by omega
    rw [ifn ha,if_neg ha]
    obtain ⟨r,e3,e4⟩:=ew6 (d:=d) (p:=0+1+1) (ae:=bt d 0) (plen:=bt d 1) (om:=0) (by omega) (by omega) (by omega) hae (by omega) (by omega)
    rw [e3,Option.bind_some]
    dsimp only
    rw [show (0:Int)+1+1=2 from rfl] at e4 ⊢
    by_cases hp:(ad0 d 2 (bt d 0) (bt d 1) 0).2=0
    ·obtain ⟨f1,f2,f3,f4⟩:=ec6 hae (by omega) hp
     have f5:=aV6 hae f2
     obtain ⟨rfl,g1,g2⟩:=e4 hp
     obtain ⟨r',e5⟩:=ec5 (d:=d) (p:=2+a43 (bt d 0) (bt d 1) 0) (by omega) (by omega) g2
     rw [hp,if_neg (show ¬((0:Int) != 0)=true by decide),if_neg (show ¬(0:Int)≠0 by decide),e5,Option.bind_some]
     dsimp only [a35]
     rw [ew7 hae (a45.2 (by omega)) (by omega) (by omega),Option.bind_some]
     generalize ak6 (d.drop (2+a43 (bt d 0) (bt d 1) 0).toNat)=x
     obtain ⟨x1,x2,x3⟩:=x
     dsimp only
     by_cases hx:x3=0
     ·subst hx
      cases x2
      ·rfl
      ·rfl
     ·rw [if_pos (show (x3 != 0)=true by simp [hx]),if_pos (.inl hx)]
    ·rw [if_pos (show ((ad0 d 2 (bt d 0) (bt d 1) 0).2 != 0)=true by simp [hp]),if_pos hp]
 ·by_cases hl:(d.length:Int) < 14
  ·obtain ⟨v1,q1,c1,e1,k1,k2,k3,k4⟩:=ay9 (d:=d) (p:=0) (n:=1) (b:=false) (by omega) (by omega) (by omega) (by omega)
   obtain ⟨v2,q2,c2,e2,l1,l2,l3,l4⟩:=ay9 (d:=d) (p:=q1) (n:=1) (b:=c1) (by omega) k1 k2 (by omega)
   obtain ⟨v3,q3,c3,e3,m1,m2,m3,m4⟩:=ay9 (d:=d) (p:=q2) (n:=2) (b:=c2) (by omega) l1 l2 (by omega)
   obtain ⟨v4,q4,c4,e4,n1,n2,n3,n4⟩:=ay9 (d:=d) (p:=q3) (n:=1) (b:=c3) (by omega) m1 m2 (by omega)
   obtain ⟨v5,q5,c5,e5,o1,o2,o3,o4⟩:=ay9 (d:=d) (p:=q4) (n:=1) (b:=c4) (by omega) n1 n2 (by omega)
   obtain ⟨v6,q6,c6,e6,p1,p2,p3⟩:=fk5 (d:=d) (p:=q5) (n:=8) (b:=c5) (by omega) o1 o2 (by omega)
   have hc:c6=true:=by
    cases c6 with
    | true=>rfl
    | false=>
     obtain ⟨rfl,g2⟩:=p3 rfl
     obtain ⟨rfl,g3⟩:=o3 rfl
     obtain ⟨rfl,g4⟩:=n3 rfl
     obtain ⟨rfl,g5⟩:=m3 rfl
     obtain ⟨rfl,g6⟩:=l3 rfl
     obtain ⟨_,g7⟩:=k3 rfl
     omega
   rw [e1,Option.bind_some]; dsimp only
   rw [e2,Option.bind_some]; dsimp only
   rw [if_pos (show ((10:Int)==10)=true from rfl),e3,Option.bind_some]; dsimp only
   rw [e4,Option.bind_some]; dsimp only
   rw [e5,Option.bind_some]; dsimp only
   rw [e6,Option.bind_some]; dsimp only
   rw [if_pos hc]
   unfold aF4
   rw [if_pos (show (10:Int)=10 from rfl),if_pos hl]
  ·rw [c21 (by omega) (by omega) (by omega) (by omega),Option.bind_some]; dsimp only
   rw [c21 (by omega) (by omega) (by omega) (by omega),Option.bind_some]; dsimp only
   rw [if_pos (show ((10:Int)==10)=true from rfl),c21 (by omega) (by omega) (by omega) (by omega),Option.bind_some]; dsimp only
   rw [c21 (by omega) (by omega) (by omega) (by omega),Option.bind_some]; dsimp only
   rw [c21 (by omega) (by omega) (by omega) (by omega),Option.bind_some]; dsimp only
   rw [eq3 (by omega) (by omega) (by omega) (by omega),Option.bind_some]; dsimp only
   rw [aa1,b11 (p:=0) (q:=0) rfl (by omega),b11 (p:=1) (q:=0+1) rfl (by omega),b11 (p:=4) (q:=0+1+1+2) rfl (by omega)]
   unfold aF4
   rw [if_pos (show (10:Int)=10 from rfl),if_neg hl]
   by_cases ha:3 < bt d 0
   ·rw [ifd ha,if_pos ha]
   ·have hae:0≤bt d 0∧bt d 0 < 4:=by omega
    rw [ifn ha,if_neg ha]
    obtain ⟨r,e3,e4⟩:=ew6 (d:=d) (p:=0+1+1+2+1+1+8) (ae:=bt d 0) (plen:=bt d 1) (om:=0) (by omega) (by omega) (by omega) hae (by omega) (by omega)
    rw [e3,Option.bind_some]
    dsimp only
    rw [show (0:Int)+1+1+2+1+1+8=14 from rfl] at e4 ⊢
    by_cases hp:(ad0 d 14 (bt d 0) (bt d 1) 0).2=0
    ·obtain ⟨f1,f2,f3,f4⟩:=ec6 hae (by omega) hp
     have f5:=aV6 hae f2
     obtain ⟨rfl,g1,g2⟩:=e4 hp
     obtain ⟨r',e5⟩:=ec5 (d:=d) (p:=14+a43 (bt d 0) (bt d 1) 0) (by omega) (by omega) g2
     rw [hp,if_neg (show ¬((0:Int) != 0)=true by decide),if_neg (show ¬(0:Int)≠0 by decide),e5,Option.bind_some]
     dsimp only [a35]
     rw [ew7 hae (a45.2 (by omega)) (by omega) (by omega),Option.bind_some]
     generalize ak6 (d.drop (14+a43 (bt d 0) (bt d 1) 0).toNat)=x
     obtain ⟨x1,x2,x3⟩:=x
     dsimp only
     by_cases hx:x3=0
     ·subst hx
      cases x2
      ·rfl
      ·rw [if_neg (show ¬((0:Int) != 0)=true by decide),a41,if_neg (show ¬((0:Int)≠0∨true=false) by decide),if_pos (show ((10:Int)==10)=true from rfl),if_pos (show (10:Int)=10 from rfl)]
       by_cases h0:bt d 0=0
       ·rw [if_pos (show (bt d 0==0)=true by simp [h0]),if_pos (show bt d 0=0∨bt d 4=0 from .inl h0)]
       ·rw [if_neg (show ¬(bt d 0==0)=true by simp [h0])]
        by_cases h4:bt d 4=0
        ·rw [if_pos (show (bt d 4==0)=true by simp [h4]),if_pos (show bt d 0=0∨bt d 4=0 from .inr h4)]
        ·rw [if_neg (show ¬(bt d 4==0)=true by simp [h4]),if_neg (show ¬(bt d 0=0∨bt d 4=0) from fun h=>h.elim h0 h4)]
         rfl
     ·rw [if_pos (show (x3 != 0)=true by simp [hx]),if_pos (.inl hx)]
    ·rw [if_pos (show ((ad0 d 14 (bt d 0) (bt d 1) 0).2 != 0)=true by simp [hp]),if_pos hp]
theorem dL9 {ae plen:Int} (hae:0≤ae∧ae < 4) (hp:0≤plen):ax2 (ae,plen,())=some ((af7 ae plen,()),()):=by
 rw [dK0]
 unfold af7
 rcases aq5 hae with rfl | rfl | rfl | rfl
 ·rw [if_pos (by decide)]
  have:(plen != 0)=!decide (as1 0≤plen∧plen≤ag1 0):=by rw [Bool.eq_iff_iff]; show (plen != 0)=true↔(!decide (0≤plen∧plen≤0))=true; simp; omega
  rw [this]
 ·rw [if_neg (by decide),if_pos (by decide)]
  have:decide (32 < plen)=!decide (as1 1≤plen∧plen≤ag1 1):=by rw [Bool.eq_iff_iff]; show decide (32 < plen)=true↔(!decide (0≤plen∧plen≤32))=true; simp; omega
  rw [this]
 ·rw [if_neg (by decide),if_neg (by decide),if_pos (by decide)]
  have:decide (128 < plen)=!decide (as1 2≤plen∧plen≤ag1 2):=by rw [Bool.eq_iff_iff]; show decide (128 < plen)=true↔(!decide (0≤plen∧plen≤128))=true; simp; omega
  rw [this]
 ·rw [if_neg (by decide),if_neg (by decide),if_neg (by decide)]
  have e:(!decide (as1 3≤plen∧plen≤ag1 3))=(decide (128 < plen) || decide (plen < 64)):=by rw [Bool.eq_iff_iff]; show (!decide (64≤plen∧plen≤128))=true↔_; simp; omega
  rw [e]
  cases decide (128 < plen) <;> rfl
theorem wbt {d:Bs} {i:Nat} (h:i < d.length):IntKind.wrap .i64 ((d[i].toNat:Nat):Int)=bt d i:=by
 rw [am4]; simp [bt,List.getElem?_eq_getElem h]
theorem ew8 {ty at_:Int} {d:Bs} (hd:d.length≤1000) (ht:ty=9∨ty=10):b41 (⟨ty,at_,d⟩,())=some (a35 (aF4 ty d),()):=by
 have b0:=a31 d 0
 have b1:=a31 d 1
 have b4:=a31 d 4
 rw [e80]
 dsimp only
 rcases ht with rfl | rfl
 ·rw [if_neg (show ¬((9:Int)==10)=true by decide)]
  unfold aF4
  by_cases hl:(d.length:Int) < 2
  ·rw [ifd hl,if_neg (show ¬(9:Int)=10 by decide),if_pos hl]
  ·rw [ifn hl,if_neg (show ¬(9:Int)=10 by decide),if_neg hl,a27 (show 0 < d.length by omega),a27 (show 1 < d.length by omega),wbt (show 0 < d.length by omega),wbt (show 1 < d.length by omega)]
   by_cases ha:3 < bt d 0
   ·rw [ifd ha,if_pos ha]
   ·have hae:0≤bt d 0∧bt d 0 < 4:=by omega
    have hl2:=c22 (n:=bt d 1) (by omega)
    have hb2:=at2 (bt d 0)
    rw [ifn ha,if_neg ha,dL9 hae b1.1,Option.bind_some]
    dsimp only
    cases hg:af7 (bt d 0) (bt d 1) with
    | true=>rw [ift,cU5 hg]; rfl
    | false=>
     have hr:=aV6 hae hg
     have er:a87 (bt d 1) - a52 (bt d 0)=a43 (bt d 0) (bt d 1) 0:=by unfold a43; omega
     rw [aa1,cu0 (by omega),Option.bind_some,ba9 hae,Option.bind_some]
     dsimp only
     rw [w64 (x:=a87 (bt d 1) - a52 (bt d 0)) (by omega) (by omega),er,w64 (x:=2+a43 (bt d 0) (bt d 1) 0) (by omega) (by omega)]
     by_cases hs:(d.length:Int) < 2+a43 (bt d 0) (bt d 1) 0
     ·rw [ifd hs,cU6 hg hr.1 hs]; rfl
     ·have hcl:=a61 (s:=d) (p:=2) (n:=a43 (bt d 0) (bt d 1) 0) (by omega) (by omega) (by omega)
      have ec:(d.take (2+a43 (bt d 0) (bt d 1) 0).toNat).drop 2=a06 d 2 (a43 (bt d 0) (bt d 1) 0):=rfl
      rw [ifn hs,dm1 hg hr.1 hs,if_pos (by omega),aV3 (by simp; omega),Option.bind_some,ec,cu1 hae (by omega) (fun h=>List.length_eq_zero_iff.1 (by have:=hr.2.2.1 h; omega)) (fun h=>by have:=hr.2.2.2.1 h; omega),Option.bind_some]
      dsimp only [a35]
      rw [if_neg (show ¬(0:Int)≠0 by decide)]
      generalize ak6 (d.drop (2+a43 (bt d 0) (bt d 1) 0).toNat)=x
      obtain ⟨x1,x2,x3⟩:=x
      dsimp only
      by_cases hx:x3=0
      ·subst hx
       cases x2
       ·rfl
       ·rw [if_neg (show ¬((0:Int) != 0)=true by decide),a41,if_pos (by omega)]; rfl
      ·rw [if_pos (show (x3 != 0)=true by simp [hx]),if_pos (.inl hx)]
 ·rw [if_pos (show ((10:Int)==10)=true from rfl)]
  unfold aF4
  by_cases hl:(d.length:Int) < 14
  ·rw [ifd hl,if_pos (show (10:Int)=10 from rfl),if_pos hl]
  ·rw [ifn hl,if_pos (show (10:Int)=10 from rfl),if_neg hl,a27 (show 0 < d.length by omega),a27 (show 1 < d.length by omega),wbt (show 0 < d.length by omega),wbt (show 1 < d.length by omega)]
   by_cases ha:3 < bt d 0
   ·rw [ifd ha,if_pos ha]
   ·have hae:0≤bt d 0∧bt d 0 < 4:=by omega
    have hl2:=c22 (n:=bt d 1) (by omega)
    have hb2:=at2 (bt d 0)
    rw [ifn ha,if_neg ha,dL9 hae b1.1,Option.bind_some]
    dsimp only
    cases hg:af7 (bt d 0) (bt d 1) with
    | true=>rw [ift,cU5 hg]; rfl
    | false=>
     have hr:=aV6 hae hg
     have er:a87 (bt d 1) - a52 (bt d 0)=a43 (bt d 0) (bt d 1) 0:=by unfold a43; omega
     rw [aa1,cu0 (by omega),Option.bind_some,ba9 hae,Option.bind_some]
     dsimp only
     rw [w64 (x:=a87 (bt d 1) - a52 (bt d 0)) (by omega) (by omega),er,w64 (x:=14+a43 (bt d 0) (bt d 1) 0) (by omega) (by omega)]
     by_cases hs:(d.length:Int) < 14+a43 (bt d 0) (bt d 1) 0
     ·rw [ifd hs,cU6 hg hr.1 hs]; rfl
     ·have hcl:=a61 (s:=d) (p:=14) (n:=a43 (bt d 0) (bt d 1) 0) (by omega) (by omega) (by omega)
      have ec:(d.take (14+a43 (bt d 0) (bt d 1) 0).toNat).drop 14=a06 d 14 (a43 (bt d 0) (bt d 1) 0):=rfl
      have n22:a20 (a06 d 2 2,())=some ((num (a06 d 2 2),()),()):=at0 (by have:=a61 (s:=d) (p:=2) (n:=2) (by omega) (by omega) (by omega); omega)
      have c24:(d.take 4).drop 2=a06 d 2 2:=aV4 (p:=2) (n:=2) (q:=4) rfl
      have c68:(d.take 14).drop 6=a06 d 6 8:=aV4 (p:=6) (n:=8) (q:=14) rfl
      rw [ifn hs,dm1 hg hr.1 hs,if_pos (by omega),aV3 (by simp; omega),Option.bind_some,ec,cu1 hae (by omega) (fun h=>List.length_eq_zero_iff.1 (by have:=hr.2.2.1 h; omega)) (fun h=>by have:=hr.2.2.2.1 h; omega),Option.bind_some,c24,n22,Option.bind_some,a27 (show 4 < d.length by omega),wbt (show 4 < d.length by omega),c68]
      dsimp only [a35]
      rw [if_neg (show ¬(0:Int)≠0 by decide)]
      generalize ak6 (d.drop (14+a43 (bt d 0) (bt d 1) 0).toNat)=x
      obtain ⟨x1,x2,x3⟩:=x
      dsimp only
      by_cases hx:x3=0
      ·subst hx
       cases x2
       ·rfl
       ·rw [if_neg (show ¬((0:Int) != 0)=true by decide),a41,if_neg (show ¬((0:Int)≠0∨true=false) by decide),if_pos (show 0≤(14:Int)∧(14:Int)≤14+a43 (bt d 0) (bt d 1) 0∧14+a43 (bt d 0) (bt d 1) 0≤(d.length:Int) by omega),if_pos (show ((10:Int)==10)=true from rfl),if_pos (show (10:Int)=10 from rfl),if_pos (show 0≤(2:Int)∧(2:Int)≤(4:Int)∧(4:Int)≤(d.length:Int) by omega),if_pos (show 0≤(6:Int)∧(6:Int)≤(14:Int)∧(14:Int)≤(d.length:Int) by omega)]
        by_cases h0:bt d 0=0
        ·rw [if_pos (show (bt d 0==0)=true by simp [h0]),if_pos (show bt d 0=0∨bt d 4=0 from .inl h0)]
        ·rw [if_neg (show ¬(bt d 0==0)=true by simp [h0])]
         by_cases h4:bt d 4=0
         ·rw [if_pos (show (bt d 4==0)=true by simp [h4]),if_pos (show bt d 0=0∨bt d 4=0 from .inr h4)]
         ·rw [if_neg (show ¬(bt d 4==0)=true by simp [h4]),if_neg (show ¬(bt d 0=0∨bt d 4=0) from fun h=>h.elim h0 h4)]
      ·rw [if_pos (show (x3 != 0)=true by simp [hx]),if_pos (.inl hx)]
end Go.VP
namespace Go.VP
open Go Go.VI
def a55 (d:Bs):Raw × Bool × Int:=
 if (d.length:Int) < 10 then (dm0,false,2)
 else if 3 < bt d 0 then (dm0,false,0)
 else
  let b:=ad0 d 10 (bt d 0) (bt d 2) (bt d 3)
  if b.2≠0 then (dm0,false,b.2)
  else
   let x:=ak6 (d.drop (10+a43 (bt d 0) (bt d 2) (bt d 3)).toNat)
   if x.2.2≠0 then (dm0,false,x.2.2)
   else (⟨bt d 0,bt d 1,bt d 2,bt d 3,num (a06 d 4 2),num (a06 d 6 2),num (a06 d 8 2),if x.2.1=true then 1 else 0,b.1,x.1⟩,true,0)
theorem ff5 {ty at_:Int} {d:Bs} (hd:d.length≤1000):bi0 (⟨ty,at_,d⟩,())=some (a35 (a55 d),()):=by
 have b0:=a31 d 0
 have b2:=a31 d 2
 have b3:=a31 d 3
 obtain ⟨c,hc⟩:=cT7
 have f4:a04=(c+999999999995)+5:=by omega
 have f3:a04=(c+999999999996)+4:=by omega
 have nw:=bp5 d
 have st0:∀ (k:Nat) (a b e f:Int) (s:Bs) (p q:Int) (x:Bool) (i:Int),i < 4→True:=fun _ _ _ _ _ _ _ _ _ _ _=>trivial
 obtain ⟨v1,q1,c1,e1,j1,k1,l1,_⟩:=ay9 (d:=d) (p:=0) (n:=1) (b:=false) (by omega) (by omega) (by omega) (by omega)
 obtain ⟨v2,q2,c2,e2,j2,k2,l2,_⟩:=ay9 (d:=d) (p:=q1) (n:=1) (b:=c1) (by omega) j1 k1 (by omega)
 obtain ⟨v3,q3,c3,e3,j3,k3,l3,_⟩:=ay9 (d:=d) (p:=q2) (n:=1) (b:=c2) (by omega) j2 k2 (by omega)
 obtain ⟨v4,q4,c4,e4,j4,k4,l4,_⟩:=ay9 (d:=d) (p:=q3) (n:=1) (b:=c3) (by omega) j3 k3 (by omega)
 obtain ⟨v5,q5,c5,e5,j5,k5,l5,_⟩:=ay9 (d:=d) (p:=q4) (n:=2) (b:=c4) (by omega) j4 k4 (by omega)
 obtain ⟨v6,q6,c6,e6,j6,k6,l6,_⟩:=ay9 (d:=d) (p:=q5) (n:=2) (b:=c5) (by omega) j5 k5 (by omega)
 obtain ⟨v7,q7,c7,e7,j7,k7,l7,_⟩:=ay9 (d:=d) (p:=q6) (n:=2) (b:=c6) (by omega) j6 k6 (by omega)
 have w1:∀ i:Int,0≤i→i < 100→IntKind.wrap .i64 (i+1)=i+1:=fun i h0 h1=>w64 (by omega) (by omega)
 have run:bi0 (⟨ty,at_,d⟩,())=(if c7=true then some ((dm0,false,2,()),()) else (if (decide (3 < v1))=true then some ((dm0,false,0,()),()) else ((ab9 (rrd d q7 c7,v1,v3,v4,())).bind fun r9=>(if (r9.1.2.1 != 0)=true then some ((dm0,false,r9.1.2.1,()),()) else ((ae2 (r9.2.1,())).bind fun r10=>(if (r10.1.2.2.1 != 0)=true then some ((dm0,false,r10.1.2.2.1,()),()) else (if r10.1.2.1=true then some (((a64.mk v1 v2 v3 v4 v5 v6 v7 1 r9.1.1 r10.1.1),true,0,()),()) else some (((a64.mk v1 v2 v3 v4 v5 v6 v7 0 r9.1.1 r10.1.1),true,0,()),())))))))):=by
  show c81 a04 _=_
  rw [dW9]
  dsimp only
  rw [nw,Option.bind_some]
  dsimp only
  have z:∀ n:Nat,ai2 n a04 0 0 0 0 d 0 d.length false 0=ai2 n ((c+999999999995)+5) 0 0 0 0 d 0 d.length false 0:=fun n=>by rw [← f4]
  have z2:∀ n:Nat,al9 n a04 v1 v2 v3 v4 0 0 0 d q4 d.length c4 0=al9 n ((c+999999999996)+4) v1 v2 v3 v4 0 0 0 d q4 d.length c4 0:=fun n=>by rw [← f3]
  rw [z,aq9,if_pos (show decide ((0:Int) < 4)=true from rfl),if_pos (show (0:Int)=0 from rfl),e1,Option.bind_some,w1 0 (by omega) (by omega)]
  dsimp only
  rw [aq9,if_pos (show decide ((0:Int)+1 < 4)=true from rfl),if_neg (show ¬(0:Int)+1=0 by decide),if_pos (show (0:Int)+1=1 from rfl),e2,Option.bind_some,w1 (0+1) (by omega) (by omega)]
  dsimp only
  rw [aq9,if_pos (show decide ((0:Int)+1+1 < 4)=true from rfl),if_neg (show ¬(0:Int)+1+1=0 by decide),if_neg (show ¬(0:Int)+1+1=1 by decide),if_pos (show (0:Int)+1+1=2 from rfl),e3,Option.bind_some,w1 (0+1+1) (by omega) (by omega)]
  dsimp only
  rw [aq9,if_pos (show decide ((0:Int)+1+1+1 < 4)=true from rfl),if_neg (show ¬(0:Int)+1+1+1=0 by decide),if_neg (show ¬(0:Int)+1+1+1=1 by decide),if_neg (show ¬(0:Int)+1+1+1=2 by decide),if_pos (show (0:Int)+1+1+1=3 from rfl),e4,Option.bind_some,w1 (0+1+1+1) (by omega) (by omega)]
  dsimp only
  rw [aq9,if_neg (show ¬decide ((0:Int)+1+1+1+1 < 4)=true by decide),z2,aB9,if_pos (show decide ((0:Int) < 3)=true from rfl),if_pos (show (0:Int)=0 from rfl),e5,Option.bind_some,w1 0 (by omega) (by omega)]
  dsimp only
  rw [aB9,if_pos (show decide ((0:Int)+1 < 3)=true from rfl),if_neg (show ¬(0:Int)+1=0 by decide),if_pos (show (0:Int)+1=1 from rfl),e6,Option.bind_some,w1 (0+1) (by omega) (by omega)]
  dsimp only
  rw [aB9,if_pos (show decide ((0:Int)+1+1 < 3)=true from rfl),if_neg (show ¬(0:Int)+1+1=0 by decide),if_neg (show ¬(0:Int)+1+1=1 by decide),if_pos (show (0:Int)+1+1=2 from rfl),e7,Option.bind_some,w1 (0+1+1) (by omega) (by omega)]
  dsimp only
  rw [aB9,if_neg (show ¬decide ((0:Int)+1+1+1 < 3)=true by decide)]
 rw [run]
 unfold a55
 by_cases hl:(d.length:Int) < 10
 ·have hc7:c7=true:=by
   cases c7 with
   | true=>rfl
   | false=>
    obtain ⟨rfl,g7⟩:=l7 rfl
    obtain ⟨rfl,g6⟩:=l6 rfl
    obtain ⟨rfl,g5⟩:=l5 rfl
    obtain ⟨rfl,g4⟩:=l4 rfl
    obtain ⟨rfl,g3⟩:=l3 rfl
    obtain ⟨rfl,g2⟩:=l2 rfl
    obtain ⟨_,g1⟩:=l1 rfl
    omega
  rw [if_pos hc7,if_pos hl]
 ·
  have one:∀ {p n v q:Int} {c:Bool},a46 (rrd d p false,n,())=some ((v,()),(rrd d q c,()))→0≤p→(1≤n∧n≤7)→p+n≤d.length→v=num (a06 d p n)∧q=p+n∧c=false:=by
   intro p n v q c h h0 hn hl
   rw [c21 (by omega) h0 hn hl] at h
   simp only [Option.some.injEq,Prod.mk.injEq,and_true,a37.mk.injEq,true_and] at h
   exact ⟨h.1.symm,h.2.1.symm,h.2.2.symm⟩
  obtain ⟨rfl,rfl,rfl⟩:=one e1 (by omega) (by omega) (by omega)
  obtain ⟨rfl,rfl,rfl⟩:=one e2 (by omega) (by omega) (by omega)
  obtain ⟨rfl,rfl,rfl⟩:=one e3 (by omega) (by omega) (by omega)
  obtain ⟨rfl,rfl,rfl⟩:=one e4 (by omega) (by omega) (by omega)
  obtain ⟨rfl,rfl,rfl⟩:=one e5 (by omega) (by omega) (by omega)
  obtain ⟨rfl,rfl,rfl⟩:=one e6 (by omega) (by omega) (by omega)
  obtain ⟨rfl,rfl,rfl⟩:=one e7 (by omega) (by omega) (by omega)
  rw [aa1,if_neg hl,b11 (p:=0) (q:=0) rfl (by omega),b11 (p:=1) (q:=0+1) rfl (by omega),b11 (p:=2) (q:=0+1+1) rfl (by omega),b11 (p:=3) (q:=0+1+1+1) rfl (by omega)]
  by_cases ha:3 < bt d 0
  ·rw [ifd ha,if_pos ha]
  ·have hae:0≤bt d 0∧bt d 0 < 4:=by omega
   obtain ⟨r,e3,e4⟩:=ew6 (d:=d) (p:=0+1+1+1+1+2+2+2) (ae:=bt d 0) (plen:=bt d 2) (om:=bt d 3) (by omega) (by omega) (by omega) hae (by omega) (by omega)
   rw [ifn ha,if_neg ha,e3,Option.bind_some]
   dsimp only
   rw [show (0:Int)+1+1+1+1+2+2+2=10 from rfl] at e4 ⊢
   by_cases hp:(ad0 d 10 (bt d 0) (bt d 2) (bt d 3)).2=0
   ·obtain ⟨rfl,g1,g2⟩:=e4 hp
    obtain ⟨r',e5⟩:=ec5 (d:=d) (p:=10+a43 (bt d 0) (bt d 2) (bt d 3)) (by omega) (by omega) g2
    rw [hp,if_neg (show ¬((0:Int) != 0)=true by decide),if_neg (show ¬(0:Int)≠0 by decide),e5,Option.bind_some]
    dsimp only [a35]
    generalize ak6 (d.drop (10+a43 (bt d 0) (bt d 2) (bt d 3)).toNat)=x
    obtain ⟨x1,x2,x3⟩:=x
    dsimp only
    by_cases hx:x3=0
    ·subst hx
     cases x2 <;> rfl
    ·rw [if_pos (show (x3 != 0)=true by simp [hx]),if_pos hx]
   ·rw [if_pos (show ((ad0 d 10 (bt d 0) (bt d 2) (bt d 3)).2 != 0)=true by simp [hp]),if_pos hp]
theorem f13 {ty at_:Int} {d:Bs} (hd:d.length≤1000):bm5 (⟨ty,at_,d⟩,())=some (a35 (a55 d),()):=by
 have b0:=a31 d 0
 have b2:=a31 d 2
 have b3:=a31 d 3
 rw [dY0]
 dsimp only
 unfold a55
 by_cases hl:(d.length:Int) < 10
 ·rw [ifd hl,if_pos hl]
 ·have nc:∀ p:Nat,p+2≤d.length→a20 (a06 d p 2,())=some ((num (a06 d p 2),()),()):=fun p h=>at0 (by have:=a61 (s:=d) (p:=p) (n:=2) (by omega) (by omega) (by omega); omega)
  have n4:a20 (a06 d 4 2,())=some ((num (a06 d 4 2),()),()):=nc 4 (by omega)
  have n6:a20 (a06 d 6 2,())=some ((num (a06 d 6 2),()),()):=nc 6 (by omega)
  have n8:a20 (a06 d 8 2,())=some ((num (a06 d 8 2),()),()):=nc 8 (by omega)
  have c4:(d.take 6).drop 4=a06 d 4 2:=aV4 (p:=4) (n:=2) (q:=6) rfl
  have c6:(d.take 8).drop 6=a06 d 6 2:=aV4 (p:=6) (n:=2) (q:=8) rfl
  have c8:(d.take 10).drop 8=a06 d 8 2:=aV4 (p:=8) (n:=2) (q:=10) rfl
  rw [ifn hl,if_neg hl,a27 (show 0 < d.length by omega),a27 (show 1 < d.length by omega),a27 (show 2 < d.length by omega),a27 (show 3 < d.length by omega),wbt (show 0 < d.length by omega),wbt (show 1 < d.length by omega),wbt (show 2 < d.length by omega),wbt (show 3 < d.length by omega),if_pos (by omega),c4,n4,Option.bind_some,if_pos (by omega),c6,n6,Option.bind_some,if_pos (by omega),c8,n8,Option.bind_some]
  by_cases ha:3 < bt d 0
  ·rw [ifd ha,if_pos ha]
  ·have hae:0≤bt d 0∧bt d 0 < 4:=by omega
   have hl2:=c22 (n:=bt d 2) (by omega)
   have hb2:=at2 (bt d 0)
   rw [ifn ha,if_neg ha,dL9 hae b2.1,Option.bind_some]
   dsimp only
   cases hg:af7 (bt d 0) (bt d 2) with
   | true=>rw [ift,cU5 hg]; rfl
   | false=>
    have er:a87 (bt d 2) - a52 (bt d 0) - bt d 3=a43 (bt d 0) (bt d 2) (bt d 3):=rfl
    have hr2:a43 (bt d 0) (bt d 2) (bt d 3)≤100∧-1000≤a43 (bt d 0) (bt d 2) (bt d 3):=by rw [← er]; omega
    rw [aa1,cu0 (by omega),Option.bind_some,ba9 hae,Option.bind_some]
    dsimp only
    rw [w64 (x:=a87 (bt d 2) - a52 (bt d 0)) (by omega) (by omega),w64 (x:=a87 (bt d 2) - a52 (bt d 0) - bt d 3) (by omega) (by omega),er,w64 (x:=10+a43 (bt d 0) (bt d 2) (bt d 3)) (by omega) (by omega)]
    by_cases hn:a43 (bt d 0) (bt d 2) (bt d 3) < 0
    ·have:ad0 d 10 (bt d 0) (bt d 2) (bt d 3)=([],6):=by unfold ad0; rw [if_pos (.inr hn)]
     rw [ifd hn,this]; rfl
    ·rw [ifn hn]
     by_cases hs:(d.length:Int) < 10+a43 (bt d 0) (bt d 2) (bt d 3)
     ·rw [ifd hs,cU6 hg (by omega) hs]; rfl
     ·have ec:(d.take (10+a43 (bt d 0) (bt d 2) (bt d 3)).toNat).drop 10=a06 d 10 (a43 (bt d 0) (bt d 2) (bt d 3)):=rfl
      rw [ifn hs,dm1 hg (by omega) hs,if_pos (by omega),aV3 (by simp; omega),Option.bind_some,ec]
      dsimp only [a35]
      rw [if_neg (show ¬(0:Int)≠0 by decide)]
      generalize ak6 (d.drop (10+a43 (bt d 0) (bt d 2) (bt d 3)).toNat)=x
      obtain ⟨x1,x2,x3⟩:=x
      dsimp only
      by_cases hx:x3=0
      ·subst hx
       rw [if_neg (show ¬((0:Int) != 0)=true by decide),if_pos (show 0≤(10:Int)∧(10:Int)≤10+a43 (bt d 0) (bt d 2) (bt d 3)∧10+a43 (bt d 0) (bt d 2) (bt d 3)≤(d.length:Int) by omega)]
       cases x2 <;> rfl
      ·rw [if_pos (show (x3 != 0)=true by simp [hx]),if_pos hx]
end Go.VP
namespace Go.VP
open Go Go.VI
theorem eK2 (b k:Nat):aS3 (aS3 b k) k=aS3 b k:=by
 unfold aS3; rw [Nat.mul_div_cancel _ (Nat.pow_pos (by decide))]
theorem eK3 (b:UInt8) (k:Int):aC1 (aC1 b k) k=aC1 b k:=by
 apply UInt8.toNat.inj; rw [aA6,aA6,eK2]
theorem c23:∀ (s:Bs) (n:Int),a71 (a71 s n) n=a71 s n
 | [],_=>rfl
 | b::r,n=>by simp only [a71,eK3,c23 r]
theorem eh2:ah6.length=8:=rfl
theorem eS8 {x:Bs} {n:Int} (h:64≤n) (hx:x.length=8):a79 (a71 (ah6++x) n)=true:=by
 rw [cl3,bd9 (s:=ah6) (by rw [eh2]; omega)]
 exact eg5 (by rw [ac9]; exact hx)
theorem cU7 {ae plen:Int} {b:Bs} (hae:0≤ae∧ae < 4) (hb:(b.length:Int)≤szA ae - a52 ae):((ab4 ae b plen).length:Int)=szA ae:=by
 unfold ab4
 rw [ac9]
 rcases aq5 hae with rfl | rfl | rfl | rfl
 ·have:(b.length:Int)≤0 - 0:=hb
  rw [if_neg (by decide),a84]; show ((max b.length (0:Int).toNat:Nat):Int)=0; omega
 ·have:(b.length:Int)≤4 - 0:=hb
  rw [if_neg (by decide),a84]; show ((max b.length (4:Int).toNat:Nat):Int)=4; omega
 ·have:(b.length:Int)≤16 - 0:=hb
  rw [if_neg (by decide),a84]; show ((max b.length (16:Int).toNat:Nat):Int)=16; omega
 ·have:(b.length:Int)≤16 - 8:=hb
  rw [if_pos rfl,List.length_append,a84,eh2]; show ((8+max b.length (8:Int).toNat:Nat):Int)=16; omega
theorem cB5 {plen:Int} {b:Bs} (h:64≤plen) (hb:b.length≤8):a79 (ab4 3 b plen)=true:=by
 unfold ab4
 rw [if_pos rfl]
 exact eS8 h (by rw [a84]; show max b.length 8=8; omega)
theorem ew9 {ty:Int} {d:Bs} (ht:ty=9∨ty=10) (hd:d.length≤300) :
  (∃ m,aF4 ty d=(m,true,0)∧ay8 m∧aC2 m∧(aS4 m++a73 m.subs).length≤d.length∧m.kind=ty+3)∨(∃ e,aF4 ty d=(aP5,false,e)):=by
 have b0:=a31 d 0
 have b1:=a31 d 1
 have b4:=a31 d 4
 unfold aF4
 by_cases hl:(d.length:Int) < (if ty=10 then 14 else 2)
 ·rw [if_pos hl]; exact .inr ⟨_,rfl⟩
 rw [if_neg hl]
 by_cases ha:3 < bt d 0
 ·rw [if_pos ha]; exact .inr ⟨_,rfl⟩
 rw [if_neg ha]
 have hae:0≤bt d 0∧bt d 0 < 4:=by omega
 dsimp only
 have hp0:(0:Int)≤(if ty=10 then 14 else 2)∧(if ty=10 then (14:Int) else 2)≤14:=by split <;> omega
 generalize hP:(if ty=10 then (14:Int) else 2)=P at *
 by_cases hb:(ad0 d P (bt d 0) (bt d 1) 0).2≠0
 ·rw [if_pos hb]; exact .inr ⟨_,rfl⟩
 rw [if_neg hb]
 have hb:(ad0 d P (bt d 0) (bt d 1) 0).2=0:=by simpa using hb
 obtain ⟨f1,f2,f3,f4⟩:=ec6 hae hp0.1 hb
 have f5:=aV6 hae f2
 have hpl:as1 (bt d 0)≤bt d 1∧bt d 1≤ag1 (bt d 0):=by unfold af7 at f2; simpa using f2
 obtain ⟨l1,l2,l3,l4,l5,l6⟩:=an3 hae hpl
 have hrn:a43 (bt d 0) (bt d 1) 0=a87 (bt d 1) - a52 (bt d 0):=by unfold a43; omega
 rcases cU3 (d.drop (P+a43 (bt d 0) (bt d 1) 0).toNat) with ⟨l,hg,hA,hS,hL,hN⟩ | ⟨l,hg⟩ | ⟨e,hg,_⟩
 ·rw [hg]
  dsimp only
  rw [if_neg (show ¬((0:Int)≠0∨true=false) by decide)]
  have wl:=cU7 (plen:=bt d 1) (b:=(ad0 d P (bt d 0) (bt d 1) 0).1) hae (by omega)
  have wc:a71 (ab4 (bt d 0) (ad0 d P (bt d 0) (bt d 1) 0).1 (bt d 1)) (bt d 1)=ab4 (bt d 0) (ad0 d P (bt d 0) (bt d 1) 0).1 (bt d 1):=c23 _ _
  have wk:bt d 0=3→a79 (ab4 (bt d 0) (ad0 d P (bt d 0) (bt d 1) 0).1 (bt d 1))=true:=fun h=>by
   rw [h] at hpl ⊢
   have h8:=f5.2.2.2.1 h
   rw [h] at f4 h8
   exact cB5 hpl.1 (by omega)
  have bare:∀ m:Msg,ab0 m=some m→a68 m=true:=fun m h=>by rw [a68,h]; exact af8 m
  have sub2:=b10 (l:=l)
  have hle:=aN9 l
  have n1000:([]:List b22).length≤1000:=by decide
  have e0:([]:Bs).length≤400:=by decide
  have has0:IntKind.has .i64 0:=a45.2 (by omega)
  have drl:((d.drop (P+a43 (bt d 0) (bt d 1) 0).toNat).length:Int)=d.length - (P+a43 (bt d 0) (bt d 1) 0):=by rw [List.length_drop]; omega
  rcases ht with rfl | rfl
  ·rw [if_neg (show ¬(9:Int)=10 by decide)] at hP ⊢
   subst hP
   have r:ay8 ⟨12,0,0,[],0,bt d 0,ab4 (bt d 0) (ad0 d 2 (bt d 0) (bt d 1) 0).1 (bt d 1),bt d 1,0,[],0,[],0,0,0,0,0,0,0,[],[],[],0,[],l⟩:=⟨bare _ rfl,aV5 hA hS,hae,wl,hpl,wc,wk,rfl⟩
   refine .inl ⟨_,rfl,r,⟨⟨n1000,by dsimp only; omega,e0,by dsimp only; omega,e0,e0,e0,e0,e0,(fun d h=>by cases h),hA.few⟩,has0,has0,has0,has0,a45.2 (by dsimp only; omega),has0,a45.2 (by dsimp only; omega),a45.2 (by dsimp only; omega),has0⟩,?_,rfl⟩
   have hc:=r.cut.2
   dsimp only at hc ⊢
   unfold aS4
   rw [if_neg (show ¬(12:Int)=13 by decide)]
   simp only [List.length_append,List.length_cons]
   omega
  ·rw [if_pos (show (10:Int)=10 from rfl)] at hP ⊢
   subst hP
   split
   ·exact .inr ⟨_,rfl⟩
   ·rename_i h04
    have hq:=aj0 (d:=d) (p:=2) (by omega) (by omega)
    have hi:=a61 (s:=d) (p:=6) (n:=8) (by omega) (by omega) (by omega)
    have kr:cU4 ⟨13,0,0,[],0,bt d 0,ab4 (bt d 0) (ad0 d 14 (bt d 0) (bt d 1) 0).1 (bt d 1),bt d 1,0,[],0,a06 d 6 8,num (a06 d 2 2),0,0,0,bt d 4,0,0,[],[],[],0,[],l⟩=true:=by
     unfold cU4
     rw [if_neg (show ¬(13:Int)=12 by decide),if_pos rfl]
     simp only [Bool.and_eq_true,decide_eq_true_eq,b47]
     exact ⟨by omega,hq,by omega,by omega⟩
    have r:ay8 ⟨13,0,0,[],0,bt d 0,ab4 (bt d 0) (ad0 d 14 (bt d 0) (bt d 1) 0).1 (bt d 1),bt d 1,0,[],0,a06 d 6 8,num (a06 d 2 2),0,0,0,bt d 4,0,0,[],[],[],0,[],l⟩:=⟨bare _ rfl,aV5 hA hS,hae,wl,hpl,wc,wk,kr⟩
    refine .inl ⟨_,rfl,r,⟨⟨n1000,by dsimp only; omega,e0,by dsimp only; omega,e0,by dsimp only; omega,e0,e0,e0,(fun d h=>by cases h),hA.few⟩,has0,has0,a45.2 (by dsimp only; omega),has0,a45.2 (by dsimp only; omega),has0,a45.2 (by dsimp only; omega),a45.2 (by dsimp only; omega),a45.2 (by dsimp only; omega)⟩,?_,rfl⟩
    have hc:=r.cut.2
    dsimp only at hc ⊢
    unfold aS4
    rw [if_pos rfl]
    simp only [List.length_append,List.length_cons,a21]
    omega
 ·rw [hg]; exact .inr ⟨0,rfl⟩
 ·rw [hg]
  refine .inr ⟨e,?_⟩
  dsimp only
  rw [if_pos (.inr rfl)]
theorem eB3 {m:Msg} (r:ay8 m):(aS4 m).length≤30:=by
 obtain ⟨l1,l2,l3,l4,l5,l6⟩:=an3 r.ae r.plen
 have:=r.cut.2
 unfold aS4
 rcases r.kinds with hk | ⟨hk,_,_,_,hi⟩
 ·rw [if_neg (by omega)]; simp only [List.length_cons]; omega
 ·rw [if_pos hk]; simp only [List.length_cons,List.length_append,a21]; omega
theorem eB4 {m:Msg} (r:ay8 m):aq6 m=(a01 (if m.kind=13 then 10 else 9)::a01 (aS4 m++a73 m.subs).length::(aS4 m++a73 m.subs),true)∧(aS4 m++a73 m.subs).length≤255:=by
 have h1:=eB3 r
 have h2:=ay6 r.subs
 have hl:(aS4 m++a73 m.subs).length≤255:=by simp only [List.length_append]; omega
 refine ⟨?_,hl⟩
 unfold aq6
 have ht:1≤(if m.kind=13 then (10:Int) else 9)∧(if m.kind=13 then (10:Int) else 9)≤255:=by split <;> omega
 rw [if_pos (aj8.2 r),aw0,if_pos ⟨ht.1,ht.2,hl⟩]
end Go.VP
namespace Go.VP
open Go Go.VI
abbrev Ctx:=a03
abbrev stp (c:Ctx):a36:=⟨c.prefix_c0,c.prefix_c1,c.prefix_c2,c.prefix_c3,c.next_c0,c.next_c1,c.id⟩
def a56 (ae:Int):Int:=if ae=1 then 0 else if ae=2 then 1 else if ae=3 then 1 else -1
theorem cO7 (ae:Int):an8 (ae,())=some ((a56 ae,()),()):=by
 rw [dW8]; unfold a56
 by_cases h1:ae=1
 ·rw [if_pos (by simp [h1]),if_pos h1]
 rw [if_neg (by simp [h1]),if_neg h1]
 by_cases h2:ae=2
 ·rw [if_pos (by simp [h2]),if_pos (by simp [h2]),if_pos h2]
 rw [if_neg (by simp [h2]),if_neg h2]
 by_cases h3:ae=3
 ·rw [if_pos (by simp [h3]),if_pos h3]
 ·rw [if_neg (by simp [h3]),if_neg h3]
theorem cl5 (ae:Int):ai5 (ae,())=some ((a56 ae,()),()):=by
 rw [ds4]; unfold a56
 by_cases h1:ae=1
 ·rw [if_pos (by simp [h1]),if_pos h1]
 rw [if_neg (by simp [h1]),if_neg h1]
 by_cases h2:ae=2
 ·rw [if_pos (by simp [h2]),if_pos h2]
 rw [if_neg (by simp [h2]),if_neg h2]
 by_cases h3:ae=3
 ·rw [if_pos (by simp [h3]),if_pos h3]
 ·rw [if_neg (by simp [h3]),if_neg h3]
theorem bD1 {ae:Int} (h:1≤ae∧ae≤3):0≤a56 ae∧a56 ae < 2:=by
 unfold a56; split
 ·omega
 split
 ·omega
 split <;> omega
theorem eK4 {s:Bs} (h:(ak6 s).2.1=true):(ak6 s).2.2=0:=by
 unfold ak6 at h ⊢
 split at h
 ·rename_i l e
  unfold cl2 at h ⊢
  split at h
  ·cases h
  ·rename_i h0; rw [if_neg h0]
 ·cases h
def aj9 (d:Bs) (n:Int):Bool × Int:=if (d.length:Int) < n then (false,2) else ((ak6 (d.drop n.toNat)).2.1,(ak6 (d.drop n.toNat)).2.2)
theorem aF5 {d:Bs} {n:Int} (h:(aj9 d n).1=true):(aj9 d n).2=0∧n≤d.length:=by
 unfold aj9 at h ⊢
 split at h
 ·cases h
 ·rename_i h0; rw [if_neg h0]; exact ⟨eK4 h,by omega⟩
theorem eh3 {d:Bs} {n:Int} (hd:d.length≤100000) (hn:0≤n):aT4 (d,n,())=some (((aj9 d n).1,(aj9 d n).2,()),()):=by
 rw [dW7]; unfold aj9
 by_cases h:(d.length:Int) < n
 ·rw [ifd h,if_pos h]
 ·rw [ifn h,if_neg h,if_pos (by omega),c40 (by simp; omega),Option.bind_some]
theorem eh4 {d:Bs} {n:Int} (hd:d.length≤100000) (hn:0≤n):aM3 (d,n,())=some (((aj9 d n).1,(aj9 d n).2,()),()):=by
 rw [dJ9]; unfold aj9
 by_cases h:(d.length:Int) < n
 ·rw [ifd h,if_pos h]
 ·rw [ifn h,if_neg h,if_pos (by omega),aV3 (by simp; omega),Option.bind_some]
def av5 (c:Ctx) (i:Bs):Ctx:=⟨c.prefix_c0,c.prefix_c1,c.prefix_c2,c.prefix_c3,c.next_c0,c.next_c1,i⟩
def bD2 (c:Ctx) (k:Int) (a:Bs):Ctx:=⟨c.prefix_c0,c.prefix_c1,c.prefix_c2,c.prefix_c3,(if k=0 then a else c.next_c0),(if k=1 then a else c.next_c1),c.id⟩
def idF (c:Ctx) (d:Bs):Ctx × Int:=if (aj9 d 10).1=true then (av5 c (a06 d 2 8),0) else (c,(aj9 d 10).2)
theorem fn5 {c:Ctx} {d:Bs} (hd:d.length≤100000):aH3 (stp c,d,())=some (((idF c d).2,()),(stp (idF c d).1,())):=by
 rw [d69,eh3 hd (by omega),Option.bind_some]
 unfold idF
 dsimp only
 cases h:(aj9 d 10).1 with
 | false=>rw [aa1,if_neg (by simp)]
 | true=>
  have hk:=aF5 h
  rw [ift,if_pos (by omega),if_pos rfl,hk.1]; rfl
def am6 (ae:Int):Int:=if ae=0 then (0:Int) else (if ae=1 then (4:Int) else (if ae=2 then (16:Int) else (8:Int)))
theorem dM0 (ae:Int):0≤am6 ae∧am6 ae≤16:=by
 unfold am6; split
 ·omega
 split
 ·omega
 split <;> omega
def cB6 (d:Bs):Bs:=if bt d 0=3 then (aj6 (a06 d 2 (am6 (bt d 0)))).1 else a06 d 2 (am6 (bt d 0))
def cB7 (c:Ctx) (d:Bs):Ctx × Int:=
 if (d.length:Int) < 2 then (c,2) else if bt d 0 < 1∨3 < bt d 0 then (c,0)
 else if (aj9 d (2+am6 (bt d 0))).1=true then (bD2 c (a56 (bt d 0)) (cB6 d),0)
 else (c,(aj9 d (2+am6 (bt d 0))).2)
theorem fk6 {c:Ctx} {d:Bs} (hd:d.length≤100000):aB0 (stp c,d,())=some (((cB7 c d).2,()),(stp (cB7 c d).1,())):=by
 rw [cT4]
 unfold cB7
 by_cases h2:(d.length:Int) < 2
 ·rw [ifd h2,if_pos h2]
 rw [ifn h2,if_neg h2,a40 (i:=0) (by omega),Option.bind_some,am4]
 have e0:bt d 0=(((d[0]?.getD 0).toNat:Nat):Int):=rfl
 rw [← e0]
 unfold cB6
 generalize bt d 0=v
 by_cases h0:v < 1
 ·rw [ifd h0,if_pos (.inl h0)]
 rw [ifn h0]
 by_cases h3:3 < v
 ·rw [ifd h3,if_pos (.inr h3)]
 have hr:=dM0 v
 have hh:(if v=0 then (0:Int) else (if v=1 then (4:Int) else (if v=2 then (16:Int) else (8:Int))))=am6 v:=rfl
 rw [hh,ifn h3,if_neg (show ¬(v < 1∨3 < v) by omega),if_pos (show 0≤v∧v < 4 by omega),w64 (x:=2+am6 v) (by omega) (by omega),eh3 hd (by omega),Option.bind_some]
 dsimp only
 cases h:(aj9 d (2+am6 v)).1 with
 | false=>rw [a83,if_neg (by simp)]
 | true=>
  have hk:=aF5 h
  have hf:=bD1 (ae:=v) (by omega)
  have hc:(List.take (2+am6 v).toNat d).drop 2=a06 d 2 (am6 v):=rfl
  rw [a41,if_pos (show 0≤(2:Int)∧(2:Int)≤2+am6 v∧2+am6 v≤(d.length:Int) by omega),if_pos rfl,hc]
  refine a09 (fun hv=>?_) (fun hv=>?_)
  ·rw [c42,Option.bind_some,cO7,Option.bind_some]
   dsimp only
   rw [if_pos hf,if_pos hv]; rfl
  ·rw [cO7,Option.bind_some]
   dsimp only
   rw [if_pos hf,if_neg hv]; rfl
theorem ff6 {v:Int} (h:0≤v∧v≤3):au3 (v,())=some ((am6 v,()),()):=by
 rw [ct6,if_pos h.1]
 have:v=0∨v=1∨v=2∨v=3:=by omega
 rcases this with rfl | rfl | rfl | rfl <;> rfl
theorem ff7 {c:Ctx} {d:Bs} (hd:d.length≤100000):bG2 (c,d,())=some (((cB7 c d).1,(cB7 c d).2,()),()):=by
 rw [eb3]
 unfold cB7
 by_cases h2:(d.length:Int) < 2
 ·rw [ifd h2,if_pos h2]
 rw [ifn h2,if_neg h2,a40 (i:=0) (by omega),Option.bind_some,am4]
 have e0:bt d 0=(((d[0]?.getD 0).toNat:Nat):Int):=rfl
 have hb:=a31 d 0
 rw [← e0]
 unfold cB6
 generalize bt d 0=v at *
 refine a09 (fun h0=>?_) (fun h0=>?_)
 ·rw [if_pos (show v < 1∨3 < v by omega)]
 by_cases h3:3 < v
 ·rw [ifd h3,if_pos (.inr h3)]
 have hr:=dM0 v
 rw [ifn h3,if_neg (show ¬(v < 1∨3 < v) by omega),ff6 (by omega),Option.bind_some]
 dsimp only
 rw [w64 (x:=2+am6 v) (by omega) (by omega),eh4 hd (by omega),Option.bind_some]
 dsimp only
 cases h:(aj9 d (2+am6 v)).1 with
 | false=>rw [a83,ite_self,if_neg (by simp)]
 | true=>
  have hk:=aF5 h
  have hf:=bD1 (ae:=v) (by omega)
  have hc:(List.take (2+am6 v).toNat d).drop 2=a06 d 2 (am6 v):=rfl
  rw [hk.1,if_neg (by decide),a41,if_pos (show 0≤(2:Int)∧(2:Int)≤2+am6 v∧2+am6 v≤(d.length:Int) by omega),if_pos rfl,hc]
  refine a09 (fun hv=>?_) (fun hv=>?_)
  ·rw [dL5,Option.bind_some,cl5,Option.bind_some]
   dsimp only
   rw [if_pos hf,if_pos hv]; rfl
  ·rw [cl5,Option.bind_some]
   dsimp only
   rw [if_pos hf,if_neg hv]; rfl
end Go.VP
namespace Go.VP
open Go Go.VI
theorem a86 {R:Type} {p:Prop} [Decidable p] {t f r:R} (h:p→t=r) (h':¬p→f=r):(if decide p=true then t else f)=r:=by
 by_cases hp:p
 ·rw [ifd hp]; exact h hp
 ·rw [ifn hp]; exact h' hp
theorem c43 {R:Type} {x y:Bs} {f t r:R} (heq:x=y→t=r) (hne:x≠y→f=r):(if (x==y)=true then t else f)=r:=by
 by_cases h:x=y
 ·rw [if_pos (by simp [h])]; exact heq h
 ·rw [if_neg (by simpa using h)]; exact hne h
def okC (c:Ctx):Prop:=c.prefix_c0=[]∧(c.prefix_c1=[]∨c.prefix_c1.length=4)∧(c.prefix_c2=[]∨c.prefix_c2.length=16)∧(c.prefix_c3=[]∨a79 c.prefix_c3=true)∧(c.next_c0=[]∨c.next_c0.length=4)∧(c.next_c1=[]∨c.next_c1.length=16)∧(c.id=[]∨c.id.length=8)
structure cU8 (r:Raw):Prop where
 ae:0≤r.ae∧r.ae < 4
 om:0≤r.omitted
 plen:0≤r.plen∧r.plen≤128
 len:r.omitted+r.bytes.length≤szA r.ae - a52 r.ae
 flags:0≤r.flags∧r.flags≤255
 metric:0≤r.metric∧r.metric≤65535
 have_:r.have_=0∨r.have_=1
 low:as1 r.ae≤r.plen
def af9 (c:Ctx) (ae:Int):Bs:=if ae=0 then c.prefix_c0 else (if ae=1 then c.prefix_c1 else (if ae=2 then c.prefix_c2 else c.prefix_c3))
theorem bb0 {c:Ctx} (h:okC c) {ae:Int} (ha:0≤ae∧ae < 4) (hn:af9 c ae≠[]):((af9 c ae).length:Int)=szA ae:=by
 obtain ⟨h0,h1,h2,h3,_⟩:=h
 rcases aq5 ha with rfl | rfl | rfl | rfl
 ·exact absurd h0 hn
 ·rcases h1 with e | e
  ·exact absurd e hn
  ·show (c.prefix_c1.length:Int)=4; omega
 ·rcases h2 with e | e
  ·exact absurd e hn
  ·show (c.prefix_c2.length:Int)=16; omega
 ·rcases h3 with e | e
  ·exact absurd e hn
  ·have:=(ay4 e).1; show (c.prefix_c3.length:Int)=16; omega
def ac0 (c:Ctx) (r:Raw):Bs × Bool:=
 if r.omitted=0 then (ab4 r.ae r.bytes r.plen,true)
 else if af9 c r.ae=[] then ([],false)
 else (ab4 r.ae (a06 (af9 c r.ae) (a52 r.ae) r.omitted++r.bytes) r.plen,true)
theorem eK5 {c:Ctx} {r:Raw} (hc:okC c) (hr:cU8 r):ao4 (stp c,r,())=some (((ac0 c r).1,(ac0 c r).2,()),(stp c,())):=by
 have ha:=hr.ae; have hl:=hr.len; have ho:=hr.om; have hp:=hr.plen
 have hsz:0≤szA r.ae∧szA r.ae≤16:=by unfold szA; split <;> (try split) <;> (try split) <;> omega
 have hbs:=at2 r.ae
 have hpre:(if r.ae=0 then c.prefix_c0 else (if r.ae=1 then c.prefix_c1 else (if r.ae=2 then c.prefix_c2 else c.prefix_c3)))=af9 c r.ae:=rfl
 have hsz':(if r.ae=0 then (0:Int) else (if r.ae=1 then (4:Int) else (if r.ae=2 then (16:Int) else (16:Int))))=szA r.ae:=rfl
 rw [cl0]
 dsimp only
 rw [hpre,hsz',if_pos ha]
 unfold ac0
 refine a09 (fun h3=>?_) (fun h3=>?_)
 ·have s3:szA r.ae=16:=by rw [h3]; rfl
  have b3:a52 r.ae=8:=by rw [h3]; rfl
  rw [if_pos ha,s3,w64 (x:=16 - 8) (by omega) (by omega),show (16:Int) - 8=8 by decide]
  refine a09 (fun h0=>?_) (fun h0=>?_)
  ·rw [if_pos h0,if_pos (a11 (by omega)),List.nil_append,cO4 (by omega),Option.bind_some,c42,Option.bind_some]
   have hl8:aj6 (as0 r.bytes 8)=(ah6++as0 r.bytes 8,true):=by unfold aj6; rw [if_pos (by rw [a84]; omega)]
   rw [hl8,be0 (by simp [a84,ah6]; omega) (a45.2 (by omega)),Option.bind_some]
   unfold ab4; rw [if_pos h3]
  ·rw [if_neg h0]
   refine c43 (fun he=>?_) (fun he=>?_)
   ·rw [if_pos he]
   ·have hpl:=bb0 hc ha he
    have hcl:((a06 (af9 c r.ae) 8 r.omitted).length:Int)=r.omitted:=a61 (by omega) ho (by omega)
    have hcut:(List.take (8+r.omitted).toNat (af9 c r.ae)).drop 8=a06 (af9 c r.ae) 8 r.omitted:=rfl
    rw [if_neg he,w64 (x:=8+r.omitted) (by omega) (by omega),if_pos (by omega),hcut,if_pos (a11 (by omega)),cO4 (by omega),Option.bind_some,c42,Option.bind_some]
    have hl8:aj6 (as0 (a06 (af9 c r.ae) 8 r.omitted++r.bytes) 8)=(ah6++as0 (a06 (af9 c r.ae) 8 r.omitted++r.bytes) 8,true):=by unfold aj6; rw [if_pos (by rw [a84,List.length_append]; omega)]
    rw [hl8,be0 (by simp [a84,ah6]; omega) (a45.2 (by omega)),Option.bind_some]
    unfold ab4; rw [if_pos h3,b3]
 ·have b0:a52 r.ae=0:=by
   rcases aq5 ha with h | h | h | h
   ·rw [h]; rfl
   ·rw [h]; rfl
   ·rw [h]; rfl
   ·exact absurd h h3
  rw [if_pos ha,w64 (x:=szA r.ae - 0) (by omega) (by omega),show szA r.ae - 0=szA r.ae by omega]
  refine a09 (fun h0=>?_) (fun h0=>?_)
  ·rw [if_pos h0,if_pos (a11 (by omega)),List.nil_append,cO4 (by omega),Option.bind_some,be0 (by rw [a84]; omega) (a45.2 (by omega)),Option.bind_some]
   unfold ab4; rw [if_neg h3]
  ·rw [if_neg h0]
   refine c43 (fun he=>?_) (fun he=>?_)
   ·rw [if_pos he]
   ·have hpl:=bb0 hc ha he
    have hcl:((a06 (af9 c r.ae) 0 r.omitted).length:Int)=r.omitted:=a61 (by omega) ho (by omega)
    have hcut:(List.take (0+r.omitted).toNat (af9 c r.ae)).drop 0=a06 (af9 c r.ae) 0 r.omitted:=rfl
    rw [if_neg he,w64 (x:=0+r.omitted) (by omega) (by omega),if_pos (by omega),hcut,if_pos (a11 (by omega)),cO4 (by omega),Option.bind_some,be0 (by rw [a84,List.length_append]; omega) (a45.2 (by omega)),Option.bind_some]
    unfold ab4; rw [if_neg h3,b0]
def a53 (c:Ctx) (r:Raw) (a:Bs):Ctx:=
 if r.ae=0 then c else
  let i:=if r.flags / 64 % 2=1 then (z4'++a).drop (a.length - 4) else c.id
  if 128≤r.flags then ⟨(if r.ae=0 then a else c.prefix_c0),(if r.ae=1 then a else c.prefix_c1),(if r.ae=2 then a else c.prefix_c2),(if r.ae=3 then a else c.prefix_c3),c.next_c0,c.next_c1,i⟩ else av5 c i
 where z4':Bs:=[0,0,0,0]
theorem eS9:∀ f:Fin 256,((a47 .and .i64 (f.val:Int) 128 != 0)=decide (128≤f.val))∧((a47 .and .i64 (f.val:Int) 64 != 0)=decide (f.val / 64 % 2=1)):=by decide +kernel
def bH4 (c:Ctx) (r:Raw):Bool:=decide (r.have_=1) && (decide (r.metric=65535) || (decide (0 < r.ae) && !(c.id==[])))
theorem ff8 {c:Ctx} {r:Raw}:ax9 (stp c,r,())=some ((bH4 c r,()),(stp c,())):=by
 rw [cO0]; unfold bH4
 refine a09 (fun h=>?_) (fun h=>?_)
 ·refine a09 (fun h1=>?_) (fun h1=>?_)
  ·simp [h,h1]
  ·refine a86 (fun h2=>?_) (fun h2=>?_)
   ·simp [h,h1,h2]
   ·simp [h1,h2]
 ·simp [h]
end Go.VP
namespace Go.VP
open Go Go.VI
theorem ff9:a96 (4,())=some (((([0,0,0,0]:Bs)),()),()):=by
 rw [ba7,if_pos (by unfold a98; decide)]; rfl
theorem f14 {c:Ctx} {r:Raw} {a:Bs} (hr:cU8 r) (ha:r.ae≠0→4≤a.length) (hb:a.length≤100000):av3 (stp c,r,a,())=some ((),(stp (a53 c r a),())):=by
 have hae:=hr.ae
 obtain ⟨f,hf⟩:∃ f:Fin 256,r.flags=(f.val:Int):=⟨⟨r.flags.toNat,by have:=hr.flags; omega⟩,by have:=hr.flags; simp; omega⟩
 obtain ⟨f1,f2⟩:=eS9 f
 rw [cB1]
 unfold a53
 refine a09 (fun h=>?_) (fun h=>?_)
 ·rw [if_pos h]
 have h4:=ha h
 rw [if_neg h,if_neg h,hf,f1,f2,if_pos hae,ff9,Option.bind_some]
 dsimp only
 have hl:((([0,0,0,0]:Bs)++a).length:Int) - 8=((a.length - 4:Nat):Int):=by simp; omega
 rw [if_pos (a11 (by simp; omega)),hl,w64 (by omega) (by omega),if_pos (show 0≤((a.length - 4:Nat):Int)∧((a.length - 4:Nat):Int)≤((([0,0,0,0]:Bs)++a).length:Int) by simp; omega),Int.toNat_natCast]
 have e1:(128≤(f.val:Int))↔128≤f.val:=by omega
 have e2:((f.val:Int) / 64 % 2=1)↔f.val / 64 % 2=1:=by omega
 refine a86 (fun g=>?_) (fun g=>?_)
 ·refine a86 (fun k=>?_) (fun k=>?_)
  ·rw [if_pos (e2.2 k),if_pos (e1.2 g)]; rfl
  ·rw [if_neg (fun x=>k (e2.1 x)),if_pos (e1.2 g)]
 ·refine a86 (fun k=>?_) (fun k=>?_)
  ·rw [Option.bind_some]
   dsimp only
   rw [if_pos (a11 (by simp; omega)),hl,w64 (by omega) (by omega),if_pos (show 0≤((a.length - 4:Nat):Int)∧((a.length - 4:Nat):Int)≤((([0,0,0,0]:Bs)++a).length:Int) by simp; omega),Int.toNat_natCast,if_pos (e2.2 k),if_neg (fun x=>g (e1.1 x))]; rfl
  ·rw [if_neg (fun x=>k (e2.1 x)),if_neg (fun x=>g (e1.1 x))]; rfl
theorem cu2 {d:Bs} (h:(a55 d).2.1=true):cU8 (a55 d).1∧(a55 d).2.2=0:=by
 have b0:=a31 d 0
 have b1:=a31 d 1
 have b2:=a31 d 2
 have b3:=a31 d 3
 unfold a55 at h ⊢
 split at h
 ·cases h
 rename_i h1
 split at h
 ·cases h
 rename_i h2
 rw [if_neg h1,if_neg h2]
 dsimp only at h ⊢
 split at h
 ·cases h
 rename_i h3
 split at h
 ·cases h
 rename_i h4
 rw [if_neg h3,if_neg h4]
 have h3:(ad0 d 10 (bt d 0) (bt d 2) (bt d 3)).2=0:=by simpa using h3
 have n8:=aF3 (a06 d 8 2)
 have l8:((a06 d 8 2).length:Int)=2:=a61 (by omega) (by omega) (by omega)
 have l8':(a06 d 8 2).length=2:=by omega
 rw [l8'] at n8
 unfold ad0 at h3 ⊢
 split at h3
 ·cases h3
 rename_i hg
 split at h3
 ·cases h3
 rename_i hl
 rw [if_neg hg,if_neg hl]
 have hg1:af7 (bt d 0) (bt d 2)=false:=by
  cases e:af7 (bt d 0) (bt d 2) with
  | false=>rfl
  | true=>exact absurd (.inl e) hg
 have hg2:0≤a43 (bt d 0) (bt d 2) (bt d 3):=by omega
 obtain ⟨q1,q2,q3,q4,q5⟩:=aV6 (ae:=bt d 0) (by omega) hg1
 have hcl:=a61 (s:=d) (p:=10) (n:=a43 (bt d 0) (bt d 2) (bt d 3)) (by omega) hg2 (by omega)
 have hp:as1 (bt d 0)≤bt d 2∧bt d 2≤ag1 (bt d 0):=by unfold af7 at hg1; simpa using hg1
 obtain ⟨r1,r2,r3,r4,r5,r6⟩:=an3 (ae:=bt d 0) (by omega) hp
 refine ⟨⟨by show 0≤bt d 0∧bt d 0 < 4; omega,b3.1,q5,?_,by show 0≤bt d 1∧bt d 1≤255; omega,by show 0≤num (a06 d 8 2)∧num (a06 d 8 2)≤65535; omega,?_,hp.1⟩,rfl⟩
 ·show bt d 3+((a06 d 10 (a43 (bt d 0) (bt d 2) (bt d 3))).length:Int)≤szA (bt d 0) - a52 (bt d 0)
  rw [hcl]
  unfold a43
  omega
 ·show (if _=true then (1:Int) else 0)=0∨(if _=true then (1:Int) else 0)=1
  split
  ·exact .inr rfl
  ·exact .inl rfl
def cU9 (c:Ctx) (r:Raw) (a:Bs):Msg:=⟨11,0,0,[],0,r.ae,a,r.plen,0,(if r.metric=65535 then [] else (if a56 r.ae=0 then c.next_c0 else c.next_c1)),r.metric,(if r.metric=65535 then [] else c.id),r.seq,0,r.interval,0,0,0,0,[],[],[],0,[],r.subs⟩
def aq7 (c:Ctx) (d:Bs):Ctx × List Msg × Int:=
 if (a55 d).2.1=true then
  (if (ac0 c (a55 d).1).2=true then
   (if bH4 (a53 c (a55 d).1 (ac0 c (a55 d).1).1) (a55 d).1=true then (a53 c (a55 d).1 (ac0 c (a55 d).1).1,[cU9 (a53 c (a55 d).1 (ac0 c (a55 d).1).1) (a55 d).1 (ac0 c (a55 d).1).1],0)
   else (a53 c (a55 d).1 (ac0 c (a55 d).1).1,[],0))
  else (c,[],9))
 else (c,[],(a55 d).2.2)
theorem cu3 {c:Ctx} {r:Raw} (hc:okC c) (hr:cU8 r) (h:(ac0 c r).2=true):((ac0 c r).1.length:Int)=szA r.ae:=by
 have hl:=hr.len
 have ho:=hr.om
 have hbs:=at2 r.ae
 unfold ac0 at h ⊢
 by_cases h0:r.omitted=0
 ·rw [if_pos h0]; exact cU7 hr.ae (by omega)
 ·rw [if_neg h0] at h ⊢
  by_cases he:af9 c r.ae=[]
  ·rw [if_pos he] at h; cases h
  ·rw [if_neg he]
   have hpl:=bb0 hc hr.ae he
   have hcl:((a06 (af9 c r.ae) (a52 r.ae) r.omitted).length:Int)=r.omitted:=a61 (by omega) ho (by omega)
   exact cU7 hr.ae (by rw [List.length_append]; omega)
theorem eT0 {c:Ctx} {ty at_:Int} {d:Bs} (hc:okC c) (hd:d.length≤1000):ar5 (stp c,⟨ty,at_,d⟩,())=some (((aq7 c d).2.1,(aq7 c d).2.2,()),(stp (aq7 c d).1,())):=by
 rw [cn0,ff5 hd,Option.bind_some]
 unfold aq7
 dsimp only [a35]
 cases h:(a55 d).2.1 with
 | false=>rw [a83,if_neg (by simp)]
 | true=>
  obtain ⟨hr,h0⟩:=cu2 h
  generalize (a55 d).1=r at *
  rw [a41,if_pos rfl,eK5 hc hr,Option.bind_some]
  dsimp only
  cases h2:(ac0 c r).2 with
  | false=>rw [a83,if_neg (by simp)]
  | true=>
   have hl:=cu3 hc hr h2
   have hsz:(r.ae≠0→4≤szA r.ae)∧szA r.ae≤16:=by unfold szA; refine ⟨fun h=>?_,?_⟩ <;> (split <;> (try split) <;> (try split) <;> omega)
   generalize (ac0 c r).1=a at *
   rw [a41,if_pos rfl,f14 hr (fun h=>by have:=hsz.1 h; omega) (by omega),Option.bind_some]
   dsimp only
   rw [ff8,Option.bind_some]
   dsimp only
   cases h3:bH4 (a53 c r a) r with
   | false=>rw [a83,if_neg (by simp)]
   | true=>
    rw [a41,if_pos rfl]
    unfold cU9
    refine a16 (fun hm=>?_) (fun hm=>?_)
    ·rw [if_neg hm,if_neg hm,cO7,Option.bind_some]
     dsimp only
     have hae:1≤r.ae∧r.ae≤3:=by
      have:=hr.ae
      unfold bH4 at h3
      simp [hm] at h3
      omega
     rw [if_pos (bD1 hae)]
    ·rw [if_pos hm,if_pos hm]
end Go.VP
namespace Go.VP
open Go Go.VI
theorem ae6 {c:Ctx} {r:Raw} {a:Bs} (hr:cU8 r):((a51 (c,r,a,())).bind fun r4=>(if (!r4.1.2.1)=true then (some ((c,[],0,()),()):Option ((Ctx × List Msg × Int × Unit) × Unit)) else some ((c,[r4.1.1],0,()),())))=some ((c,(if bH4 c r=true then [cU9 c r a] else []),0,()),()):=by
 have hae:=hr.ae
 have hh:=hr.have_
 rw [dY2]
 unfold bH4 cU9
 by_cases h0:r.have_=0
 ·rw [if_pos (by simp [h0]),Option.bind_some]
  dsimp only
  rw [a83,if_neg (by simp [h0])]
 have h1:r.have_=1:=by omega
 rw [if_neg (by simp [h0])]
 by_cases hm:r.metric=65535
 ·rw [if_pos (by simp [hm]),Option.bind_some]
  dsimp only
  rw [a41,if_pos (by simp [h1,hm]),if_pos hm,if_pos hm]
 rw [if_neg (by simp [hm])]
 by_cases ha:r.ae=0
 ·rw [if_pos (by simp [ha]),Option.bind_some]
  dsimp only
  rw [a83,if_neg (by simp [hm,ha])]
 rw [if_neg (by simp [ha])]
 by_cases hi:c.id=[]
 ·rw [if_pos (by simp [hi]),Option.bind_some]
  dsimp only
  rw [a83,if_neg (by simp [hm,hi])]
 rw [if_neg (by simpa using hi),cl5,Option.bind_some]
 dsimp only
 have hpos:0 < r.ae:=by omega
 rw [if_pos (bD1 (ae:=r.ae) (by omega)),Option.bind_some]
 dsimp only
 have hb:(decide (r.have_=1) && (decide (r.metric=65535) || decide (0 < r.ae) && !(c.id==[])))=true:=by simp [h1,hpos,hi]
 rw [a41,hb,ift,if_neg hm,if_neg hm]
theorem fg0 {c:Ctx} {d:Bs} (h:(a55 d).2.1=true) (h2:(ac0 c (a55 d).1).2=true):aq7 c d=(a53 c (a55 d).1 (ac0 c (a55 d).1).1,(if bH4 (a53 c (a55 d).1 (ac0 c (a55 d).1).1) (a55 d).1=true then [cU9 (a53 c (a55 d).1 (ac0 c (a55 d).1).1) (a55 d).1 (ac0 c (a55 d).1).1] else []),0):=by
 unfold aq7
 rw [if_pos h,if_pos h2]
 split <;> rfl
theorem eK6 {c:Ctx} {ty at_:Int} {d:Bs} (hc:okC c) (hd:d.length≤1000):aZ6 (c,⟨ty,at_,d⟩,())=some (((aq7 c d).1,(aq7 c d).2.1,(aq7 c d).2.2,()),()):=by
 rw [dt5,f13 hd,Option.bind_some]
 dsimp only [a35]
 cases h:(a55 d).2.1 with
 | false=>
  have:aq7 c d=(c,[],(a55 d).2.2):=by unfold aq7; rw [if_neg (by rw [h]; simp)]
  rw [a83,ite_self,this]
 | true=>
  obtain ⟨hr,h0⟩:=cu2 h
  refine a16 (fun e=>absurd h0 e) (fun _=>?_)
  rw [a41]
  have hu:=@fg0 c d h
  have hn:(ac0 c (a55 d).1).2=false→aq7 c d=(c,[],9):=fun e=>by unfold aq7; rw [if_pos h,if_neg (by rw [e]; simp)]
  have hal:=@cu3 c (a55 d).1 hc hr
  generalize aq7 c d=V at *
  generalize (a55 d).1=r at *
  have hae:=hr.ae; have hl:=hr.len; have ho:=hr.om; have hp:=hr.plen
  have hsz:(r.ae≠0→4≤szA r.ae)∧szA r.ae≤16:=by unfold szA; refine ⟨fun h=>?_,?_⟩ <;> (split <;> (try split) <;> (try split) <;> omega)
  have hbs:=at2 r.ae
  have hpre:(if r.ae=0 then c.prefix_c0 else (if r.ae=1 then c.prefix_c1 else (if r.ae=2 then c.prefix_c2 else c.prefix_c3)))=af9 c r.ae:=rfl
  rw [hpre]
  by_cases hom:r.omitted=0
  ·have e:ac0 c r=(ab4 r.ae r.bytes r.plen,true):=by unfold ac0; rw [if_pos hom]
   have hu:=hu (by rw [e])
   have hal:=hal (by rw [e])
   rw [e] at hu hal
   dsimp only at hu hal
   rw [ifn (by omega),if_pos (a11 (by omega)),List.nil_append]
   rw [cu1 hae (by omega) (fun h=>by rw [h] at hl; have:szA 0 - a52 0=0:=rfl; exact List.eq_nil_of_length_eq_zero (by omega)) (fun h=>by rw [h] at hl; have:szA 3 - a52 3=8:=rfl; omega),Option.bind_some]
   generalize ab4 r.ae r.bytes r.plen=a at *
   dsimp only
   rw [hu]
   have ha4:r.ae≠0→4≤a.length:=fun h=>by have:=hsz.1 h; omega
   have hfl:=hr.flags
   have e64:(IntKind.wrap .i64 (r.flags.tdiv 64)).tmod 2=r.flags / 64 % 2:=by
    rw [Int.tdiv_eq_ediv_of_nonneg hfl.1,w64 (by omega) (by omega),Int.tmod_eq_emod_of_nonneg (by omega)]
   rw [e64]
   by_cases a0:r.ae=0
   ·have ef:a53 c r a=c:=by unfold a53; rw [if_pos a0]
    have an:¬(r.ae != 0)=true:=by simp [a0]
    rw [if_neg an,if_neg an,ae6 hr,ef]
   have h4:=ha4 a0
   have ap:(r.ae != 0)=true:=by simp [a0]
   have al16:r.ae≠1→(a.length:Int)=16:=fun h1=>by
    rcases aq5 hae with h | h | h | h
    ·exact absurd h a0
    ·exact absurd h h1
    ·rw [hal,h]; rfl
    ·rw [hal,h]; rfl
   have al4:r.ae=1→(a.length:Int)=4:=fun h1=>by rw [hal,h1]; rfl
   have w1:r.ae=1→IntKind.wrap .i64 (((([0,0,0,0]:Bs)++a).length:Int) - 8)=0:=fun h1=>by
    have:=al4 h1
    have hl0:((([0,0,0,0]:Bs)++a).length:Int) - 8=0:=by rw [List.length_append]; simp; omega
    rw [hl0]; rfl
   have w2:r.ae≠1→IntKind.wrap .i64 ((a.length:Int) - 8)=8:=fun h1=>by rw [al16 h1]; rfl
   have id1:r.ae=1→(a53.z4'++a).drop (a.length - 4)=([0,0,0,0]:Bs)++a:=fun h1=>by
    have:=al4 h1
    rw [show a.length - 4=0 by omega]; rfl
   have id2:r.ae≠1→(a53.z4'++a).drop (a.length - 4)=a.drop 8:=fun h1=>by
    have:=al16 h1
    rw [show a.length - 4=a53.z4'.length+8 by show _=4+8; omega,List.drop_append,List.drop_eq_nil_of_le (by omega),List.nil_append,Nat.add_sub_cancel_left]
   have dz:∀ x:Bs,x.drop (0:Int).toNat=x:=fun x=>rfl
   have d8:∀ x:Bs,x.drop (8:Int).toNat=x.drop 8:=fun x=>rfl
   rw [if_pos ap]
   by_cases g:128≤r.flags
   ·rw [ifd g,if_pos hae,if_pos ap]
    by_cases k:r.flags / 64 % 2=1
    ·rw [if_pos (show (r.flags / 64 % 2==1)=true by simp [k])]
     by_cases a1:r.ae=1
     ·have ef:a53 c r a=⟨(if r.ae=0 then a else c.prefix_c0),(if r.ae=1 then a else c.prefix_c1),(if r.ae=2 then a else c.prefix_c2),(if r.ae=3 then a else c.prefix_c3),c.next_c0,c.next_c1,([0,0,0,0]:Bs)++a⟩:=by
       unfold a53; rw [if_neg a0,if_pos k,if_pos g,id1 a1]
      rw [if_pos (show (r.ae==1)=true by simp [a1]),if_pos (a11 (by omega)),w1 a1,if_pos (show 0≤(0:Int)∧(0:Int)≤((([0,0,0,0]:Bs)++a).length:Int) by omega),dz,ae6 hr,← ef]
     ·have ef:a53 c r a=⟨(if r.ae=0 then a else c.prefix_c0),(if r.ae=1 then a else c.prefix_c1),(if r.ae=2 then a else c.prefix_c2),(if r.ae=3 then a else c.prefix_c3),c.next_c0,c.next_c1,a.drop 8⟩:=by
       unfold a53; rw [if_neg a0,if_pos k,if_pos g,id2 a1]
      have:=al16 a1
      rw [if_neg (show ¬(r.ae==1)=true by simp [a1]),w2 a1,if_pos (show 0≤(8:Int)∧(8:Int)≤(a.length:Int) by omega),d8,ae6 hr,← ef]
    ·have ef:a53 c r a=⟨(if r.ae=0 then a else c.prefix_c0),(if r.ae=1 then a else c.prefix_c1),(if r.ae=2 then a else c.prefix_c2),(if r.ae=3 then a else c.prefix_c3),c.next_c0,c.next_c1,c.id⟩:=by
      unfold a53; rw [if_neg a0,if_neg k,if_pos g]
     rw [if_neg (show ¬(r.flags / 64 % 2==1)=true by simp [k]),ae6 hr,← ef]
   ·rw [ifn g,if_pos ap]
    by_cases k:r.flags / 64 % 2=1
    ·rw [if_pos (show (r.flags / 64 % 2==1)=true by simp [k])]
     by_cases a1:r.ae=1
     ·have ef:a53 c r a=⟨c.prefix_c0,c.prefix_c1,c.prefix_c2,c.prefix_c3,c.next_c0,c.next_c1,([0,0,0,0]:Bs)++a⟩:=by
       unfold a53; rw [if_neg a0,if_pos k,if_neg g,id1 a1]; rfl
      rw [if_pos (show (r.ae==1)=true by simp [a1]),if_pos (a11 (by omega)),w1 a1,if_pos (show 0≤(0:Int)∧(0:Int)≤((([0,0,0,0]:Bs)++a).length:Int) by omega),dz,ae6 hr,← ef]
     ·have ef:a53 c r a=⟨c.prefix_c0,c.prefix_c1,c.prefix_c2,c.prefix_c3,c.next_c0,c.next_c1,a.drop 8⟩:=by
       unfold a53; rw [if_neg a0,if_pos k,if_neg g,id2 a1]; rfl
      have:=al16 a1
      rw [if_neg (show ¬(r.ae==1)=true by simp [a1]),w2 a1,if_pos (show 0≤(8:Int)∧(8:Int)≤(a.length:Int) by omega),d8,ae6 hr,← ef]
    ·have ef:a53 c r a=c:=by
      unfold a53; rw [if_neg a0,if_neg k,if_neg g]; rfl
     rw [if_neg (show ¬(r.flags / 64 % 2==1)=true by simp [k]),ae6 hr,ef]
  ·rw [ifd (by omega),if_pos hae]
   refine c43 (fun he=>?_) (fun he=>?_)
   ·rw [hn (by unfold ac0; rw [if_neg hom,if_pos he])]
   have hpl:=bb0 hc hae he
   have hcl:((a06 (af9 c r.ae) (a52 r.ae) r.omitted).length:Int)=r.omitted:=a61 (by omega) ho (by omega)
   have e:ac0 c r=(ab4 r.ae (a06 (af9 c r.ae) (a52 r.ae) r.omitted++r.bytes) r.plen,true):=by unfold ac0; rw [if_neg hom,if_neg he]
   have hu:=hu (by rw [e])
   have hal:=hal (by rw [e])
   rw [e] at hu hal
   dsimp only at hu hal
   have hcut:((af9 c r.ae).drop (a52 r.ae).toNat).take r.omitted.toNat=a06 (af9 c r.ae) (a52 r.ae) r.omitted:=by
    unfold a06
    rw [List.drop_take,show (a52 r.ae+r.omitted).toNat - (a52 r.ae).toNat=r.omitted.toNat by omega]
   rw [ba9 hae,Option.bind_some]
   dsimp only
   rw [if_pos (show 0≤a52 r.ae∧a52 r.ae≤((af9 c r.ae).length:Int) by omega),if_pos (show 0≤r.omitted∧r.omitted≤(((af9 c r.ae).drop (a52 r.ae).toNat).length:Int) by rw [List.length_drop]; omega),hcut,if_pos (a11 (by omega))]
   rw [cu1 hae (by rw [List.length_append]; omega) (fun h=>by rw [h] at hl; have:szA 0 - a52 0=0:=rfl; omega) (fun h=>by rw [h] at hl hcl; have:szA 3 - a52 3=8:=rfl; rw [List.length_append]; rw [h]; omega),Option.bind_some]
   generalize ab4 r.ae (a06 (af9 c r.ae) (a52 r.ae) r.omitted++r.bytes) r.plen=a at *
   dsimp only
   rw [hu]
   have ha4:r.ae≠0→4≤a.length:=fun h=>by have:=hsz.1 h; omega
   have hfl:=hr.flags
   have e64:(IntKind.wrap .i64 (r.flags.tdiv 64)).tmod 2=r.flags / 64 % 2:=by
    rw [Int.tdiv_eq_ediv_of_nonneg hfl.1,w64 (by omega) (by omega),Int.tmod_eq_emod_of_nonneg (by omega)]
   rw [e64]
   by_cases a0:r.ae=0
   ·have ef:a53 c r a=c:=by unfold a53; rw [if_pos a0]
    have an:¬(r.ae != 0)=true:=by simp [a0]
    rw [if_neg an,if_neg an,ae6 hr,ef]
   have h4:=ha4 a0
   have ap:(r.ae != 0)=true:=by simp [a0]
   have al16:r.ae≠1→(a.length:Int)=16:=fun h1=>by
    rcases aq5 hae with h | h | h | h
    ·exact absurd h a0
    ·exact absurd h h1
    ·rw [hal,h]; rfl
    ·rw [hal,h]; rfl
   have al4:r.ae=1→(a.length:Int)=4:=fun h1=>by rw [hal,h1]; rfl
   have w1:r.ae=1→IntKind.wrap .i64 (((([0,0,0,0]:Bs)++a).length:Int) - 8)=0:=fun h1=>by
    have:=al4 h1
    have hl0:((([0,0,0,0]:Bs)++a).length:Int) - 8=0:=by rw [List.length_append]; simp; omega
    rw [hl0]; rfl
   have w2:r.ae≠1→IntKind.wrap .i64 ((a.length:Int) - 8)=8:=fun h1=>by rw [al16 h1]; rfl
   have id1:r.ae=1→(a53.z4'++a).drop (a.length - 4)=([0,0,0,0]:Bs)++a:=fun h1=>by
    have:=al4 h1
    rw [show a.length - 4=0 by omega]; rfl
   have id2:r.ae≠1→(a53.z4'++a).drop (a.length - 4)=a.drop 8:=fun h1=>by
    have:=al16 h1
    rw [show a.length - 4=a53.z4'.length+8 by show _=4+8; omega,List.drop_append,List.drop_eq_nil_of_le (by omega),List.nil_append,Nat.add_sub_cancel_left]
   have dz:∀ x:Bs,x.drop (0:Int).toNat=x:=fun x=>rfl
   have d8:∀ x:Bs,x.drop (8:Int).toNat=x.drop 8:=fun x=>rfl
   rw [if_pos ap]
   by_cases g:128≤r.flags
   ·rw [ifd g,if_pos hae,if_pos ap]
    by_cases k:r.flags / 64 % 2=1
    ·rw [if_pos (show (r.flags / 64 % 2==1)=true by simp [k])]
     by_cases a1:r.ae=1
     ·have ef:a53 c r a=⟨(if r.ae=0 then a else c.prefix_c0),(if r.ae=1 then a else c.prefix_c1),(if r.ae=2 then a else c.prefix_c2),(if r.ae=3 then a else c.prefix_c3),c.next_c0,c.next_c1,([0,0,0,0]:Bs)++a⟩:=by
       unfold a53; rw [if_neg a0,if_pos k,if_pos g,id1 a1]
      rw [if_pos (show (r.ae==1)=true by simp [a1]),if_pos (a11 (by omega)),w1 a1,if_pos (show 0≤(0:Int)∧(0:Int)≤((([0,0,0,0]:Bs)++a).length:Int) by omega),dz,ae6 hr,← ef]
     ·have ef:a53 c r a=⟨(if r.ae=0 then a else c.prefix_c0),(if r.ae=1 then a else c.prefix_c1),(if r.ae=2 then a else c.prefix_c2),(if r.ae=3 then a else c.prefix_c3),c.next_c0,c.next_c1,a.drop 8⟩:=by
       unfold a53; rw [if_neg a0,if_pos k,if_pos g,id2 a1]
      have:=al16 a1
      rw [if_neg (show ¬(r.ae==1)=true by simp [a1]),w2 a1,if_pos (show 0≤(8:Int)∧(8:Int)≤(a.length:Int) by omega),d8,ae6 hr,← ef]
    ·have ef:a53 c r a=⟨(if r.ae=0 then a else c.prefix_c0),(if r.ae=1 then a else c.prefix_c1),(if r.ae=2 then a else c.prefix_c2),(if r.ae=3 then a else c.prefix_c3),c.next_c0,c.next_c1,c.id⟩:=by
      unfold a53; rw [if_neg a0,if_neg k,if_pos g]
     rw [if_neg (show ¬(r.flags / 64 % 2==1)=true by simp [k]),ae6 hr,← ef]
   ·rw [ifn g,if_pos ap]
    by_cases k:r.flags / 64 % 2=1
    ·rw [if_pos (show (r.flags / 64 % 2==1)=true by simp [k])]
     by_cases a1:r.ae=1
     ·have ef:a53 c r a=⟨c.prefix_c0,c.prefix_c1,c.prefix_c2,c.prefix_c3,c.next_c0,c.next_c1,([0,0,0,0]:Bs)++a⟩:=by
       unfold a53; rw [if_neg a0,if_pos k,if_neg g,id1 a1]; rfl
      rw [if_pos (show (r.ae==1)=true by simp [a1]),if_pos (a11 (by omega)),w1 a1,if_pos (show 0≤(0:Int)∧(0:Int)≤((([0,0,0,0]:Bs)++a).length:Int) by omega),dz,ae6 hr,← ef]
     ·have ef:a53 c r a=⟨c.prefix_c0,c.prefix_c1,c.prefix_c2,c.prefix_c3,c.next_c0,c.next_c1,a.drop 8⟩:=by
       unfold a53; rw [if_neg a0,if_pos k,if_neg g,id2 a1]; rfl
      have:=al16 a1
      rw [if_neg (show ¬(r.ae==1)=true by simp [a1]),w2 a1,if_pos (show 0≤(8:Int)∧(8:Int)≤(a.length:Int) by omega),d8,ae6 hr,← ef]
    ·have ef:a53 c r a=c:=by
      unfold a53; rw [if_neg a0,if_neg k,if_neg g]; rfl
     rw [if_neg (show ¬(r.flags / 64 % 2==1)=true by simp [k]),ae6 hr,ef]
def b12 (c:Ctx) (ty:Int) (d:Bs):Ctx × List Msg × Int:=
 if ty=6 then ((idF c d).1,[],(idF c d).2) else if ty=7 then ((cB7 c d).1,[],(cB7 c d).2) else if ty=8 then aq7 c d else (c,[],0)
theorem dM1 {c:Ctx} {ty at_:Int} {d:Bs} (hc:okC c) (hd:d.length≤1000):aX3 (c,⟨ty,at_,d⟩,())=some (((b12 c ty d).1,(b12 c ty d).2.1,(b12 c ty d).2.2,()),()):=by
 rw [ep1]
 unfold b12
 refine a09 (fun h=>?_) (fun h=>?_)
 ·have:=fn5 (c:=c) (d:=d) (by omega)
  unfold stp at this
  dsimp only
  rw [this,if_pos h]; rfl
 rw [if_neg h]
 refine a09 (fun h=>?_) (fun h=>?_)
 ·have:=fk6 (c:=c) (d:=d) (by omega)
  unfold stp at this
  dsimp only
  rw [this,if_pos h]; rfl
 rw [if_neg h]
 refine a09 (fun h=>?_) (fun h=>?_)
 ·have:=eT0 (c:=c) (ty:=ty) (at_:=at_) (d:=d) hc hd
  unfold stp at this
  rw [this,if_pos h]; rfl
 ·rw [if_neg h]
theorem dm2 {c:Ctx} {ty at_:Int} {d:Bs} (hc:okC c) (hd:d.length≤1000) (ht:ty=6∨ty=7∨ty=8):aE9 (c,⟨ty,at_,d⟩,())=some (((b12 c ty d).1,(b12 c ty d).2.1,(b12 c ty d).2.2,()),()):=by
 rw [dZ3]
 unfold b12
 dsimp only
 refine a09 (fun h=>?_) (fun h=>?_)
 ·rw [eh4 (by omega) (by omega),Option.bind_some,if_pos h]
  unfold idF
  dsimp only
  cases hk:(aj9 d 10).1 with
  | false=>rw [aa1,ite_self,if_neg (by simp)]
  | true=>
   have:=aF5 hk
   rw [this.1,if_pos (by decide),ift,if_pos (by omega),if_pos rfl]; rfl
 rw [if_neg h]
 refine a09 (fun h=>?_) (fun h=>?_)
 ·rw [ff7 (by omega),Option.bind_some,if_pos h]
 ·rw [if_neg h,eK6 hc hd,Option.bind_some,if_pos (by omega)]
end Go.VP
namespace Go.VP
open Go Go.VI
theorem f24:okC ⟨[],[],[],[],[],[],[]⟩:=⟨rfl,.inl rfl,.inl rfl,.inl rfl,.inl rfl,.inl rfl,.inl rfl⟩
theorem fk7 {c:Ctx} {d:Bs} (h:okC c):okC (idF c d).1:=by
 unfold idF
 cases hk:(aj9 d 10).1 with
 | false=>rw [if_neg (by simp)]; exact h
 | true=>
  have:=aF5 hk
  rw [if_pos rfl]
  obtain ⟨h0,h1,h2,h3,h4,h5,h6⟩:=h
  refine ⟨h0,h1,h2,h3,h4,h5,.inr ?_⟩
  have hl:=a61 (s:=d) (p:=2) (n:=8) (by omega) (by omega) (by omega)
  show (a06 d 2 8).length=8
  omega
theorem fg1 {c:Ctx} {d:Bs} (h:okC c):okC (cB7 c d).1:=by
 unfold cB7
 split
 ·exact h
 split
 ·exact h
 rename_i h2 hr
 cases hk:(aj9 d (2+am6 (bt d 0))).1 with
 | false=>rw [if_neg (by simp)]; exact h
 | true=>
  have hl:=aF5 hk
  rw [if_pos rfl]
  obtain ⟨h0,h1,h2,h3,h4,h5,h6⟩:=h
  have hn:=dM0 (bt d 0)
  have hc:=a61 (s:=d) (p:=2) (n:=am6 (bt d 0)) (by omega) (by omega) (by omega)
  have hv:bt d 0=1∨bt d 0=2∨bt d 0=3:=by omega
  have hlong:bt d 0=3→(aj6 (a06 d 2 (am6 (bt d 0)))).1.length=16:=fun e=>by
   have h8:am6 (bt d 0)=8:=by rw [e]; rfl
   rw [h8] at hc ⊢
   unfold aj6
   rw [if_pos (by omega),List.length_append]
   show 8+(a06 d 2 8).length=16
   omega
  refine ⟨h0,h1,h2,h3,?_,?_,h6⟩
  ·show (if a56 (bt d 0)=0 then cB6 d else c.next_c0)=[]∨(if a56 (bt d 0)=0 then cB6 d else c.next_c0).length=4
   rcases hv with e | e | e
   ·rw [if_pos (by rw [e]; rfl)]
    right
    unfold cB6
    rw [if_neg (by omega)]
    have:am6 (bt d 0)=4:=by rw [e]; rfl
    omega
   ·rw [if_neg (by rw [e]; decide)]; exact h4
   ·rw [if_neg (by rw [e]; decide)]; exact h4
  ·show (if a56 (bt d 0)=1 then cB6 d else c.next_c1)=[]∨(if a56 (bt d 0)=1 then cB6 d else c.next_c1).length=16
   rcases hv with e | e | e
   ·rw [if_neg (by rw [e]; decide)]; exact h5
   ·rw [if_pos (by rw [e]; rfl)]
    right
    unfold cB6
    rw [if_neg (by omega)]
    have:am6 (bt d 0)=16:=by rw [e]; rfl
    omega
   ·rw [if_pos (by rw [e]; rfl)]
    right
    unfold cB6
    rw [if_pos e]
    exact hlong e
theorem dZ5 {c:Ctx} {r:Raw} (hc:okC c) (hr:cU8 r) (h:(ac0 c r).2=true) (h3:r.ae=3):a79 (ac0 c r).1=true:=by
 have hl:=hr.len
 have ho:=hr.om
 have hlow:=hr.low
 have hbs:=at2 r.ae
 have s3:szA r.ae - a52 r.ae=8:=by rw [h3]; rfl
 have hp:64≤r.plen:=by rw [h3] at hlow; exact hlow
 unfold ac0 at h ⊢
 by_cases h0:r.omitted=0
 ·rw [if_pos h0,h3]; exact cB5 hp (by omega)
 ·rw [if_neg h0] at h ⊢
  by_cases he:af9 c r.ae=[]
  ·rw [if_pos he] at h; cases h
  ·rw [if_neg he]
   have hpl:=bb0 hc hr.ae he
   have hcl:((a06 (af9 c r.ae) (a52 r.ae) r.omitted).length:Int)=r.omitted:=a61 (by omega) ho (by omega)
   rw [h3] at hcl ⊢
   exact cB5 hp (by rw [List.length_append]; omega)
theorem eh5 {c:Ctx} {r:Raw} {a:Bs} (h:okC c) (hr:cU8 r) (hl:(a.length:Int)=szA r.ae) (h3:r.ae=3→a79 a=true):okC (a53 c r a):=by
 unfold a53
 split
 ·exact h
 rename_i a0
 have hae:=hr.ae
 have hid:okC (av5 c (if r.flags / 64 % 2=1 then (a53.z4'++a).drop (a.length - 4) else c.id))∧((if r.flags / 64 % 2=1 then (a53.z4'++a).drop (a.length - 4) else c.id)=[]∨(if r.flags / 64 % 2=1 then (a53.z4'++a).drop (a.length - 4) else c.id).length=8):=by
  have h4:4≤a.length:=by
   rcases aq5 hae with e | e | e | e
   ·exact absurd e a0
   ·rw [e] at hl; have:szA 1=4:=rfl; omega
   ·rw [e] at hl; have:szA 2=16:=rfl; omega
   ·rw [e] at hl; have:szA 3=16:=rfl; omega
  have h8:(if r.flags / 64 % 2=1 then (a53.z4'++a).drop (a.length - 4) else c.id)=[]∨(if r.flags / 64 % 2=1 then (a53.z4'++a).drop (a.length - 4) else c.id).length=8:=by
   split
   ·right; rw [List.length_drop,List.length_append]; show 4+a.length - (a.length - 4)=8; omega
   ·exact h.2.2.2.2.2.2
  obtain ⟨h0,h1,h2,h3,h4,h5,h6⟩:=h
  exact ⟨⟨h0,h1,h2,h3,h4,h5,h8⟩,h8⟩
 obtain ⟨h0,h1,h2,h3',h4,h5,h6⟩:=h
 dsimp only
 split
 ·refine ⟨?_,?_,?_,?_,h4,h5,hid.2⟩
  ·exact h0
  ·show (if r.ae=1 then a else c.prefix_c1)=[]∨(if r.ae=1 then a else c.prefix_c1).length=4
   split
   ·rename_i e; rw [e] at hl; have:szA 1=4:=rfl; right; omega
   ·exact h1
  ·show (if r.ae=2 then a else c.prefix_c2)=[]∨(if r.ae=2 then a else c.prefix_c2).length=16
   split
   ·rename_i e; rw [e] at hl; have:szA 2=16:=rfl; right; omega
   ·exact h2
  ·show (if r.ae=3 then a else c.prefix_c3)=[]∨a79 (if r.ae=3 then a else c.prefix_c3)=true
   split
   ·rename_i e; exact .inr (h3 e)
   ·exact h3'
 ·exact hid.1
theorem fg2 {c:Ctx} {d:Bs} (h:okC c):okC (aq7 c d).1:=by
 unfold aq7
 split
 ·rename_i ht
  obtain ⟨hr,_⟩:=cu2 ht
  split
  ·rename_i ha
   have:=eh5 h hr (cu3 h hr ha) (dZ5 h hr ha)
   split <;> exact this
  ·exact h
 ·exact h
theorem f25 {c:Ctx} {ty:Int} {d:Bs} (h:okC c):okC (b12 c ty d).1:=by
 unfold b12
 split
 ·exact fk7 h
 split
 ·exact fg1 h
 split
 ·exact fg2 h
 ·exact h
end Go.VP
namespace Go.VP
open Go Go.VI
def do8 (ty:Int) (d:Bs):Msg:=⟨14,0,0,[],0,0,[],0,0,[],0,[],0,0,0,0,0,0,0,[],[],[],ty,d,[]⟩
def bD3 (c:Ctx) (x:Msg × Bool × Int):Ctx × List Msg × Int:=if x.2.2≠0 then (c,[],x.2.2) else if x.2.1=true then (c,[x.1],0) else (c,[],0)
theorem aM4 (c:Ctx) (x:Msg × Bool × Int):(if (x.2.2 != 0)=true then (some ((c,[],x.2.2,()),()):Option ((Ctx × List Msg × Int × Unit) × Unit)) else (if (!x.2.1)=true then some ((c,[],x.2.2,()),()) else some ((c,[x.1],0,()),())))=some (((bD3 c x).1,(bD3 c x).2.1,(bD3 c x).2.2,()),()):=by
 obtain ⟨m,k,e⟩:=x
 unfold bD3
 dsimp only
 refine a16 (fun h=>by rw [if_pos h]) (fun h=>?_)
 rw [if_neg (show ¬e≠0 from fun q=>q h)]
 cases k with
 | false=>rw [a83,if_neg (by simp),h]
 | true=>rw [a41,if_pos rfl]
def ak7 (c:Ctx) (ty:Int) (d:Bs):Ctx × List Msg × Int:=
 if ty=0∨ty=1 then (c,[],0) else if ty=6∨ty=7∨ty=8 then b12 c ty d
 else if 2≤ty∧ty≤5 then bD3 c (bp7 ty d) else if ty=9∨ty=10 then bD3 c (aF4 ty d) else (c,[do8 ty d],0)
theorem fk8 {c:Ctx} {ty at_:Int} {d:Bs} (hc:okC c) (hd:d.length≤1000):bi6 (c,⟨ty,at_,d⟩,())=some (((ak7 c ty d).1,(ak7 c ty d).2.1,(ak7 c ty d).2.2,()),()):=by
 have hcases:ty=0∨ty=1∨ty=2∨ty=3∨ty=4∨ty=5∨ty=6∨ty=7∨ty=8∨ty=9∨ty=10∨(ty≠0∧ty≠1∧ty≠2∧ty≠3∧ty≠4∧ty≠5∧ty≠6∧ty≠7∧ty≠8∧ty≠9∧ty≠10):=by omega
 rw [dY9]
 dsimp only
 rcases hcases with rfl | rfl | rfl | rfl | rfl | rfl | rfl | rfl | rfl | rfl | rfl | ⟨h0,h1,h2,h3,h4,h5,h6,h7,h8,h9,h10⟩
 ·rfl
 ·rfl
 ·simp only [Int.reduceBEq,Bool.false_eq_true,if_false,if_true]
  rw [do7 hd (by decide),Option.bind_some]
  exact aM4 c _
 ·simp only [Int.reduceBEq,Bool.false_eq_true,if_false,if_true]
  rw [do7 hd (by decide),Option.bind_some]
  exact aM4 c _
 ·simp only [Int.reduceBEq,Bool.false_eq_true,if_false,if_true]
  rw [do7 hd (by decide),Option.bind_some]
  exact aM4 c _
 ·simp only [Int.reduceBEq,Bool.false_eq_true,if_false,if_true]
  rw [do7 hd (by decide),Option.bind_some]
  exact aM4 c _
 ·simp only [Int.reduceBEq,Bool.false_eq_true,if_false,if_true]
  rw [dM1 hc hd,Option.bind_some]; rfl
 ·simp only [Int.reduceBEq,Bool.false_eq_true,if_false,if_true]
  rw [dM1 hc hd,Option.bind_some]; rfl
 ·simp only [Int.reduceBEq,Bool.false_eq_true,if_false,if_true]
  rw [dM1 hc hd,Option.bind_some]; rfl
 ·simp only [Int.reduceBEq,Bool.false_eq_true,if_false,if_true]
  rw [eE6 hd (by decide),Option.bind_some]
  exact aM4 c _
 ·simp only [Int.reduceBEq,Bool.false_eq_true,if_false,if_true]
  rw [eE6 hd (by decide),Option.bind_some]
  exact aM4 c _
 ·have e:∀ k:Int,ty≠k→(ty==k)=false:=fun k h=>by simpa using h
  simp only [e _ h0,e _ h1,e _ h2,e _ h3,e _ h4,e _ h5,e _ h6,e _ h7,e _ h8,e _ h9,e _ h10,Bool.false_eq_true,if_false]
  unfold ak7
  rw [if_neg (by omega),if_neg (by omega),if_neg (by omega),if_neg (by omega)]; rfl
theorem fg3 {c:Ctx} {ty at_:Int} {d:Bs} (hc:okC c) (hd:d.length≤1000):bG3 (c,⟨ty,at_,d⟩,())=some (((ak7 c ty d).1,(ak7 c ty d).2.1,(ak7 c ty d).2.2,()),()):=by
 have hcases:ty=0∨ty=1∨ty=2∨ty=3∨ty=4∨ty=5∨ty=6∨ty=7∨ty=8∨ty=9∨ty=10∨(ty≠0∧ty≠1∧ty≠2∧ty≠3∧ty≠4∧ty≠5∧ty≠6∧ty≠7∧ty≠8∧ty≠9∧ty≠10):=by omega
 rw [e81]
 dsimp only
 rcases hcases with rfl | rfl | rfl | rfl | rfl | rfl | rfl | rfl | rfl | rfl | rfl | ⟨h0,h1,h2,h3,h4,h5,h6,h7,h8,h9,h10⟩
 ·rfl
 ·rfl
 ·simp only [Int.reduceBEq,Bool.false_eq_true,if_false,if_true]
  rw [cU2 hd (by decide),Option.bind_some]
  exact aM4 c _
 ·simp only [Int.reduceBEq,Bool.false_eq_true,if_false,if_true]
  rw [cU2 hd (by decide),Option.bind_some]
  exact aM4 c _
 ·simp only [Int.reduceBEq,Bool.false_eq_true,if_false,if_true]
  rw [cU2 hd (by decide),Option.bind_some]
  exact aM4 c _
 ·simp only [Int.reduceBEq,Bool.false_eq_true,if_false,if_true]
  rw [cU2 hd (by decide),Option.bind_some]
  exact aM4 c _
 ·simp only [Int.reduceBEq,Bool.false_eq_true,if_false,if_true]
  rw [dm2 hc hd (by decide),Option.bind_some]; rfl
 ·simp only [Int.reduceBEq,Bool.false_eq_true,if_false,if_true]
  rw [dm2 hc hd (by decide),Option.bind_some]; rfl
 ·simp only [Int.reduceBEq,Bool.false_eq_true,if_false,if_true]
  rw [dm2 hc hd (by decide),Option.bind_some]; rfl
 ·simp only [Int.reduceBEq,Bool.false_eq_true,if_false,if_true]
  rw [ew8 hd (by decide),Option.bind_some]
  exact aM4 c _
 ·simp only [Int.reduceBEq,Bool.false_eq_true,if_false,if_true]
  rw [ew8 hd (by decide),Option.bind_some]
  exact aM4 c _
 ·have e:∀ k:Int,ty≠k→(ty==k)=false:=fun k h=>by simpa using h
  simp only [e _ h0,e _ h1,e _ h2,e _ h3,e _ h4,e _ h5,e _ h6,e _ h7,e _ h8,e _ h9,e _ h10,Bool.false_eq_true,if_false]
  unfold ak7
  rw [if_neg (by omega),if_neg (by omega),if_neg (by omega),if_neg (by omega)]; rfl
end Go.VP
namespace Go.VP
open Go Go.VI
theorem eE7 (c:Ctx) (x:Msg × Bool × Int):(bD3 c x).1=c∧(bD3 c x).2.1.length≤1:=by
 unfold bD3; split
 ·exact ⟨rfl,by simp⟩
 split <;> exact ⟨rfl,by simp⟩
theorem f26 (c:Ctx) (d:Bs):(aq7 c d).2.1.length≤1:=by
 unfold aq7; split
 ·split
  ·split <;> simp
  ·simp
 ·simp
theorem do9 {c:Ctx} {ty:Int} {d:Bs} (h:okC c):okC (ak7 c ty d).1∧(ak7 c ty d).2.1.length≤1:=by
 unfold ak7
 split
 ·exact ⟨h,by simp⟩
 split
 ·refine ⟨f25 h,?_⟩
  unfold b12
  split
  ·simp
  split
  ·simp
  split
  ·exact f26 c d
  ·simp
 split
 ·have:=eE7 c (bp7 ty d); exact ⟨by rw [this.1]; exact h,this.2⟩
 split
 ·have:=eE7 c (aF4 ty d); exact ⟨by rw [this.1]; exact h,this.2⟩
 ·exact ⟨h,by simp⟩
def c0:Ctx:=⟨[],[],[],[],[],[],[]⟩
def a80:Ctx→List Tlv→List Msg→List Msg × Ctx × Int × Int
 | c,[],acc=>(acc,c,0,0)
 | c,t::r,acc=>if (ak7 c t.type_ t.data).2.2≠0 then ([],c0,t.at_,(ak7 c t.type_ t.data).2.2) else a80 (ak7 c t.type_ t.data).1 r (acc++(ak7 c t.type_ t.data).2.1)
theorem eT1:am8≤100000:=Nat.le_of_ble_eq_true (by kernel_rfl)
theorem eT2 {n:Nat} {l:List Tlv} (hl:l.length≤100000) (hd:∀ t∈l,t.data.length≤1000):∀ (k m i:Nat) (c:Ctx) (acc:List Msg),i+k=l.length→k < m→okC c→acc.length≤i→
  aQ2 n m l acc c.prefix_c0 c.prefix_c1 c.prefix_c2 c.prefix_c3 c.next_c0 c.next_c1 c.id i=some (((a80 c (l.drop i) acc).1,(a80 c (l.drop i) acc).2.1,(a80 c (l.drop i) acc).2.2.1,(a80 c (l.drop i) acc).2.2.2,()),()):=by
 intro k
 induction k with
 | zero=>
  intro m i c acc h hm hc ha
  obtain ⟨m,rfl⟩:∃ k,m=k+1:=⟨m - 1,by omega⟩
  rw [bL3,ifn (by omega),List.drop_eq_nil_of_le (by omega)]; rfl
 | succ k ih=>
  intro m i c acc h hm hc ha
  obtain ⟨m,rfl⟩:∃ k,m=k+1:=⟨m - 1,by omega⟩
  have hi:i < l.length:=by omega
  have h1:=fk8 (at_:=l[i].at_) (ty:=l[i].type_) hc (hd _ (List.getElem_mem hi))
  obtain ⟨o1,o2⟩:=do9 (ty:=l[i].type_) (d:=l[i].data) hc
  have:=ih m (i+1) _ (acc++(ak7 c l[i].type_ l[i].data).2.1) (by omega) (by omega) o1 (by rw [List.length_append]; omega)
  rw [show ((i+1:Nat):Int)=(i:Int)+1 by omega] at this
  have hp:0≤(i:Int):=by omega
  have hbo:=eT1
  rw [bL3,ifd (by omega),if_pos hp,Int.toNat_natCast,a27 hi,List.drop_eq_getElem_cons hi,a80]
  rw [show (a03.mk c.prefix_c0 c.prefix_c1 c.prefix_c2 c.prefix_c3 c.next_c0 c.next_c1 c.id)=c from rfl,h1,Option.bind_some]
  dsimp only
  refine a16 (fun he=>?_) (fun he=>?_)
  ·rw [if_pos hp,a27 hi,if_pos he]; rfl
  ·rw [if_pos (a89 (Nat.le_trans (Nat.mul_le_mul (show acc.length+(ak7 c l[i].type_ l[i].data).2.1.length≤100001 by omega) hbo) (by decide))),w64 (by omega) (by omega),this,if_neg (fun q=>q he)]
theorem eK7 {n:Nat} {l:List Tlv} (hl:l.length≤100000) (hd:∀ t∈l,t.data.length≤1000):∀ (k m i:Nat) (c:Ctx) (acc:List Msg),i+k=l.length→k < m→okC c→acc.length≤i→
  aZ7 n m l acc c.prefix_c0 c.prefix_c1 c.prefix_c2 c.prefix_c3 c.next_c0 c.next_c1 c.id i=some (((a80 c (l.drop i) acc).1,(a80 c (l.drop i) acc).2.1,(a80 c (l.drop i) acc).2.2.1,(a80 c (l.drop i) acc).2.2.2,()),()):=by
 intro k
 induction k with
 | zero=>
  intro m i c acc h hm hc ha
  obtain ⟨m,rfl⟩:∃ k,m=k+1:=⟨m - 1,by omega⟩
  rw [bY6,ifn (by omega),List.drop_eq_nil_of_le (by omega)]; rfl
 | succ k ih=>
  intro m i c acc h hm hc ha
  obtain ⟨m,rfl⟩:∃ k,m=k+1:=⟨m - 1,by omega⟩
  have hi:i < l.length:=by omega
  have h1:=fg3 (at_:=l[i].at_) (ty:=l[i].type_) hc (hd _ (List.getElem_mem hi))
  obtain ⟨o1,o2⟩:=do9 (ty:=l[i].type_) (d:=l[i].data) hc
  have:=ih m (i+1) _ (acc++(ak7 c l[i].type_ l[i].data).2.1) (by omega) (by omega) o1 (by rw [List.length_append]; omega)
  rw [show ((i+1:Nat):Int)=(i:Int)+1 by omega] at this
  have hp:0≤(i:Int):=by omega
  have hbo:=eT1
  rw [bY6,ifd (by omega),if_pos hp,Int.toNat_natCast,a27 hi,List.drop_eq_getElem_cons hi,a80]
  rw [show (a03.mk c.prefix_c0 c.prefix_c1 c.prefix_c2 c.prefix_c3 c.next_c0 c.next_c1 c.id)=c from rfl,h1,Option.bind_some]
  dsimp only
  refine a16 (fun he=>?_) (fun he=>?_)
  ·rw [if_pos hp,a27 hi,if_pos he]; rfl
  ·rw [if_pos (a89 (Nat.le_trans (Nat.mul_le_mul (show acc.length+(ak7 c l[i].type_ l[i].data).2.1.length≤100001 by omega) hbo) (by decide))),w64 (by omega) (by omega),this,if_neg (fun q=>q he)]
theorem cl6:okC c0:=f24
theorem fg4 {l:List Tlv} (hl:l.length≤100000) (hd:∀ t∈l,t.data.length≤1000):b57 (l,())=some (((a80 c0 l []).1,(a80 c0 l []).2.1,(a80 c0 l []).2.2.1,(a80 c0 l []).2.2.2,()),()):=by
 show bO6 a04 (l,())=_
 rw [dK9]
 exact eT2 (n:=a04) hl hd l.length a04 0 c0 [] (by omega) (a28 (by omega)) cl6 (by simp)
theorem f27 {l:List Tlv} (hl:l.length≤100000) (hd:∀ t∈l,t.data.length≤1000):bm7 (l,())=some (((a80 c0 l []).1,(a80 c0 l []).2.1,(a80 c0 l []).2.2.1,(a80 c0 l []).2.2.2,()),()):=by
 show ce7 a04 (l,())=_
 rw [dV0]
 exact eK7 (n:=a04) hl hd l.length a04 0 c0 [] (by omega) (a28 (by omega)) cl6 (by simp)
end Go.VP
namespace Go.VP
open Go Go.VI
theorem eh6:∀ (a:List Tlv) (c:Ctx) (acc:List Msg),(a80 c a acc).2.2.2≠0→(a80 c a acc).1=[]∧(a80 c a acc).2.1=c0
 | [],c,acc,h=>absurd rfl h
 | t::r,c,acc,h=>by
  rw [a80] at h ⊢
  by_cases he:(ak7 c t.type_ t.data).2.2≠0
  ·rw [if_pos he]; exact ⟨rfl,rfl⟩
  ·rw [if_neg he] at h ⊢
   exact eh6 r _ _ h
theorem dZ6:∀ (a:List Tlv) (c:Ctx) (acc:List Msg),(a80 c a acc).2.2.2=0→(a80 c a acc).2.2.1=0
 | [],c,acc,h=>rfl
 | t::r,c,acc,h=>by
  rw [a80] at h ⊢
  by_cases he:(ak7 c t.type_ t.data).2.2≠0
  ·rw [if_pos he] at h; exact absurd h he
  ·rw [if_neg he] at h ⊢
   exact dZ6 r _ _ h
theorem eh7:∀ (a:List Tlv) (c:Ctx) (acc:List Msg),okC c→(a80 c a acc).1.length≤acc.length+a.length∧okC (a80 c a acc).2.1
 | [],c,acc,hc=>⟨by show acc.length≤_; omega,hc⟩
 | t::r,c,acc,hc=>by
  rw [a80]
  obtain ⟨h1,h2⟩:=do9 (ty:=t.type_) (d:=t.data) hc
  by_cases he:(ak7 c t.type_ t.data).2.2≠0
  ·rw [if_pos he]; exact ⟨by simp,cl6⟩
  ·rw [if_neg he]
   obtain ⟨h3,h4⟩:=eh7 r _ (acc++(ak7 c t.type_ t.data).2.1) h1
   exact ⟨by simp only [List.length_append,List.length_cons] at h3 ⊢; omega,h4⟩
theorem eh8 {P:Msg→Prop} {Q:Tlv→Prop} (hP:∀ c t,okC c→Q t→∀ m∈(ak7 c t.type_ t.data).2.1,P m):∀ (a:List Tlv) (c:Ctx) (acc:List Msg),okC c→(∀ t∈a,Q t)→(∀ m∈acc,P m)→∀ m∈(a80 c a acc).1,P m
 | [],c,acc,hc,hq,h=>h
 | t::r,c,acc,hc,hq,h=>by
  rw [a80]
  obtain ⟨h1,h2⟩:=do9 (ty:=t.type_) (d:=t.data) hc
  by_cases he:(ak7 c t.type_ t.data).2.2≠0
  ·rw [if_pos he]; intro m hm; cases hm
  ·rw [if_neg he]
   refine eh8 hP r _ _ h1 (fun x hx=>hq x (List.mem_cons_of_mem _ hx)) (fun m hm=>?_)
   rcases List.mem_append.1 hm with hm | hm
   ·exact h m hm
   ·exact hP _ _ hc (hq t (List.mem_cons_self ..)) m hm
def Except.app (x:Except Int (List Tlv)) (a:List Tlv):Except Int (List Tlv):=x.map (a++·)
end Go.VP
namespace Go.VP
open Go Go.VI
structure au9 (m:Msg):Prop where
 kind:m.kind=11
 bare:a68 m=true
 subs:ac8 m.subs=true
 inn:inB m.ae m.prefix_ m.plen=true
 iv:0≤m.interval∧m.interval < 65536
 sq:0≤m.seq∧m.seq < 65536
 me:0≤m.metric∧m.metric < 65536
 far:m.metric=65535→m.id=[]∧m.next=[]
 near:m.metric≠65535→0 < m.ae∧m.id.length=8∧(m.next=[]∨aP4 m.next=a56 m.ae)
def eq4 (m:Msg):Bool:=if m.metric=65535 then (m.id==[] && m.next==[]) else decide (0 < m.ae) && (decide (m.id.length=8) && (m.next==[] || decide (aP4 m.next=a56 m.ae)))
noncomputable def dm3 (m:Msg):Bool:=decide (m.kind=11) && (a68 m && (ac8 m.subs && (inB m.ae m.prefix_ m.plen && (a25 m.interval 2 && (a25 m.seq 2 && (a25 m.metric 2 && eq4 m))))))
theorem dM2 {m:Msg}:dm3 m=true↔au9 m:=by
 unfold dm3 eq4
 simp only [Bool.and_eq_true,decide_eq_true_eq,b47]
 constructor
 ·rintro ⟨a,b,c,d,e,f,g,h⟩
  refine ⟨a,b,c,d,e,f,g,fun hm=>?_,fun hm=>?_⟩
  ·rw [if_pos hm] at h; simpa using h
  ·rw [if_neg hm] at h; simpa using h
 ·intro h
  refine ⟨h.1,h.2,h.3,h.4,h.5,h.6,h.7,?_⟩
  by_cases hm:m.metric=65535
  ·rw [if_pos hm]; simpa using h.far hm
  ·rw [if_neg hm]; simpa using h.near hm
def eK8 (ae:Int) (a:Bs) (plen:Int):Msg:=⟨12,0,0,[],0,ae,a,plen,0,[],0,[],0,0,0,0,0,0,0,[],[],[],0,[],[]⟩
theorem au9.asR {m:Msg} (h:au9 m):ay8 (eK8 m.ae m.prefix_ m.plen):=by
 obtain ⟨a,b,c,d,e⟩:=cO6.1 h.inn
 have hb:ab0 (eK8 m.ae m.prefix_ m.plen)=some (eK8 m.ae m.prefix_ m.plen):=rfl
 exact ⟨by rw [a68,hb]; exact af8 _,rfl,a,b,c,d,e,rfl⟩
def av6:Bs→Bs→Nat
 | a::x,b::y=>if a=b then av6 x y+1 else 0
 | _,_=>0
theorem ex0:∀ x y:Bs,av6 x y≤x.length∧av6 x y≤y.length
 | [],y=>by simp [av6]
 | a::x,[]=>by simp [av6]
 | a::x,b::y=>by
  have:=ex0 x y
  rw [av6]; split <;> simp <;> omega
def eK9 (ae:Int):Int:=if ae=0 then 0 else 128
def f28 (m:Msg) (n:Nat):Bs:=[a01 m.ae,a01 (eK9 m.ae),a01 m.plen,a01 n]++(be 2 m.interval++(be 2 m.seq++(be 2 m.metric++((aa4 m).drop n++a73 m.subs))))
theorem au9.pre {m:Msg} (h:au9 m):(0≤m.ae∧m.ae < 4)∧(0≤m.plen∧m.plen≤128)∧((aa4 m).length:Int)=a87 m.plen - a52 m.ae∧(aa4 m).length≤16∧(0≤a52 m.ae∧a52 m.ae≤8)∧m.prefix_.length≤16:=by
 have r:=h.asR
 have hc:((aa4 m).length:Int)=a87 m.plen - a52 m.ae:=r.cut.2
 obtain ⟨l1,l2,l3,l4,l5,l6⟩:=an3 r.ae r.plen
 have hl:(m.prefix_.length:Int)=szA m.ae:=r.len
 have hb:=at2 m.ae
 dsimp only [eK8] at l1 l2 l3 l4 l5 l6
 exact ⟨r.ae,⟨l4,l5⟩,hc,by omega,hb,by omega⟩
def aa0 (c:Ctx) (f:Int):Bs:=if f=0 then c.next_c0 else c.next_c1
def bW8 (c:Ctx) (ae:Int) (a:Bs):Ctx:=if ae=0 then c else ⟨c.prefix_c0,(if ae=1 then a else c.prefix_c1),(if ae=2 then a else c.prefix_c2),(if ae=3 then a else c.prefix_c3),c.next_c0,c.next_c1,c.id⟩
def idD (s:Bs):Bs:=0::0::s
def dm4 (a:Bs):Bs:=if a79 a=true then 3::0::a.drop 8 else if a.length=4 then 1::0::a else 2::0::a
theorem eL0 {a:Bs} {f:Int} (hf:aP4 a=f) (h:f=0∨f=1):(f=0∧a.length=4)∨(f=1∧a.length=16):=by
 unfold aP4 at hf
 split at hf
 ·exact .inl ⟨hf.symm,by assumption⟩
 split at hf
 ·exact .inr ⟨hf.symm,by assumption⟩
 ·omega
end Go.VP
namespace Go.VP
open Go Go.VI
structure eL1 (m:Msg):Prop where
 kind:m.kind=14
 bare:a68 m=true
 ty:10 < m.type_∧m.type_ < 256
 len:m.data.length < 256
inductive c25 (m:Msg):Prop
 | field (h:ay5 m)
 | route (h:ay8 m)
 | upd (h:au9 m)
 | opq (h:eL1 m)
structure ai7 (m:Msg):Prop where
 good:aC2 m
 ty:IntKind.has .i64 m.type_
 metric:IntKind.has .i64 m.metric
theorem eL2 {d:Bs} (h:(a55 d).1.have_=1) (hk:(a55 d).2.1=true):bW7 (a55 d).1.subs∧ab5 (a55 d).1.subs≤200∧(a55 d).1.subs.length≤d.length∧10+ab5 (a55 d).1.subs≤d.length∧(0≤(a55 d).1.interval∧(a55 d).1.interval < 65536)∧(0≤(a55 d).1.seq∧(a55 d).1.seq < 65536)∧(0≤(a55 d).1.plen∧(a55 d).1.plen≤ag1 (a55 d).1.ae):=by
 have b0:=a31 d 0
 have b2:=a31 d 2
 unfold a55 at h hk ⊢
 split at hk
 ·cases hk
 rename_i h1
 split at hk
 ·cases hk
 rename_i h2
 rw [if_neg h1,if_neg h2] at h ⊢
 dsimp only at h hk ⊢
 split at hk
 ·cases hk
 rename_i h3
 split at hk
 ·cases hk
 rename_i h4
 rw [if_neg h3,if_neg h4] at h ⊢
 dsimp only at h ⊢
 have h3':(ad0 d 10 (bt d 0) (bt d 2) (bt d 3)).2=0:=by simpa using h3
 have hrest:0≤a43 (bt d 0) (bt d 2) (bt d 3):=by
  unfold ad0 at h3'
  split at h3'
  ·cases h3'
  ·omega
 have hg:af7 (bt d 0) (bt d 2)=false:=by
  unfold ad0 at h3'
  split at h3'
  ·cases h3'
  ·rename_i q; cases e:af7 (bt d 0) (bt d 2) with
   | false=>rfl
   | true=>exact absurd (.inl e) q
 have hp:as1 (bt d 0)≤bt d 2∧bt d 2≤ag1 (bt d 0):=by unfold af7 at hg; simpa using hg
 rcases cU3 (d.drop (10+a43 (bt d 0) (bt d 2) (bt d 3)).toNat) with ⟨l,e,q1,q2,q3,q4⟩ | ⟨l,e⟩ | ⟨x,e,q⟩
 ·rw [e] at h ⊢
  rw [List.length_drop] at q3 q4
  exact ⟨q1,q2,by dsimp only; omega,by dsimp only; omega,aj0 (by omega) (by omega),aj0 (by omega) (by omega),by omega,hp.2⟩
 ·rw [e] at h; cases h
 ·rw [e] at h4; exact absurd q h4
theorem eL3 {c:Ctx} {d:Bs} (hc:okC c) (hd:d.length≤900):(aq7 c d).2.1=[]∨∃ m,(aq7 c d).2.1=[m]∧au9 m∧ai7 m∧ab5 m.subs+10≤d.length∧(aq7 c d).2.2=0∧(m.metric≠65535→(aq7 c d).1.id=m.id∧aa0 (aq7 c d).1 (a56 m.ae)=m.next):=by
 unfold aq7
 split
 rotate_left
 ·exact .inl rfl
 rename_i ht
 split
 rotate_left
 ·exact .inl rfl
 rename_i ha
 split
 rotate_left
 ·exact .inl rfl
 rename_i hto
 obtain ⟨hr,h0⟩:=cu2 ht
 have hl:=cu3 hc hr ha
 have hk:=dZ5 hc hr ha
 have h1:(a55 d).1.have_=1:=by
  unfold bH4 at hto; simp at hto; exact hto.1
 obtain ⟨s1,s2,s3,s4,s5,s6,s7⟩:=eL2 h1 ht
 have hclean:a71 (ac0 c (a55 d).1).1 (a55 d).1.plen=(ac0 c (a55 d).1).1:=by
  unfold ac0 at ha ⊢
  split
  ·unfold ab4; exact c23 _ _
  ·rename_i q; rw [if_neg q] at ha
   split
   ·rename_i q2; rw [if_pos q2] at ha; cases ha
   ·unfold ab4; exact c23 _ _
 have hok:=eh5 hc hr hl hk
 have hlow:=hr.low
 have hsub2:=b10 (l:=(a55 d).1.subs)
 generalize (a55 d).1=r at *
 generalize (ac0 c r).1=a at *
 have hae:=hr.ae
 have hme:=hr.metric
 have hsz:szA r.ae≤16:=by unfold szA; split <;> (try split) <;> (try split) <;> omega
 have hmu:(cU9 (a53 c r a) r a).metric=r.metric:=rfl
 have hhi:ag1 r.ae≤128:=by unfold ag1; split <;> (try split) <;> (try split) <;> omega
 generalize hfc:a53 c r a=F at *
 have hFid:r.metric≠65535→F.id.length=8∧0 < r.ae:=fun hm=>by
  unfold bH4 at hto
  simp [h1,hm] at hto
  rcases hok.2.2.2.2.2.2 with q | q
  ·exact absurd q hto.2
  ·exact ⟨q,hto.1⟩
 have hFn:r.metric≠65535→aa0 F (a56 r.ae)=[]∨aP4 (aa0 F (a56 r.ae))=a56 r.ae:=fun hm=>by
  have hp:=(hFid hm).2
  have hf:=bD1 (ae:=r.ae) (by omega)
  unfold aa0
  by_cases f0:a56 r.ae=0
  ·rw [if_pos f0,f0]
   rcases hok.2.2.2.2.1 with q | q
   ·exact .inl q
   ·right; unfold aP4; rw [if_pos q]
  ·rw [if_neg f0,show a56 r.ae=1 by omega]
   rcases hok.2.2.2.2.2.1 with q | q
   ·exact .inl q
   ·right; unfold aP4; rw [if_neg (by omega),if_pos q]
 have e0:([]:Bs).length≤400:=by decide
 have n0:([]:List b22).length≤1000:=by decide
 have has0:IntKind.has .i64 0:=a45.2 (by omega)
 have hnl:(if r.metric=65535 then ([]:Bs) else (if a56 r.ae=0 then F.next_c0 else F.next_c1)).length≤400:=by
  split
  ·exact e0
  ·have:=hok.2.2.2.2.1; have:=hok.2.2.2.2.2.1
   split
   ·rcases hok.2.2.2.2.1 with q | q
    ·rw [q]; exact e0
    ·omega
   ·rcases hok.2.2.2.2.2.1 with q | q
    ·rw [q]; exact e0
    ·omega
 have hil:(if r.metric=65535 then ([]:Bs) else F.id).length≤400:=by
  split
  ·exact e0
  ·rcases hok.2.2.2.2.2.2 with q | q
   ·rw [q]; exact e0
   ·omega
 refine .inr ⟨cU9 F r a,rfl,⟨rfl,?_,aV5 s1 s2,?_,s5,s6,by rw [hmu]; omega,fun hm=>?_,fun hm=>?_⟩,⟨⟨⟨n0,by show r.subs.length≤1000; omega,e0,by show a.length≤400; omega,hnl,hil,e0,e0,e0,(fun d h=>by cases h),s1.few⟩,has0,a45.2 (by show _≤r.interval∧r.interval≤_; omega),a45.2 (by show _≤r.seq∧r.seq≤_; omega),has0,a45.2 (by show _≤(11:Int)∧(11:Int)≤_; omega),has0,a45.2 (by show _≤r.ae∧r.ae≤_; omega),a45.2 (by show _≤r.plen∧r.plen≤_; omega),has0⟩,has0,a45.2 (by rw [hmu]; omega)⟩,by show ab5 r.subs+10≤_; omega,rfl,fun hm=>?_⟩
 ·have:ab0 (cU9 F r a)=some (cU9 F r a):=rfl
  rw [a68,this]; exact af8 _
 ·exact cO6.2 ⟨hae,hl,⟨hlow,s7.2⟩,hclean,hk⟩
 ·have hm':r.metric=65535:=hm
  show (if r.metric=65535 then [] else F.id)=[]∧(if r.metric=65535 then [] else _)=[]
  rw [if_pos hm',if_pos hm']; exact ⟨rfl,rfl⟩
 ·have hm':r.metric≠65535:=hm
  show 0 < r.ae∧(if r.metric=65535 then [] else F.id).length=8∧((if r.metric=65535 then [] else aa0 F (a56 r.ae))=[]∨aP4 (if r.metric=65535 then [] else aa0 F (a56 r.ae))=a56 r.ae)
  rw [if_neg hm',if_neg hm']
  exact ⟨(hFid hm').2,(hFid hm').1,hFn hm'⟩
 ·have hm':r.metric≠65535:=hm
  show F.id=(if r.metric=65535 then [] else F.id)∧aa0 F (a56 r.ae)=(if r.metric=65535 then [] else aa0 F (a56 r.ae))
  rw [if_neg hm',if_neg hm']
  exact ⟨rfl,rfl⟩
end Go.VP
namespace Go.VP
open Go Go.VI
def b93 (b:Bs):Int:=bt b 2 * 256+bt b 3
def a97 (b:Bs):Bs × Int × Int:=
 if 65535 < (b.length:Int) then ([],65535,10) else if (b.length:Int) < 4 then ([],b.length,2)
 else if bt b 0≠42 then ([],0,4) else if bt b 1≠2 then ([],1,4)
 else if (b.length:Int) < 4+b93 b then ([],b.length,2) else (a06 b 4 (b93 b),0,0)
theorem c44 {R:Type} {p:Prop} [Decidable p] {t f r:R} (h:p→t=r) (h':¬p→f=r):(if decide p=true then t else f)=r:=by
 by_cases hp:p
 ·rw [ifd hp]; exact h hp
 ·rw [ifn hp]; exact h' hp
theorem eE8 {b:Bs} (h:4≤b.length):aD4 (b,())=some ((b93 b,()),()):=by
 have h2:=a31 b 2
 have h3:=a31 b 3
 rw [dW5,a40 (i:=2) (by omega),Option.bind_some,a40 (i:=3) (by omega),Option.bind_some,am4,am4]
 show some ((a47 .or .i64 (a91 .i64 (bt b 2) 8) (bt b 3),()),())=_
 rw [eI3 (by omega) (by omega)]; rfl
theorem aG3 (b:Bs):0≤b93 b∧b93 b≤65535:=by
 have h2:=a31 b 2
 have h3:=a31 b 3
 unfold b93; omega
theorem fg5 (b:Bs):bh2 (b,())=some (a35 (a97 b),()):=by
 have hr:=aG3 b
 rw [dW6]; unfold a97
 refine c44 (fun h=>by rw [if_pos h]) (fun h1=>?_)
 rw [if_neg h1]
 refine c44 (fun h=>by rw [if_pos h]) (fun h2=>?_)
 rw [if_neg h2,a40 (i:=0) (by omega),Option.bind_some]
 refine a16 (fun h=>by rw [if_pos (show bt b 0≠42 from h)]) (fun h3=>?_)
 rw [if_neg (show ¬bt b 0≠42 from fun q=>q h3),a40 (i:=1) (by omega),Option.bind_some]
 refine a16 (fun h=>by rw [if_pos (show bt b 1≠2 from h)]) (fun h4=>?_)
 rw [if_neg (show ¬bt b 1≠2 from fun q=>q h4),eE8 (by omega),Option.bind_some]
 dsimp only
 rw [w64 (by omega) (by omega)]
 refine c44 (fun h=>by rw [if_pos h]) (fun h5=>?_)
 rw [if_neg h5,Option.bind_some]
 dsimp only
 rw [w64 (by omega) (by omega),if_pos (by omega)]; rfl
theorem ex1 (b:Bs):aU6 (b,())=some (a35 (a97 b),()):=by
 have hr:=aG3 b
 have h2:=a31 b 2
 have h3:=a31 b 3
 rw [dX7]; unfold a97
 refine c44 (fun h=>by rw [if_pos h]) (fun h1=>?_)
 rw [if_neg h1]
 refine c44 (fun h=>by rw [if_pos h]) (fun h2=>?_)
 rw [if_neg h2,a40 (i:=0) (by omega),Option.bind_some]
 refine a16 (fun h=>by rw [if_pos (show bt b 0≠42 from h)]) (fun h3=>?_)
 rw [if_neg (show ¬bt b 0≠42 from fun q=>q h3),a40 (i:=1) (by omega),Option.bind_some]
 refine a16 (fun h=>by rw [if_pos (show bt b 1≠2 from h)]) (fun h4=>?_)
 rw [if_neg (show ¬bt b 1≠2 from fun q=>q h4),a40 (i:=2) (by omega),Option.bind_some,a40 (i:=3) (by omega),Option.bind_some,am4,am4]
 show (if decide ((b.length:Int) < (IntKind.wrap .i64 (4+(IntKind.wrap .i64 ((IntKind.wrap .i64 (256 * bt b 2))+bt b 3)))))=true then some ((([]:List UInt8),(b.length:Int),2,()),()) else (if 0≤(4:Int)∧(4:Int)≤(IntKind.wrap .i64 (4+(IntKind.wrap .i64 ((IntKind.wrap .i64 (256 * bt b 2))+bt b 3))))∧(IntKind.wrap .i64 (4+(IntKind.wrap .i64 ((IntKind.wrap .i64 (256 * bt b 2))+bt b 3))))≤(b.length:Int) then some ((((b.take (IntKind.wrap .i64 (4+(IntKind.wrap .i64 ((IntKind.wrap .i64 (256 * bt b 2))+bt b 3)))).toNat).drop 4),0,0,()),()) else none))=_
 have e:IntKind.wrap .i64 (4+(IntKind.wrap .i64 ((IntKind.wrap .i64 (256 * bt b 2))+bt b 3)))=4+b93 b:=by
  rw [w64 (x:=256 * bt b 2) (by omega) (by omega),w64 (x:=256 * bt b 2+bt b 3) (by omega) (by omega),w64 (by omega) (by omega)]
  unfold b93; omega
 rw [e]
 refine c44 (fun h=>by rw [if_pos h]) (fun h5=>?_)
 rw [if_neg h5,if_pos (by omega)]; rfl
theorem cl7 {b:Bs} (h:(a97 b).2.2=0):4≤b.length∧b.length≤65535∧bt b 0=42∧bt b 1=2∧4+b93 b≤b.length∧a97 b=(a06 b 4 (b93 b),0,0)∧((a97 b).1.length:Int)=b93 b:=by
 have hr:=aG3 b
 unfold a97 at h ⊢
 split at h
 ·cases h
 split at h
 ·cases h
 split at h
 ·cases h
 split at h
 ·cases h
 split at h
 ·cases h
 rename_i h1 h2 h3 h4 h5
 rw [if_neg h1,if_neg h2,if_neg h3,if_neg h4,if_neg h5]
 exact ⟨by omega,by omega,by simpa using h3,by simpa using h4,by omega,rfl,a61 (by omega) (by omega) (by omega)⟩
theorem eT3 {b:Bs} (h:(a97 b).2.2≠0):(a97 b).1=[]∧0≤(a97 b).2.1∧(a97 b).2.1≤b.length:=by
 unfold a97 at h ⊢
 split
 ·exact ⟨rfl,by dsimp only; omega,by dsimp only; omega⟩
 split
 ·exact ⟨rfl,by dsimp only; omega,by dsimp only; omega⟩
 split
 ·exact ⟨rfl,by dsimp only; omega,by dsimp only; omega⟩
 split
 ·exact ⟨rfl,by dsimp only; omega,by dsimp only; omega⟩
 split
 ·exact ⟨rfl,by dsimp only; omega,by dsimp only; omega⟩
 ·rename_i h1 h2 h3 h4 h5
  rw [if_neg h1,if_neg h2,if_neg h3,if_neg h4,if_neg h5] at h
  exact absurd rfl h
def bD4 (b:Bs):Bs:=b.drop (4+b93 b).toNat
theorem eL4 {b:Bs} (h:(a97 b).2.2=0):aQ1 (b,())=some ((bD4 b,()),()):=by
 have hr:=aG3 b
 obtain ⟨h1,h2,_,_,h5,_⟩:=cl7 h
 rw [dl2,eE8 h1,Option.bind_some]
 dsimp only
 rw [w64 (by omega) (by omega),if_pos (by omega)]; rfl
theorem eB5 {b:Bs} (h:(a97 b).2.2=0):aR2 (b,())=some ((bD4 b,()),()):=by
 have hr:=aG3 b
 obtain ⟨h1,h2,_,_,h5,h6,h7⟩:=cl7 h
 rw [dl4,ex1,Option.bind_some]
 dsimp only [a35]
 rw [h7,w64 (by omega) (by omega),if_pos (by omega)]; rfl
def c26 (s:Bs):Bs × Bool:=if 65531 < (s.length:Int) then ([],false) else (42::2::(be 2 s.length++s),true)
end Go.VP
namespace Go.VP
open Go Go.VI
theorem fk9 {x:Int} (h:0≤x):a42 .i64 x 8=x / 256:=by
 unfold a42
 rw [show (2:Int) ^ (min (8:Int).toNat IntKind.i64.bits)=256 by decide]
 exact Int.fdiv_eq_ediv_of_nonneg _ (by decide)
theorem eh9 {c:Nat}:∀ (i m:Nat) (x:Int) (acc:Bs),i≤acc.length→acc.length≤100→i < m→0≤x→aK8 c m x ((i:Int) - 1) acc=some ((be i x++acc.drop i,true,()),())
 | 0,m,x,acc,h1,h2,hm,hx=>by
  obtain ⟨m,rfl⟩:∃ k,m=k+1:=⟨m - 1,by omega⟩
  rw [aJ4,ifn (by omega)]; simp [be]
 | i+1,m,x,acc,h1,h2,hm,hx=>by
  obtain ⟨m,rfl⟩:∃ k,m=k+1:=⟨m - 1,by omega⟩
  have e:(((i+1:Nat):Int) - 1)=(i:Int):=by omega
  rw [aJ4,e,ifd (by omega),if_pos (by omega),Int.toNat_natCast,if_pos (by omega),w64 (by omega) (by omega),fk9 hx,eh9 i m (x / 256) _ (by simp; omega) (by simp; omega) (by omega) (by omega),wu8,be]
  have:(acc.set i (a01 (x % 256))).drop i=a01 (x % 256)::acc.drop (i+1):=by
   rw [List.drop_eq_getElem_cons (by simp; omega),List.getElem_set_self,List.drop_set_of_lt (by omega)]
  rw [this]; simp
theorem fg6 {n:Int} {k:Nat} (hn:IntKind.has .i64 n) (h1:1≤k) (h7:k≤7):ad7 (n,(k:Int),())=some (((ak5 n k).1,(ak5 n k).2,()),()):=by
 show bE8 a04 (n,(k:Int),())=_
 rw [cN7,ak1 hn h1 h7,Option.bind_some]
 unfold ak5
 cases hf:a25 n k with
 | false=>rfl
 | true=>
  have h0:0≤n:=by unfold a25 at hf; rw [decide_eq_true_eq] at hf; exact hf.1
  have hr:(k:Int)≤a98:=by unfold a98; omega
  dsimp only
  rw [a41,if_pos ⟨by omega,hr⟩,w64 (by omega) (by omega),Int.toNat_natCast,eh9 k a04 n _ (by simp) (by simp; omega) (a28 (by omega)) h0]
  simp
theorem fn6 {n:Int} (hn:IntKind.has .i64 n):ad7 (n,2,())=some (((ak5 n 2).1,(ak5 n 2).2,()),()):=fg6 (k:=2) hn (by omega) (by omega)
theorem fo6 {n:Int} (hn:IntKind.has .i64 n):a39 (n,2,())=some (((ak5 n 2).1,()),()):=bL4 (k:=2) hn (by omega) (by omega)
theorem ei0 {s:Bs} (h:s.length≤65531):ak5 (s.length:Int) 2=(be 2 s.length,true):=by
 unfold ak5; rw [if_pos (by unfold a25; rw [decide_eq_true_eq]; omega)]
theorem dZ7 {s:Bs} (h:65531 < (s.length:Int)):c26 s=([],false):=by unfold c26; rw [if_pos h]
theorem ei1 {s:Bs} (h:¬65531 < (s.length:Int)):c26 s=(42::2::(be 2 s.length++s),true):=by unfold c26; rw [if_neg h]
theorem fg7 {s:Bs} (h:s.length≤100000000):bk3 (s,())=some (((c26 s).1,(c26 s).2,()),()):=by
 rw [dX6,fn6 (a45.2 (by omega)),Option.bind_some]
 by_cases hs:65531 < (s.length:Int)
 ·rw [dZ7 hs]
  cases hb:(ak5 (s.length:Int) 2).2 with
  | false=>rfl
  | true=>dsimp only; rw [a41,ifd hs]
 ·have h2:(be 2 (s.length:Int)).length=2:=a21 2 _
  rw [ei1 hs,ei0 (by omega)]
  generalize be 2 (s.length:Int)=B at *
  dsimp only
  rw [a41,ifn hs,if_pos (a11 (by omega)),if_pos (a11 (by simp; omega))]; rfl
theorem f29 {s:Bs} (h:s.length≤100000000):bo1 (s,())=some (((c26 s).1,(c26 s).2,()),()):=by
 rw [dU4]
 by_cases hs:65531 < (s.length:Int)
 ·rw [dZ7 hs,ifd hs]
 ·have h2:(be 2 (s.length:Int)).length=2:=a21 2 _
  rw [ei1 hs,ifn hs,fo6 (a45.2 (by omega)),Option.bind_some,ei0 (by omega)]
  generalize be 2 (s.length:Int)=B at *
  dsimp only
  rw [if_pos (a11 (by omega)),if_pos (a11 (by simp; omega))]; rfl
end Go.VP
