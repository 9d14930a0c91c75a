import Derived.Test.YtngopicaeoapnaaGreatDoorKFH
import Derived.Test.YtngopicaeoapnaaGreatDoorKFQ3
import Derived.Test.YtngopicaeoapnaaGreatDoorKFQ0
import Derived.Test.YtngopicaeoapnaaGreatDoorKXT
import Derived.Lib.Bytealg
import Derived.Test.YtngopicaeoapnaaGreatDoorKXMt
import Derived.Test.YtngopicaeoapnaaGreatDoorKFQ6
import Derived.Test.YtngopicaeoapnaaGreatDoorKXM
import Derived.Test.YtngopicaeoapnaaGreatDoorKFQ1
import Derived.Test.YtngopicaeoapnaaGreatDoorKFQ2
import Derived.Test.YtngopicaeoapnaaGreatDoorKFGood
set_option linter.unusedVariables false
set_option linter.unusedSimpArgs false
set_option maxRecDepth 100000
namespace Go.VP
open Go Go.VI
abbrev Bs:=List UInt8
theorem w64 {x:Int} (h : -9223372036854775808≤x) (h':x≤9223372036854775807):IntKind.wrap .i64 x=x:=by
 simp only [IntKind.wrap,IntKind.bits,IntKind.signed]
 simp
 omega
theorem eB4 {x:Int} (h:0≤x) (h':x≤18446744073709551615):IntKind.wrap .u64 x=x:=by
 simp only [IntKind.wrap,IntKind.bits,IntKind.signed]
 simp
 omega
theorem wu8 {x:Int}:IntKind.wrap .u8 x=x % 256:=by
 simp only [IntKind.wrap,IntKind.bits,IntKind.signed]
 simp
theorem eX8 (b:UInt8):IntKind.wrap .i64 (b.toNat:Int)=b.toNat:=by
 have:=b.toNat_lt; exact w64 (by omega) (by omega)
theorem has64 {x:Int}:IntKind.has .i64 x↔-9223372036854775808≤x∧x≤9223372036854775807:=by
 simp only [IntKind.has,IntKind.min,IntKind.max,IntKind.bits,IntKind.signed]
 simp
theorem af6 {n:Nat} (h:n≤9223372036854775807):af1 n=true:=Nat.ble_eq_true_of_le h
theorem ah7 {n:Nat} (h:n≤35184372088832):ag8 n=true:=Nat.ble_eq_true_of_le h
theorem dR6:∃ n,fuel=n+1000000000000:=⟨1124899906842624,rfl⟩
theorem ag7 {n:Nat} (h:n≤1125899906842623):n < fuel:=Nat.lt_succ_of_le h
theorem ec9 {a b:Nat} (ha:a < 256) (hb:b < 256):an0 .xor .u8 (a:Int) (b:Int)=((a ^^^ b:Nat):Int):=by
 unfold an0
 show IntKind.wrap .u8 (((BitVec.ofInt 8 (a:Int) ^^^ BitVec.ofInt 8 (b:Int)).toNat:Nat):Int)=_
 have h:a ^^^ b < 256:=Nat.xor_lt_two_pow (n:=8) ha hb
 rw [BitVec.toNat_xor,BitVec.ofInt_natCast,BitVec.ofInt_natCast,BitVec.toNat_ofNat,BitVec.toNat_ofNat,Nat.mod_eq_of_lt ha,Nat.mod_eq_of_lt hb,wu8]
 omega
theorem ah0 (n:Int):((aa1 n).toNat:Int)=if 0≤n then n % 256 else 0:=by
 unfold aa1
 have:(n.toNat.toUInt8).toNat=n.toNat % 256:=by simp
 rw [this]
 split <;> omega
theorem ax9 (b:UInt8):aa1 (b.toNat:Int)=b:=by
 unfold aa1; simp
theorem aB9 {n:Int} (h:0≤n):aa1 (n % 256)=aa1 n:=by
 apply UInt8.toNat.inj
 have h1:=ah0 (n % 256); have h2:=ah0 n
 rw [if_pos (by omega)] at h1; rw [if_pos h] at h2; omega
theorem cS7 {a b:UInt8} (h:(a.toNat:Int)=b.toNat):a=b:=UInt8.toNat.inj (by omega)
def num (l:Bs):Int:=l.foldl (fun n b=>n * 256+(b.toNat:Int)) 0
theorem dB2:∀ (l:Bs) (x:Int),0≤x→0≤l.foldl (fun n b=>n * 256+(b.toNat:Int)) x∧l.foldl (fun n b=>n * 256+(b.toNat:Int)) x < (x+1) * 256 ^ l.length
 | [],x,h=>by simp; omega
 | b::l,x,h=>by
  have hb:=b.toNat_lt
  obtain ⟨h1,h2⟩:=dB2 l (x * 256+(b.toNat:Int)) (by omega)
  refine ⟨h1,Int.lt_of_lt_of_le h2 ?_⟩
  rw [List.length_cons,Int.pow_succ,Int.mul_comm (256 ^ l.length) 256,← Int.mul_assoc]
  exact Int.mul_le_mul_of_nonneg_right (by omega) (Int.pow_nonneg (by decide))
theorem bN1 (l:Bs):0≤num l∧num l < 256 ^ l.length:=by
 have:=dB2 l 0 (by omega)
 rw [Int.zero_add,Int.one_mul] at this
 exact this
theorem bL6 (a:Bs) (b:UInt8):num (a++[b])=num a * 256+b.toNat:=by simp [num]
def be:Nat→Int→Bs
 | 0,_=>[]
 | k+1,n=>be k (n / 256)++[aa1 (n % 256)]
theorem ab6:∀ (k:Nat) (n:Int),(be k n).length=k
 | 0,_=>rfl
 | k+1,n=>by simp [be,ab6 k]
theorem bV5:∀ (k:Nat) (n:Int),0≤n→n < 256 ^ k→num (be k n)=n
 | 0,n,h,h2=>by simp at h2; simp [be,num]; omega
 | k+1,n,h,h2=>by
  rw [be,bL6,bV5 k (n / 256) (by omega) (by rw [Int.pow_succ] at h2; omega),ah0]
  omega
theorem do6:∀ (k:Nat) (l:Bs),l.length=k→be k (num l)=l
 | 0,l,h=>by cases l with | nil=>rfl | cons=>simp at h
 | k+1,l,h=>by
  obtain ⟨a,b,rfl⟩:∃ a b,l=a++[b]:=⟨l.dropLast,l.getLast (by intro h2; subst h2; simp at h),(List.dropLast_concat_getLast _).symm⟩
  have ha:a.length=k:=by simpa using h
  have hb:=b.toNat_lt
  have h1:(num (a++[b])) / 256=num a:=by rw [bL6]; omega
  have h2:(num (a++[b])) % 256=b.toNat:=by rw [bL6]; omega
  rw [be,h1,h2,do6 k a ha,ax9]
def aa4 (s:Bs) (p n:Int):Bs:=(s.take (p+n).toNat).drop p.toNat
theorem aj4 {s:Bs} {p n:Int} (h:0≤p) (h1:0≤n) (h2:p+n≤s.length):((aa4 s p n).length:Int)=n:=by
 simp [aa4]; omega
def bt (s:Bs) (i:Nat):Int:=((s[i]?.getD 0).toNat:Int)
theorem ai5 (s:Bs) (i:Nat):0≤bt s i∧bt s i < 256:=by unfold bt; have:=(s[i]?.getD 0).toNat_lt; omega
theorem eS7 {s:Bs} {i:Nat} (h:i < s.length):s[i]?=some (s[i]?.getD 0):=by simp [h]
theorem aj0 {α β:Type} {l:List α} {i:Nat} (h:i < l.length) (f:α→Option β):(l[i]?.bind f)=f (l[i]'h):=by simp [h]
end Go.VP
namespace Go.VP
open Go Go.VI
structure WfC (s:Bs) (p q:Int):Prop where
 lo:0≤p
 hi:p≤q
 top:q≤s.length
 sz:s.length≤1000000000000000
theorem eX9 {s:Bs} {p:Nat} (h:p+1≤s.length):num (aa4 s p 1)=bt s p:=by
 have e:aa4 s p 1=[s[p]]:=by
  unfold aa4
  rw [show ((p:Int)+1).toNat=p+1 by omega,Int.toNat_natCast,List.take_succ_eq_append_getElem (by omega),List.drop_append_of_le_length (by simp; omega)]
  simp [List.drop_take]
 rw [e]; simp [num,bt,List.getElem?_eq_getElem (show p < s.length by omega)]
theorem eB5 {s:Bs} {p n:Nat} (h:p+n+1≤s.length):aa4 s p (n+1:Nat)=aa4 s p n++[s[p+n]'(by omega)]:=by
 unfold aa4
 rw [show ((p:Int)+((n+1:Nat):Int)).toNat=p+n+1 by omega,show ((p:Int)+(n:Int)).toNat=p+n by omega,Int.toNat_natCast,List.take_succ_eq_append_getElem (by omega),List.drop_append_of_le_length (by simp; omega)]
theorem dR7 {s:Bs} {p n:Nat} (h:p+n+1≤s.length):num (aa4 s p (n+1:Nat))=num (aa4 s p n) * 256+bt s (p+n):=by
 rw [eB5 h,bL6]
 simp [bt,List.getElem?_eq_getElem (show p+n < s.length by omega)]
theorem eS8 {s:Bs} {p:Nat} (h:p+2≤s.length):num (aa4 s p 2)=bt s p * 256+bt s (p+1):=by
 have:=dR7 (s:=s) (p:=p) (n:=1) (by omega)
 rw [show ((1:Nat):Int)=1 from rfl,eX9 (by omega)] at this
 exact this
end Go.VP
namespace Go.VP
open Go Go.VI
theorem ifd {α:Sort _} {p:Prop} [d:Decidable p] {a b:α} (h:p):(if decide p=true then a else b)=a:=if_pos (decide_eq_true h)
theorem ifn {α:Sort _} {p:Prop} [d:Decidable p] {a b:α} (h:¬p):(if decide p=true then a else b)=b:=if_neg (by simpa using h)
theorem ift {α:Sort _} {a b:α}:(if true=true then a else b)=a:=rfl
theorem bd2 {α:Sort _} {a b:α}:(if false=true then a else b)=b:=rfl
theorem aj6 {α:Sort _} {a b:α}:(if (!true)=true then a else b)=b:=rfl
theorem aS8 {α:Sort _} {a b:α}:(if (!false)=true then a else b)=a:=rfl
def ac5 (n:Int) (k:Nat):Bool:=decide (0≤n∧n < 256 ^ k)
theorem eY0 (k:Nat):(2:Int) ^ (8 * k)=256 ^ k:=by rw [Int.pow_mul]; rfl
theorem ap8 {n:Int} {k:Nat} (hn:IntKind.has .i64 n) (h1:1≤k) (h7:k≤7):ab1 (n,(k:Int),())=some ((ac5 n k,()),()):=by
 rw [has64] at hn
 rw [dm9,ifd (by omega),ifd (by omega)]
 by_cases h0:0≤n
 ·rw [ifd h0,w64 (x:=8 * (k:Int)) (by omega) (by omega),eB4 (by omega) (by omega),if_pos (by omega)]
  have e:ae4 .i64 n (8 * (k:Int))=n / 256 ^ k:=by
   unfold ae4
   rw [show min (8 * (k:Int)).toNat IntKind.i64.bits=8 * k by simp only [IntKind.bits]; omega,eY0]
   exact Int.fdiv_eq_ediv_of_nonneg _ (Int.pow_nonneg (by decide))
  have hp:(0:Int) < 256 ^ k:=Int.pow_pos (by decide)
  rw [e]
  unfold ac5
  by_cases hlt:n < 256 ^ k
  ·rw [Int.ediv_eq_zero_of_lt h0 hlt]; simp [h0,hlt]
  ·have:1≤n / 256 ^ k:=Int.le_ediv_of_mul_le hp (by omega)
   have h2:(n / 256 ^ k==0)=false:=by simp; omega
   rw [h2]; simp [hlt]
 ·rw [ifn h0]; simp [ac5,h0]
def cN6 (n:Int) (k:Nat):Bs × Bool:=if ac5 n k=true then (be k n,true) else ([],false)
end Go.VP
namespace Go.VP
open Go Go.VI
theorem er3 {p:UInt8→Bool} (h:((List.range 256).all fun n=>p (UInt8.ofNat n))=true) (c:UInt8):p c=true:=by
 have:=List.all_eq_true.1 h c.toNat (List.mem_range.2 c.toNat_lt)
 simpa using this
theorem eS9 (c:UInt8):Lib.indexByte dg c=if ix c < 16 then ((ix c:Nat):Int) else -1:=by
 have:=er3 (p:=fun c=>decide (Lib.indexByte dg c=if ix c < 16 then ((ix c:Nat):Int) else -1)) (by decide +kernel) c
 exact of_decide_eq_true this
theorem dB3 (c:UInt8) (h:ix c < 16):aB5 (ix c)=c:=by
 have:=er3 (p:=fun c=>decide (ix c < 16→aB5 (ix c)=c)) (by decide +kernel) c
 exact of_decide_eq_true this h
theorem bB9:∀ n,n < 16→ix (aB5 n)=n:=by decide +kernel
theorem eW7:∀ i,i < 16→dg[i]?=some (aB5 i):=by decide +kernel
theorem dB4 (b:Nat):∀ (s t:Bs) (x:Nat),vN b (s++t) x=(vN b s x).bind (vN b t)
 | [],t,x=>rfl
 | c::r,t,x=>by
  rw [List.cons_append,vN,vN]
  cases dv b c with
  | none=>rfl
  | some d=>exact dB4 b r t _
def can (s:Bs):Prop:=s≠[]∧(s.head?=some 48→s=[48])
theorem eL7 (b:Nat):∀ (k n:Nat),aX1 b (k+1) n≠[]
 | k,n=>by
  rw [aX1]
  split
  ·simp
  ·simp
theorem ed0 (b:Nat) (hb:2≤b) (h16:b≤16):∀ (k v:Nat),v < b ^ k→1≤k→vN b (aX1 b k v) 0=some v∧can (aX1 b k v)
 | k+1,v,hv,_=>by
  rw [aX1]
  by_cases h:v < b
  ·rw [if_pos h,vN]
   have e:=bB9 v (by omega)
   have:dv b (aB5 v)=some v:=by unfold dv; rw [e,if_pos h]
   rw [this]
   refine ⟨by simp [vN],by simp,fun e=>?_⟩
   simp at e
   rw [e]
  ·rw [if_neg h]
   have h1:v / b < b ^ k:=by rw [Nat.pow_succ] at hv; exact Nat.div_lt_of_lt_mul (by rw [Nat.mul_comm]; exact hv)
   have k1:1≤k:=by cases k with | zero=>simp at hv; omega | succ k=>omega
   obtain ⟨i1,i2⟩:=ed0 b hb h16 k (v / b) h1 k1
   have hm:=Nat.mod_lt v (show b > 0 by omega)
   have e:=bB9 (v % b) (by omega)
   have hd:dv b (aB5 (v % b))=some (v % b):=by unfold dv; rw [e,if_pos hm]
   refine ⟨?_,by simp,fun e=>?_⟩
   ·rw [dB4,i1]
    show vN b [aB5 (v % b)] (v / b)=_
    rw [vN,hd]
    show vN b [] _=_
    rw [vN,Nat.mul_comm,Nat.div_add_mod]
   ·obtain ⟨h0,r0,e0⟩:=List.exists_cons_of_ne_nil i2.1
    have e3:=i2.2 (by rw [e0] at e ⊢; simpa using e)
    rw [e3] at i1
    have:vN b [48] 0=some 0:=by
     rw [vN]
     have:dv b 48=some 0:=by unfold dv; rw [show ix 48=0 from by decide +kernel,if_pos (by omega)]
     rw [this]
     show vN b [] (0 * b+0)=_
     rw [vN,Nat.zero_mul]
    rw [this] at i1
    have:v / b=0:=(Option.some.inj i1).symm
    have:=Nat.div_eq_zero_iff.1 this
    omega
end Go.VP
namespace Go.VP
open Go Go.VI
theorem cD2 (c:UInt8):∀ (s:Bs),(ab8 c s).length=s.count c+1
 | []=>by simp [ab8]
 | x::r=>by
  have ih:=cD2 c r
  rw [ab8]
  by_cases h:x=c
  ·rw [if_pos h,List.length_cons,ih,h,List.count_cons_self]
  ·rw [if_neg h,List.count_cons_of_ne h]
   cases hs:ab8 c r with
   | nil=>rw [hs] at ih; simp at ih
   | cons q t=>rw [hs] at ih; simpa using ih
theorem cb7 (c:UInt8) (hc:ix c=16):∀ n,n < 16→aB5 n≠c:=fun n hn e=>by
 have:=bB9 n hn
 rw [e] at this
 omega
theorem ed1 {b:Nat} (hb:2≤b) (h16:b≤16) (c:UInt8) (hc:ix c=16):∀ (k n:Nat),c ∉ aX1 b k n
 | 0,n=>by simp [aX1]
 | k+1,n=>by
  rw [aX1]
  split
  ·intro h
   exact cb7 c hc n (by omega) (List.mem_singleton.1 h).symm
  ·intro h
   rcases List.mem_append.1 h with h | h
   ·exact ed1 hb h16 c hc k _ h
   ·have:=Nat.mod_lt n (show b > 0 by omega)
    exact cb7 c hc _ (by omega) (List.mem_singleton.1 h).symm
theorem do7 (c:UInt8):∀ (s:Bs),c ∉ s→ab8 c s=[s]
 | [],_=>rfl
 | x::r,h=>by
  rw [ab8,if_neg (fun e=>h (by simp [e])),do7 c r (fun e=>h (by simp [e]))]
theorem db0 (c:UInt8) (t:Bs):∀ (s:Bs),c ∉ s→ab8 c (s++c::t)=s::ab8 c t
 | [],_=>by rw [List.nil_append,ab8,if_pos rfl]
 | x::r,h=>by
  rw [List.cons_append,ab8,if_neg (fun e=>h (by simp [e])),db0 c t r (fun e=>h (by simp [e]))]
theorem dB5 (c:UInt8) (l:Bs):ab8 c l≠[]:=fun h=>by
 have:=cD2 c l
 rw [h] at this
 simp at this
theorem cu4 (c:UInt8):∀ (s:Bs),ai7 c (ab8 c s)=s
 | []=>rfl
 | x::r=>by
  have ih:=cu4 c r
  rw [ab8]
  by_cases h:x=c
  ·rw [if_pos h]
   cases hs:ab8 c r with
   | nil=>exact absurd hs (dB5 c r)
   | cons q t=>rw [ai7,← hs,ih,h]; rfl
  ·rw [if_neg h]
   cases hs:ab8 c r with
   | nil=>exact absurd hs (dB5 c r)
   | cons q t=>
    rw [hs] at ih
    dsimp only
    cases t with
    | nil=>rw [ai7] at ih ⊢; rw [ih]
    | cons q2 t=>rw [ai7] at ih ⊢; rw [List.cons_append,ih]
theorem ci0 (c:UInt8):∀ (l:List Bs),l≠[]→(∀ p∈l,c ∉ p)→ab8 c (ai7 c l)=l
 | [],h,_=>absurd rfl h
 | [p],_,h=>by rw [ai7,do7 c p (h p (by simp))]
 | p::q::r,_,h=>by
  rw [ai7,db0 c _ p (h p (by simp)),ci0 c (q::r) (by simp) (fun x hx=>h x (by simp at hx ⊢; exact .inr hx))]
theorem dd9 (c d:UInt8) (h:c≠d):∀ (l:List Bs),(∀ p∈l,c ∉ p)→c ∉ ai7 d l
 | [],_=>by simp [ai7]
 | [p],hl=>by rw [ai7]; exact hl p (by simp)
 | p::q::r,hl=>by
  rw [ai7]
  intro hm
  rcases List.mem_append.1 hm with hm | hm
  ·exact hl p (by simp) hm
  ·rcases List.mem_cons.1 hm with hm | hm
   ·exact h hm
   ·exact dd9 c d h (q::r) (fun x hx=>hl x (by simp at hx ⊢; exact .inr hx)) hm
theorem ed2 (b:Nat):∀ (k n:Nat),(aX1 b k n).length≤k
 | 0,n=>by simp [aX1]
 | k+1,n=>by
  rw [aX1]
  split
  ·simp
  ·have:=ed2 b k (n / b)
   rw [List.length_append,List.length_singleton]; omega
end Go.VP
namespace Go.VP
open Go Go.VI
theorem bv5 (c:UInt8) (b:Bs):∀ (a:Bs),c ∉ a→ac4 c (a++c::b)=(a,b,true)
 | [],_=>by rw [List.nil_append,ac4,if_pos rfl]
 | x::r,h=>by
  rw [List.cons_append,ac4,if_neg (fun e=>h (by simp [e])),bv5 c b r (fun e=>h (by simp [e]))]
theorem cb8 (c:UInt8):∀ (a:Bs),c ∉ a→ac4 c a=(a,[],false)
 | [],_=>rfl
 | x::r,h=>by rw [ac4,if_neg (fun e=>h (by simp [e])),cb8 c r (fun e=>h (by simp [e]))]
theorem bd3 (c:UInt8):∀ (s:Bs),c ∉ (ac4 c s).1∧s=(ac4 c s).1++(if (ac4 c s).2.2=true then c::(ac4 c s).2.1 else [])∧((ac4 c s).2.2=false→(ac4 c s).2.1=[])
 | []=>by simp [ac4]
 | x::r=>by
  obtain ⟨h1,h2,h3⟩:=bd3 c r
  rw [ac4]
  by_cases h:x=c
  ·rw [if_pos h]; simp [h]
  ·rw [if_neg h]
   refine ⟨?_,?_,h3⟩
   ·intro e
    rcases List.mem_cons.1 e with e | e
    ·exact h e.symm
    ·exact h1 e
   ·dsimp only
    rw [List.cons_append,← h2]
variable {M:Type}
theorem cu5:∀ (l:List (TFd M)) (m:M) (rest:Bs),al0 l m rest false=some (m,rest,false)
 | [],m,rest=>rfl
 | f::r,m,rest=>by rw [al0,if_pos rfl]
def aN2:List (TFd M)→Prop
 | []=>True
 | f::r=>(32:UInt8) ∉ f.w∧(61:UInt8) ∉ f.w∧(∀ g∈r,g.w≠f.w)∧aN2 r
theorem aN2.mem:∀ {l:List (TFd M)},aN2 l→∀ f∈l,(32:UInt8) ∉ f.w∧(61:UInt8) ∉ f.w
 | [],_,f,h=>by cases h
 | g::r,hw,f,h=>by
  rcases List.mem_cons.1 h with rfl | h
  ·exact ⟨hw.1,hw.2.1⟩
  ·exact aN2.mem hw.2.2.2 f h
theorem er4:∀ {a b x:Bs},(61:UInt8) ∉ a→(61:UInt8) ∉ b→(a++[61]).isPrefixOf (b++61::x)=true→a=b
 | [],[],_,_,_,_=>rfl
 | [],y::b,x,_,hb,h=>by
  simp [List.isPrefixOf] at h
  exact absurd (by simp [h]) hb
 | y::a,[],x,ha,_,h=>by
  simp [List.isPrefixOf] at h
  exact absurd (by simp [h.1]) ha
 | y::a,z::b,x,ha,hb,h=>by
  simp only [List.cons_append,List.isPrefixOf,Bool.and_eq_true,beq_iff_eq] at h
  rw [h.1,er4 (fun e=>ha (by simp [e])) (fun e=>hb (by simp [e])) h.2]
def aC0 (m:M):List (TFd M)→M→M→Prop
 | [],m0,m1=>m0=m1
 | f::r,m0,m1=>if f.get m=[] then aC0 m r m0 m1 else ∃ m2,f.put (f.get m) m0=some m2∧aC0 m r m2 m1
theorem bn8 (m:M):∀ (l:List (TFd M)),ad5 m l=[]∨∃ f∈l,∃ x,ad5 m l=32::(f.w++61::(f.get m++x))∧(x=[]∨∃ y,x=32::y)∧f.get m≠[]
 | []=>.inl rfl
 | f::r=>by
  rw [ad5]
  by_cases h:f.get m=[]
  ·rw [if_pos h,List.nil_append]
   rcases bn8 m r with h | ⟨g,hg,x,h⟩
   ·exact .inl h
   ·exact .inr ⟨g,by simp [hg],x,h⟩
  ·rw [if_neg h]
   refine .inr ⟨f,by simp,ad5 m r,by simp,?_,h⟩
   rcases bn8 m r with h | ⟨g,hg,x,h,_⟩
   ·exact .inl h
   ·exact .inr ⟨_,h⟩
theorem dL2 (m:M):∀ (l:List (TFd M)) (m0 m1:M),aN2 l→(∀ f∈l,(32:UInt8) ∉ f.get m)→aC0 m l m0 m1→
  (ad5 m l=[]→al0 l m0 [] false=some (m1,[],false))∧(∀ rest,ad5 m l=32::rest→al0 l m0 rest true=some (m1,[],false))
 | [],m0,m1,_,_,hc=>⟨fun _=>by rw [show m0=m1 from hc]; rfl,fun rest h=>by cases h⟩
 | f::r,m0,m1,hw,hb,hc=>by
  rw [aC0] at hc
  have hbf:=hb f (by simp)
  have hbr:∀ g∈r,(32:UInt8) ∉ g.get m:=fun g hg=>hb g (by simp [hg])
  by_cases h:f.get m=[]
  ·rw [if_pos h] at hc
   obtain ⟨i1,i2⟩:=dL2 m r m0 m1 hw.2.2.2 hbr hc
   rw [ad5,if_pos h,List.nil_append]
   refine ⟨fun e=>?_,fun rest e=>?_⟩
   ·have:=i1 e
    rw [cu5] at this ⊢
    exact this
   ·rw [al0,if_neg (by decide)]
    rcases bn8 m r with h' | ⟨g,hg,x,h',hx,_⟩
    ·rw [h'] at e; cases e
    ·have er:rest=(g.w++61::g.get m)++x:=by
      rw [h'] at e
      have:=(List.cons.inj e).2
      rw [← this]; simp
     have hno:(32:UInt8) ∉ g.w++61::g.get m:=by
      have:=(aN2.mem hw.2.2.2 g hg).1
      have:=hbr g hg
      simp_all
     have hcut:(ac4 32 rest).1=g.w++61::g.get m:=by
      rw [er]
      rcases hx with rfl | ⟨y,rfl⟩
      ·rw [List.append_nil,cb8 _ _ hno]
      ·rw [bv5 _ _ _ hno]
     rw [hcut,if_neg (fun hp=>hw.2.2.1 g hg (er4 hw.2.1 (aN2.mem hw.2.2.2 g hg).2 hp).symm)]
     exact i2 rest e
  ·rw [if_neg h] at hc
   obtain ⟨m2,hp,hc⟩:=hc
   obtain ⟨i1,i2⟩:=dL2 m r m2 m1 hw.2.2.2 hbr hc
   rw [ad5,if_neg h]
   refine ⟨fun e=>by simp at e,fun rest e=>?_⟩
   have er:rest=(f.w++61::f.get m)++ad5 m r:=by
    have:=(List.cons.inj e).2
    rw [← this]; rfl
   have hno:(32:UInt8) ∉ f.w++61::f.get m:=by
    have:=hw.1
    simp_all
   have key:∀ t mo,ac4 32 rest=(f.w++61::f.get m,t,mo)→al0 (f::r) m0 rest true=al0 r m2 t mo:=by
    intro t mo e
    rw [al0,if_neg (by decide),e]
    have hpre:(f.w++[61]).isPrefixOf (f.w++61::f.get m)=true:=by
     rw [List.isPrefixOf_iff_prefix]
     exact ⟨f.get m,by simp⟩
    have hd:(f.w++61::f.get m).drop (f.w.length+1)=f.get m:=by
     rw [show f.w++61::f.get m=(f.w++[61])++f.get m by simp,show f.w.length+1=(f.w++[61]).length by simp,List.drop_left]
    dsimp only
    rw [if_pos hpre,hd,hp]
   rcases bn8 m r with h' | ⟨g,hg,x,h',hx,_⟩
   ·rw [h',List.append_nil] at er
    rw [key [] false (by rw [er]; exact cb8 _ _ hno)]
    exact i1 h'
   ·rw [key _ true (by rw [er,h']; exact bv5 _ _ _ hno)]
    exact i2 _ h'
def ej8 (l:List (TFd M)):Prop:=∀ f∈l,∀ s m m',f.put s m=some m'→s≠[]∧f.get m'=s∧∀ g∈l,g.w≠f.w→g.get m'=g.get m
theorem ci1 (m:M):∀ (l:List (TFd M)),(∀ f∈l,f.get m=[])→ad5 m l=[]
 | [],_=>rfl
 | f::r,h=>by rw [ad5,if_pos (h f (by simp)),ci1 m r (fun g hg=>h g (by simp [hg]))]; rfl
theorem by4 (L:List (TFd M)) (hP:ej8 L) (g:TFd M) (hg:g∈L):∀ (l:List (TFd M)) (m0 m1:M) (rest rest1:Bs) (more more1:Bool),(∀ f∈l,f∈L∧g.w≠f.w)→al0 l m0 rest more=some (m1,rest1,more1)→g.get m1=g.get m0
 | [],m0,m1,rest,rest1,more,more1,_,h=>by rw [al0] at h; cases h; rfl
 | f::r,m0,m1,rest,rest1,more,more1,hl,h=>by
  rw [al0] at h
  have hr:∀ f∈r,f∈L∧g.w≠f.w:=fun x hx=>hl x (by simp [hx])
  split at h
  ·cases h; rfl
  ·split at h
   ·split at h
    ·cases h
    ·rename_i m' hp
     rw [by4 L hP g hg r _ _ _ _ _ _ hr h]
     exact (hP f (hl f (by simp)).1 _ _ _ hp).2.2 g hg (hl f (by simp)).2
   ·exact by4 L hP g hg r _ _ _ _ _ _ hr h
theorem eB6 (L:List (TFd M)) (hP:ej8 L):∀ (l:List (TFd M)) (m0 m1:M) (rest rest1:Bs),aN2 l→(∀ f∈l,f∈L)→(∀ f∈l,f.get m0=[])→al0 l m0 rest true=some (m1,rest1,false)→ad5 m1 l=32::rest∧rest1=[]
 | [],m0,m1,rest,rest1,_,_,_,h=>by rw [al0] at h; cases h
 | f::r,m0,m1,rest,rest1,hw,hl,h0,h=>by
  rw [al0,if_neg (by decide)] at h
  have hr:∀ g∈r,g∈L:=fun x hx=>hl x (by simp [hx])
  have hne:∀ g∈r,f.w≠g.w:=fun g hg e=>hw.2.2.1 g hg e.symm
  have hff:=hl f (by simp)
  split at h
  ·rename_i hpre
   split at h
   ·cases h
   ·rename_i m' hp
    obtain ⟨p1,p2,p3⟩:=hP f hff _ _ _ hp
    have h0':∀ g∈r,g.get m'=[]:=fun g hg=>by rw [p3 g (hr g hg) (fun e=>hne g hg e.symm)]; exact h0 g (by simp [hg])
    have hk:=by4 L hP f hff r _ _ _ _ _ _ (fun g hg=>⟨hr g hg,hne g hg⟩) h
    obtain ⟨c1,c2,c3⟩:=bd3 32 rest
    have hhead:(ac4 32 rest).1=f.w++61::f.get m1:=by
     rw [List.isPrefixOf_iff_prefix] at hpre
     obtain ⟨t,ht⟩:=hpre
     rw [hk,p2,← ht,show f.w.length+1=(f.w++[61]).length by simp,List.drop_left]
     simp
    rw [ad5,if_neg (by rw [hk,p2]; exact p1),← hhead]
    cases hm:(ac4 32 rest).2.2 with
    | false=>
     rw [hm] at h c2
     rw [cu5] at h
     have e:=Option.some.inj h
     have em:m'=m1:=congrArg (·.1) e
     subst em
     rw [ci1 m' r h0']
     have e2:(ac4 32 rest).2.1=rest1:=congrArg (·.2.1) e
     rw [if_neg (by decide),List.append_nil] at c2
     exact ⟨by rw [List.append_nil,← c2],by rw [← e2]; exact c3 hm⟩
    | true=>
     rw [hm] at h c2
     obtain ⟨i1,i2⟩:=eB6 L hP r m' m1 _ rest1 hw.2.2.2 hr h0' h
     rw [if_pos rfl] at c2
     refine ⟨?_,i2⟩
     rw [i1,List.cons_append,← c2]
  ·obtain ⟨i1,i2⟩:=eB6 L hP r m0 m1 rest rest1 hw.2.2.2 hr (fun g hg=>h0 g (by simp [hg])) h
   have hk:=by4 L hP f hff r _ _ _ _ _ _ (fun g hg=>⟨hr g hg,hne g hg⟩) h
   rw [ad5,if_pos (by rw [hk]; exact h0 f (by simp)),List.nil_append]
   exact ⟨i1,i2⟩
end Go.VP
namespace Go.VP
open Go Go.VI
theorem bL7:∀ (s:Bs),aj8 (ag9 s)=some s
 | []=>rfl
 | b::r=>by
  have h:=b.toNat_lt
  rw [ag9,aj8,bB9 _ (by omega),bB9 _ (by omega),if_pos ⟨by omega,by omega⟩,bL7 r,show b.toNat / 16 * 16+b.toNat % 16=b.toNat by omega]
  simp
theorem bL8:∀ (s t:Bs),aj8 s=some t→ag9 t=s
 | [],t,h=>by cases h; rfl
 | [_],t,h=>by cases h
 | a::b::r,t,h=>by
  rw [aj8] at h
  split at h
  ·rename_i hh
   obtain ⟨t',h',rfl⟩:=Option.map_eq_some_iff.1 h
   have e:(UInt8.ofNat (ix a * 16+ix b)).toNat=ix a * 16+ix b:=by simp; omega
   rw [ag9,bL8 r t' h',e,show (ix a * 16+ix b) / 16=ix a by omega,show (ix a * 16+ix b) % 16=ix b by omega,dB3 a hh.1,dB3 b hh.2]
  ·cases h
theorem cp1 (c:UInt8) (hc:ix c=16):∀ (s:Bs),c ∉ ag9 s
 | []=>by simp [ag9]
 | b::r=>by
  have h:=b.toNat_lt
  rw [ag9]
  intro e
  rcases List.mem_cons.1 e with e | e
  ·exact cb7 c hc _ (by omega) e.symm
  ·rcases List.mem_cons.1 e with e | e
   ·exact cb7 c hc _ (by omega) e.symm
   ·exact cp1 c hc r e
theorem dR8 (s:Bs):ag9 s=[]↔s=[]:=by
 cases s with
 | nil=>simp [ag9]
 | cons a r=>simp [ag9]
theorem cb9 {v:Nat} (h:v≤1099511627776):al1 (as2 v)=some v:=by
 unfold al1
 have e:vN 10 (as2 v) 0=some v:=(ed0 10 (by decide) (by decide) 13 v (by omega) (by decide)).1
 rw [e]
 exact if_pos ⟨h,rfl⟩
theorem dec_numRd {s:Bs} {v:Nat} (h:al1 s=some v):as2 v=s∧v≤1099511627776:=by
 unfold al1 at h
 split at h
 ·split at h
  ·rename_i hh; cases h; exact ⟨hh.2,hh.1⟩
  ·cases h
 ·cases h
theorem do8 (c:UInt8) (hc:ix c=16) (n:Nat):c ∉ as2 n:=ed1 (by decide) (by decide) c hc 13 n
theorem dR9 (n:Nat):as2 n≠[]:=eL7 10 12 n
theorem eT0:ix 58=16:=by decide +kernel
theorem eT1:ix 44=16:=by decide +kernel
theorem ej9:ix 32=16:=by decide +kernel
theorem eB7 {x:Bs × Nat} (h:x.2≤1099511627776):bz7 (an1 x)=some x:=by
 unfold bz7 an1
 rw [bv5 _ _ _ (cp1 58 eT0 x.1)]
 dsimp only
 rw [if_pos rfl,bL7,Option.bind_some,cb9 h]; rfl
theorem eB8 {s:Bs} {x:Bs × Nat} (h:bz7 s=some x):an1 x=s∧x.2≤1099511627776:=by
 unfold bz7 at h
 split at h
 ·rename_i hc
  obtain ⟨a,ha,h⟩:=Option.bind_eq_some_iff.1 h
  obtain ⟨n,hn,rfl⟩:=Option.map_eq_some_iff.1 h
  obtain ⟨c1,c2,c3⟩:=bd3 58 s
  rw [if_pos hc] at c2
  have:=dec_numRd hn
  unfold an1
  dsimp only
  rw [bL8 _ _ ha,this.1,← c2]
  exact ⟨rfl,this.2⟩
 ·cases h
theorem eL8 {x:Nat × Bs} (h:x.1≤1099511627776):bZ3 (au0 x)=some x:=by
 unfold bZ3 au0
 rw [bv5 _ _ _ (do8 58 eT0 x.1)]
 dsimp only
 rw [if_pos rfl,cb9 h,Option.bind_some,bL7]; rfl
theorem eL9 {s:Bs} {x:Nat × Bs} (h:bZ3 s=some x):au0 x=s∧x.1≤1099511627776:=by
 unfold bZ3 at h
 split at h
 ·rename_i hc
  obtain ⟨n,hn,h⟩:=Option.bind_eq_some_iff.1 h
  obtain ⟨a,ha,rfl⟩:=Option.map_eq_some_iff.1 h
  obtain ⟨c1,c2,c3⟩:=bd3 58 s
  rw [if_pos hc] at c2
  have:=dec_numRd hn
  unfold au0
  dsimp only
  rw [bL8 _ _ ha,this.1,← c2]
  exact ⟨rfl,this.2⟩
 ·cases h
theorem dS0 (c:UInt8) (hc:ix c=16) (h:c≠58) (x:Bs × Nat):c ∉ an1 x:=by
 unfold an1
 intro e
 rcases List.mem_append.1 e with e | e
 ·exact cp1 c hc _ e
 ·rcases List.mem_cons.1 e with e | e
  ·exact h e
  ·exact do8 c hc _ e
theorem ed3 (c:UInt8) (hc:ix c=16) (h:c≠58) (x:Nat × Bs):c ∉ au0 x:=by
 unfold au0
 intro e
 rcases List.mem_append.1 e with e | e
 ·exact do8 c hc _ e
 ·rcases List.mem_cons.1 e with e | e
  ·exact h e
  ·exact cp1 c hc _ e
theorem cN7 {α:Type} {f:Bs→Option α} {g:α→Bs}:∀ (l:List α),(∀ x∈l,f (g x)=some x)→bi1 f (l.map g)=some l
 | [],_=>rfl
 | x::r,h=>by rw [List.map_cons,bi1,h x (by simp),Option.bind_some,cN7 r (fun y hy=>h y (by simp [hy]))]; rfl
theorem cN8 {α:Type} {f:Bs→Option α} {g:α→Bs} {P:α→Prop} (hf:∀ s x,f s=some x→g x=s∧P x):∀ (l:List Bs) (r:List α),bi1 f l=some r→r.map g=l∧∀ x∈r,P x
 | [],r,h=>by cases h; simp
 | s::l,r,h=>by
  rw [bi1] at h
  obtain ⟨x,hx,h⟩:=Option.bind_eq_some_iff.1 h
  obtain ⟨r',hr,rfl⟩:=Option.map_eq_some_iff.1 h
  obtain ⟨h1,h2⟩:=cN8 hf l r' hr
  have:=hf s x hx
  refine ⟨by rw [List.map_cons,this.1,h1],fun y hy=>?_⟩
  rcases List.mem_cons.1 hy with rfl | hy
  ·exact this.2
  ·exact h2 y hy
theorem dB6 (c:UInt8):∀ (l:List Bs),(∀ p∈l,p≠[])→(ai7 c l=[]↔l=[])
 | [],_=>by simp [ai7]
 | [p],h=>by
  have:=h p (by simp)
  simp [ai7,this]
 | p::q::r,h=>by simp [ai7]
theorem eB9 (x:Bs × Nat):an1 x≠[]:=by simp [an1]
theorem eM0 (x:Nat × Bs):au0 x≠[]:=by simp [au0]
theorem cN9 (l:List (Bs × Nat)):bi2 l=[]↔l=[]:=by
 unfold bi2
 rw [dB6 44 _ (fun p hp=>by obtain ⟨x,_,rfl⟩:=List.mem_map.1 hp; exact eB9 x)]
 simp
theorem cO0 (l:List (Nat × Bs)):bi3 l=[]↔l=[]:=by
 unfold bi3
 rw [dB6 44 _ (fun p hp=>by obtain ⟨x,_,rfl⟩:=List.mem_map.1 hp; exact eM0 x)]
 simp
theorem eC0 {l:List (Bs × Nat)} (hn:l≠[]) (h:∀ x∈l,x.2≤1099511627776):aR3 (bi2 l)=some l:=by
 unfold aR3
 rw [if_neg (fun e=>hn ((cN9 l).1 e))]
 unfold bi2
 rw [ci0 44 _ (by simpa using hn) (fun p hp=>by obtain ⟨x,_,rfl⟩:=List.mem_map.1 hp; exact dS0 44 eT1 (by decide) x)]
 exact cN7 l (fun x hx=>eB7 (h x hx))
theorem eC1 {s:Bs} {l:List (Bs × Nat)} (h:aR3 s=some l):bi2 l=s∧∀ x∈l,x.2≤1099511627776:=by
 unfold aR3 at h
 split at h
 ·cases h
 ·obtain ⟨h1,h2⟩:=cN8 (P:=fun x:Bs × Nat=>x.2≤1099511627776) (fun s x hx=>eB8 hx) _ _ h
  unfold bi2
  exact ⟨by rw [h1,cu4],h2⟩
theorem eC2 {l:List (Nat × Bs)} (hn:l≠[]) (h:∀ x∈l,x.1≤1099511627776):aR4 (bi3 l)=some l:=by
 unfold aR4
 rw [if_neg (fun e=>hn ((cO0 l).1 e))]
 unfold bi3
 rw [ci0 44 _ (by simpa using hn) (fun p hp=>by obtain ⟨x,_,rfl⟩:=List.mem_map.1 hp; exact ed3 44 eT1 (by decide) x)]
 exact cN7 l (fun x hx=>eL8 (h x hx))
theorem eC3 {s:Bs} {l:List (Nat × Bs)} (h:aR4 s=some l):bi3 l=s∧∀ x∈l,x.1≤1099511627776:=by
 unfold aR4 at h
 split at h
 ·cases h
 ·obtain ⟨h1,h2⟩:=cN8 (P:=fun x:Nat × Bs=>x.1≤1099511627776) (fun s x hx=>eL9 hx) _ _ h
  unfold bi3
  exact ⟨by rw [h1,cu4],h2⟩
end Go.VP
namespace Go.VP
open Go Go.VI
theorem dB7:aN2 fsM:=by simp [aN2,fsM,aL2,aL3,az8,aq0,ba0,an2,az9,aL4,aA0,aq1,ba1,aL5,aA1,al4,au1,aA2,au2,aA3,aA4,aA5,aA6,au3,aA7,aA8,am0,aq3,as3,as4]
theorem bC0 {n:Int} (h:rng n):((n.toNat:Nat):Int)=n∧n.toNat≤1099511627776:=by unfold rng at h; omega
theorem af5 {w:Bs} {g:aa2→Int} {p:aa2→Int→aa2} (hgp:∀ m v,g (p m v)=v) {s:Bs} {m m':aa2} (h:(am0 w g p).put s m=some m'):s≠[]∧(am0 w g p).get m'=s∧∃ v,rng v∧m'=p m v:=by
 unfold am0 at h ⊢
 dsimp only at h ⊢
 cases hv:al1 s with
 | none=>rw [hv] at h; cases h
 | some v=>
  rw [hv] at h
  dsimp only at h
  obtain ⟨e1,e2⟩:=dec_numRd hv
  by_cases h0:v=0
  ·rw [if_pos h0] at h; cases h
  ·rw [if_neg h0] at h
   cases h
   rw [hgp,if_neg (by omega),Int.toNat_natCast]
   exact ⟨by rw [← e1]; exact dR9 v,e1,_,⟨by omega,by omega⟩,rfl⟩
theorem ap3 {w:Bs} {g:aa2→Bs} {p:aa2→Bs→aa2} (hgp:∀ m v,g (p m v)=v) {s:Bs} {m m':aa2} (h:(aq3 w g p).put s m=some m'):s≠[]∧(aq3 w g p).get m'=s∧∃ v,m'=p m v:=by
 unfold aq3 at h ⊢
 dsimp only at h ⊢
 by_cases h0:s=[]
 ·rw [if_pos h0] at h; cases h
 ·rw [if_neg h0] at h
  obtain ⟨t,ht,rfl⟩:=Option.map_eq_some_iff.1 h
  rw [hgp]
  exact ⟨h0,bL8 _ _ ht,_,rfl⟩
theorem eM1 (l:List (Bs × Nat)):(l.map dOf).map dTo=l:=by
 rw [List.map_map]
 have:dTo ∘ dOf=id:=by funext x; simp [dTo,dOf]
 rw [this,List.map_id]
theorem eM2 (l:List (Nat × Bs)):(l.map sOf).map sTo=l:=by
 rw [List.map_map]
 have:sTo ∘ sOf=id:=by funext x; simp [sTo,sOf]
 rw [this,List.map_id]
theorem ed4:∀ (l:List ac1),(∀ d∈l,rng d.seq)→(l.map dTo).map dOf=l
 | [],_=>rfl
 | d::r,h=>by
  have h1:=(bC0 (h d (by simp))).1
  rw [List.map_cons,List.map_cons,ed4 r (fun x hx=>h x (by simp [hx]))]
  unfold dTo dOf
  dsimp only
  rw [h1]
theorem ed5:∀ (l:List aa8),(∀ d∈l,rng d.type_)→(l.map sTo).map sOf=l
 | [],_=>rfl
 | d::r,h=>by
  have h1:=(bC0 (h d (by simp))).1
  rw [List.map_cons,List.map_cons,ed5 r (fun x hx=>h x (by simp [hx]))]
  unfold sTo sOf
  dsimp only
  rw [h1]
theorem dS1 {w:Bs} {g:aa2→List ac1} {p:aa2→List ac1→aa2} (hgp:∀ m v,g (p m v)=v) {s:Bs} {m m':aa2} (h:(as3 w g p).put s m=some m'):s≠[]∧(as3 w g p).get m'=s∧∃ v:List ac1,(∀ d∈v,rng d.seq)∧m'=p m v:=by
 unfold as3 at h ⊢
 dsimp only at h ⊢
 obtain ⟨l,hl,rfl⟩:=Option.map_eq_some_iff.1 h
 obtain ⟨e1,e2⟩:=eC1 hl
 rw [hgp,eM1,e1]
 refine ⟨?_,rfl,_,?_,rfl⟩
 ·intro e
  unfold aR3 at hl
  rw [if_pos e] at hl
  cases hl
 ·intro d hd
  obtain ⟨x,hx,rfl⟩:=List.mem_map.1 hd
  have:=e2 x hx
  unfold rng dOf
  dsimp only
  omega
theorem dS2 {w:Bs} {g:aa2→List aa8} {p:aa2→List aa8→aa2} (hgp:∀ m v,g (p m v)=v) {s:Bs} {m m':aa2} (h:(as4 w g p).put s m=some m'):s≠[]∧(as4 w g p).get m'=s∧∃ v:List aa8,(∀ d∈v,rng d.type_)∧m'=p m v:=by
 unfold as4 at h ⊢
 dsimp only at h ⊢
 obtain ⟨l,hl,rfl⟩:=Option.map_eq_some_iff.1 h
 obtain ⟨e1,e2⟩:=eC3 hl
 rw [hgp,eM2,e1]
 refine ⟨?_,rfl,_,?_,rfl⟩
 ·intro e
  unfold aR4 at hl
  rw [if_pos e] at hl
  cases hl
 ·intro d hd
  obtain ⟨x,hx,rfl⟩:=List.mem_map.1 hd
  have:=e2 x hx
  unfold rng sOf
  dsimp only
  omega
theorem eC4 (s:Bs) (m m':aa2) (h:aL2.put s m=some m'):s≠[]∧aL2.get m'=s∧∀ g∈fsM,g.w≠aL2.w→g.get m'=g.get m:=by
 obtain ⟨h1,h2,h3⟩:=af5 (fun _ _=>rfl) h
 refine ⟨h1,h2,?_⟩
 obtain ⟨v,_,rfl⟩:=h3
 simp only [fsM,List.mem_cons,List.mem_nil_iff,or_false,forall_eq_or_imp,forall_eq]
 exact ⟨fun h=>absurd rfl h,fun _=>rfl,fun _=>rfl,fun _=>rfl,fun _=>rfl,fun _=>rfl,fun _=>rfl,fun _=>rfl,fun _=>rfl,fun _=>rfl,fun _=>rfl,fun _=>rfl,fun _=>rfl,fun _=>rfl,fun _=>rfl,fun _=>rfl,fun _=>rfl,fun _=>rfl,fun _=>rfl,fun _=>rfl,fun _=>rfl,fun _=>rfl,fun _=>rfl,fun _=>rfl⟩
theorem eC5 (s:Bs) (m m':aa2) (h:aL3.put s m=some m'):s≠[]∧aL3.get m'=s∧∀ g∈fsM,g.w≠aL3.w→g.get m'=g.get m:=by
 obtain ⟨h1,h2,h3⟩:=af5 (fun _ _=>rfl) h
 refine ⟨h1,h2,?_⟩
 obtain ⟨v,_,rfl⟩:=h3
 simp only [fsM,List.mem_cons,List.mem_nil_iff,or_false,forall_eq_or_imp,forall_eq]
 exact ⟨fun _=>rfl,fun h=>absurd rfl h,fun _=>rfl,fun _=>rfl,fun _=>rfl,fun _=>rfl,fun _=>rfl,fun _=>rfl,fun _=>rfl,fun _=>rfl,fun _=>rfl,fun _=>rfl,fun _=>rfl,fun _=>rfl,fun _=>rfl,fun _=>rfl,fun _=>rfl,fun _=>rfl,fun _=>rfl,fun _=>rfl,fun _=>rfl,fun _=>rfl,fun _=>rfl,fun _=>rfl⟩
theorem er5 (s:Bs) (m m':aa2) (h:az8.put s m=some m'):s≠[]∧az8.get m'=s∧∀ g∈fsM,g.w≠az8.w→g.get m'=g.get m:=by
 obtain ⟨h1,h2,h3⟩:=ap3 (fun _ _=>rfl) h
 refine ⟨h1,h2,?_⟩
 obtain ⟨v,rfl⟩:=h3
 simp only [fsM,List.mem_cons,List.mem_nil_iff,or_false,forall_eq_or_imp,forall_eq]
 exact ⟨fun _=>rfl,fun _=>rfl,fun h=>absurd rfl h,fun _=>rfl,fun _=>rfl,fun _=>rfl,fun _=>rfl,fun _=>rfl,fun _=>rfl,fun _=>rfl,fun _=>rfl,fun _=>rfl,fun _=>rfl,fun _=>rfl,fun _=>rfl,fun _=>rfl,fun _=>rfl,fun _=>rfl,fun _=>rfl,fun _=>rfl,fun _=>rfl,fun _=>rfl,fun _=>rfl,fun _=>rfl⟩
theorem ea3 (s:Bs) (m m':aa2) (h:aq0.put s m=some m'):s≠[]∧aq0.get m'=s∧∀ g∈fsM,g.w≠aq0.w→g.get m'=g.get m:=by
 obtain ⟨h1,h2,h3⟩:=af5 (fun _ _=>rfl) h
 refine ⟨h1,h2,?_⟩
 obtain ⟨v,_,rfl⟩:=h3
 simp only [fsM,List.mem_cons,List.mem_nil_iff,or_false,forall_eq_or_imp,forall_eq]
 exact ⟨fun _=>rfl,fun _=>rfl,fun _=>rfl,fun h=>absurd rfl h,fun _=>rfl,fun _=>rfl,fun _=>rfl,fun _=>rfl,fun _=>rfl,fun _=>rfl,fun _=>rfl,fun _=>rfl,fun _=>rfl,fun _=>rfl,fun _=>rfl,fun _=>rfl,fun _=>rfl,fun _=>rfl,fun _=>rfl,fun _=>rfl,fun _=>rfl,fun _=>rfl,fun _=>rfl,fun _=>rfl⟩
theorem eM3 (s:Bs) (m m':aa2) (h:ba0.put s m=some m'):s≠[]∧ba0.get m'=s∧∀ g∈fsM,g.w≠ba0.w→g.get m'=g.get m:=by
 obtain ⟨h1,h2,h3⟩:=af5 (fun _ _=>rfl) h
 refine ⟨h1,h2,?_⟩
 obtain ⟨v,_,rfl⟩:=h3
 simp only [fsM,List.mem_cons,List.mem_nil_iff,or_false,forall_eq_or_imp,forall_eq]
 exact ⟨fun _=>rfl,fun _=>rfl,fun _=>rfl,fun _=>rfl,fun h=>absurd rfl h,fun _=>rfl,fun _=>rfl,fun _=>rfl,fun _=>rfl,fun _=>rfl,fun _=>rfl,fun _=>rfl,fun _=>rfl,fun _=>rfl,fun _=>rfl,fun _=>rfl,fun _=>rfl,fun _=>rfl,fun _=>rfl,fun _=>rfl,fun _=>rfl,fun _=>rfl,fun _=>rfl,fun _=>rfl⟩
theorem dS3 (s:Bs) (m m':aa2) (h:an2.put s m=some m'):s≠[]∧an2.get m'=s∧∀ g∈fsM,g.w≠an2.w→g.get m'=g.get m:=by
 obtain ⟨h1,h2,h3⟩:=ap3 (fun _ _=>rfl) h
 refine ⟨h1,h2,?_⟩
 obtain ⟨v,rfl⟩:=h3
 simp only [fsM,List.mem_cons,List.mem_nil_iff,or_false,forall_eq_or_imp,forall_eq]
 exact ⟨fun _=>rfl,fun _=>rfl,fun _=>rfl,fun _=>rfl,fun _=>rfl,fun h=>absurd rfl h,fun _=>rfl,fun _=>rfl,fun _=>rfl,fun _=>rfl,fun _=>rfl,fun _=>rfl,fun _=>rfl,fun _=>rfl,fun _=>rfl,fun _=>rfl,fun _=>rfl,fun _=>rfl,fun _=>rfl,fun _=>rfl,fun _=>rfl,fun _=>rfl,fun _=>rfl,fun _=>rfl⟩
theorem er6 (s:Bs) (m m':aa2) (h:az9.put s m=some m'):s≠[]∧az9.get m'=s∧∀ g∈fsM,g.w≠az9.w→g.get m'=g.get m:=by
 obtain ⟨h1,h2,h3⟩:=af5 (fun _ _=>rfl) h
 refine ⟨h1,h2,?_⟩
 obtain ⟨v,_,rfl⟩:=h3
 simp only [fsM,List.mem_cons,List.mem_nil_iff,or_false,forall_eq_or_imp,forall_eq]
 exact ⟨fun _=>rfl,fun _=>rfl,fun _=>rfl,fun _=>rfl,fun _=>rfl,fun _=>rfl,fun h=>absurd rfl h,fun _=>rfl,fun _=>rfl,fun _=>rfl,fun _=>rfl,fun _=>rfl,fun _=>rfl,fun _=>rfl,fun _=>rfl,fun _=>rfl,fun _=>rfl,fun _=>rfl,fun _=>rfl,fun _=>rfl,fun _=>rfl,fun _=>rfl,fun _=>rfl,fun _=>rfl⟩
theorem eC6 (s:Bs) (m m':aa2) (h:aL4.put s m=some m'):s≠[]∧aL4.get m'=s∧∀ g∈fsM,g.w≠aL4.w→g.get m'=g.get m:=by
 obtain ⟨h1,h2,h3⟩:=af5 (fun _ _=>rfl) h
 refine ⟨h1,h2,?_⟩
 obtain ⟨v,_,rfl⟩:=h3
 simp only [fsM,List.mem_cons,List.mem_nil_iff,or_false,forall_eq_or_imp,forall_eq]
 exact ⟨fun _=>rfl,fun _=>rfl,fun _=>rfl,fun _=>rfl,fun _=>rfl,fun _=>rfl,fun _=>rfl,fun h=>absurd rfl h,fun _=>rfl,fun _=>rfl,fun _=>rfl,fun _=>rfl,fun _=>rfl,fun _=>rfl,fun _=>rfl,fun _=>rfl,fun _=>rfl,fun _=>rfl,fun _=>rfl,fun _=>rfl,fun _=>rfl,fun _=>rfl,fun _=>rfl,fun _=>rfl⟩
theorem er7 (s:Bs) (m m':aa2) (h:aA0.put s m=some m'):s≠[]∧aA0.get m'=s∧∀ g∈fsM,g.w≠aA0.w→g.get m'=g.get m:=by
 obtain ⟨h1,h2,h3⟩:=ap3 (fun _ _=>rfl) h
 refine ⟨h1,h2,?_⟩
 obtain ⟨v,rfl⟩:=h3
 simp only [fsM,List.mem_cons,List.mem_nil_iff,or_false,forall_eq_or_imp,forall_eq]
 exact ⟨fun _=>rfl,fun _=>rfl,fun _=>rfl,fun _=>rfl,fun _=>rfl,fun _=>rfl,fun _=>rfl,fun _=>rfl,fun h=>absurd rfl h,fun _=>rfl,fun _=>rfl,fun _=>rfl,fun _=>rfl,fun _=>rfl,fun _=>rfl,fun _=>rfl,fun _=>rfl,fun _=>rfl,fun _=>rfl,fun _=>rfl,fun _=>rfl,fun _=>rfl,fun _=>rfl,fun _=>rfl⟩
theorem ea4 (s:Bs) (m m':aa2) (h:aq1.put s m=some m'):s≠[]∧aq1.get m'=s∧∀ g∈fsM,g.w≠aq1.w→g.get m'=g.get m:=by
 obtain ⟨h1,h2,h3⟩:=af5 (fun _ _=>rfl) h
 refine ⟨h1,h2,?_⟩
 obtain ⟨v,_,rfl⟩:=h3
 simp only [fsM,List.mem_cons,List.mem_nil_iff,or_false,forall_eq_or_imp,forall_eq]
 exact ⟨fun _=>rfl,fun _=>rfl,fun _=>rfl,fun _=>rfl,fun _=>rfl,fun _=>rfl,fun _=>rfl,fun _=>rfl,fun _=>rfl,fun h=>absurd rfl h,fun _=>rfl,fun _=>rfl,fun _=>rfl,fun _=>rfl,fun _=>rfl,fun _=>rfl,fun _=>rfl,fun _=>rfl,fun _=>rfl,fun _=>rfl,fun _=>rfl,fun _=>rfl,fun _=>rfl,fun _=>rfl⟩
theorem eM4 (s:Bs) (m m':aa2) (h:ba1.put s m=some m'):s≠[]∧ba1.get m'=s∧∀ g∈fsM,g.w≠ba1.w→g.get m'=g.get m:=by
 obtain ⟨h1,h2,h3⟩:=ap3 (fun _ _=>rfl) h
 refine ⟨h1,h2,?_⟩
 obtain ⟨v,rfl⟩:=h3
 simp only [fsM,List.mem_cons,List.mem_nil_iff,or_false,forall_eq_or_imp,forall_eq]
 exact ⟨fun _=>rfl,fun _=>rfl,fun _=>rfl,fun _=>rfl,fun _=>rfl,fun _=>rfl,fun _=>rfl,fun _=>rfl,fun _=>rfl,fun _=>rfl,fun h=>absurd rfl h,fun _=>rfl,fun _=>rfl,fun _=>rfl,fun _=>rfl,fun _=>rfl,fun _=>rfl,fun _=>rfl,fun _=>rfl,fun _=>rfl,fun _=>rfl,fun _=>rfl,fun _=>rfl,fun _=>rfl⟩
theorem eC7 (s:Bs) (m m':aa2) (h:aL5.put s m=some m'):s≠[]∧aL5.get m'=s∧∀ g∈fsM,g.w≠aL5.w→g.get m'=g.get m:=by
 obtain ⟨h1,h2,h3⟩:=af5 (fun _ _=>rfl) h
 refine ⟨h1,h2,?_⟩
 obtain ⟨v,_,rfl⟩:=h3
 simp only [fsM,List.mem_cons,List.mem_nil_iff,or_false,forall_eq_or_imp,forall_eq]
 exact ⟨fun _=>rfl,fun _=>rfl,fun _=>rfl,fun _=>rfl,fun _=>rfl,fun _=>rfl,fun _=>rfl,fun _=>rfl,fun _=>rfl,fun _=>rfl,fun _=>rfl,fun h=>absurd rfl h,fun _=>rfl,fun _=>rfl,fun _=>rfl,fun _=>rfl,fun _=>rfl,fun _=>rfl,fun _=>rfl,fun _=>rfl,fun _=>rfl,fun _=>rfl,fun _=>rfl,fun _=>rfl⟩
theorem er8 (s:Bs) (m m':aa2) (h:aA1.put s m=some m'):s≠[]∧aA1.get m'=s∧∀ g∈fsM,g.w≠aA1.w→g.get m'=g.get m:=by
 obtain ⟨h1,h2,h3⟩:=af5 (fun _ _=>rfl) h
 refine ⟨h1,h2,?_⟩
 obtain ⟨v,_,rfl⟩:=h3
 simp only [fsM,List.mem_cons,List.mem_nil_iff,or_false,forall_eq_or_imp,forall_eq]
 exact ⟨fun _=>rfl,fun _=>rfl,fun _=>rfl,fun _=>rfl,fun _=>rfl,fun _=>rfl,fun _=>rfl,fun _=>rfl,fun _=>rfl,fun _=>rfl,fun _=>rfl,fun _=>rfl,fun h=>absurd rfl h,fun _=>rfl,fun _=>rfl,fun _=>rfl,fun _=>rfl,fun _=>rfl,fun _=>rfl,fun _=>rfl,fun _=>rfl,fun _=>rfl,fun _=>rfl,fun _=>rfl⟩
theorem dI7 (s:Bs) (m m':aa2) (h:al4.put s m=some m'):s≠[]∧al4.get m'=s∧∀ g∈fsM,g.w≠al4.w→g.get m'=g.get m:=by
 obtain ⟨h1,h2,h3⟩:=af5 (fun _ _=>rfl) h
 refine ⟨h1,h2,?_⟩
 obtain ⟨v,_,rfl⟩:=h3
 simp only [fsM,List.mem_cons,List.mem_nil_iff,or_false,forall_eq_or_imp,forall_eq]
 exact ⟨fun _=>rfl,fun _=>rfl,fun _=>rfl,fun _=>rfl,fun _=>rfl,fun _=>rfl,fun _=>rfl,fun _=>rfl,fun _=>rfl,fun _=>rfl,fun _=>rfl,fun _=>rfl,fun _=>rfl,fun h=>absurd rfl h,fun _=>rfl,fun _=>rfl,fun _=>rfl,fun _=>rfl,fun _=>rfl,fun _=>rfl,fun _=>rfl,fun _=>rfl,fun _=>rfl,fun _=>rfl⟩
theorem ek0 (s:Bs) (m m':aa2) (h:au1.put s m=some m'):s≠[]∧au1.get m'=s∧∀ g∈fsM,g.w≠au1.w→g.get m'=g.get m:=by
 obtain ⟨h1,h2,h3⟩:=af5 (fun _ _=>rfl) h
 refine ⟨h1,h2,?_⟩
 obtain ⟨v,_,rfl⟩:=h3
 simp only [fsM,List.mem_cons,List.mem_nil_iff,or_false,forall_eq_or_imp,forall_eq]
 exact ⟨fun _=>rfl,fun _=>rfl,fun _=>rfl,fun _=>rfl,fun _=>rfl,fun _=>rfl,fun _=>rfl,fun _=>rfl,fun _=>rfl,fun _=>rfl,fun _=>rfl,fun _=>rfl,fun _=>rfl,fun _=>rfl,fun h=>absurd rfl h,fun _=>rfl,fun _=>rfl,fun _=>rfl,fun _=>rfl,fun _=>rfl,fun _=>rfl,fun _=>rfl,fun _=>rfl,fun _=>rfl⟩
theorem er9 (s:Bs) (m m':aa2) (h:aA2.put s m=some m'):s≠[]∧aA2.get m'=s∧∀ g∈fsM,g.w≠aA2.w→g.get m'=g.get m:=by
 obtain ⟨h1,h2,h3⟩:=af5 (fun _ _=>rfl) h
 refine ⟨h1,h2,?_⟩
 obtain ⟨v,_,rfl⟩:=h3
 simp only [fsM,List.mem_cons,List.mem_nil_iff,or_false,forall_eq_or_imp,forall_eq]
 exact ⟨fun _=>rfl,fun _=>rfl,fun _=>rfl,fun _=>rfl,fun _=>rfl,fun _=>rfl,fun _=>rfl,fun _=>rfl,fun _=>rfl,fun _=>rfl,fun _=>rfl,fun _=>rfl,fun _=>rfl,fun _=>rfl,fun _=>rfl,fun h=>absurd rfl h,fun _=>rfl,fun _=>rfl,fun _=>rfl,fun _=>rfl,fun _=>rfl,fun _=>rfl,fun _=>rfl,fun _=>rfl⟩
theorem ek1 (s:Bs) (m m':aa2) (h:au2.put s m=some m'):s≠[]∧au2.get m'=s∧∀ g∈fsM,g.w≠au2.w→g.get m'=g.get m:=by
 obtain ⟨h1,h2,h3⟩:=af5 (fun _ _=>rfl) h
 refine ⟨h1,h2,?_⟩
 obtain ⟨v,_,rfl⟩:=h3
 simp only [fsM,List.mem_cons,List.mem_nil_iff,or_false,forall_eq_or_imp,forall_eq]
 exact ⟨fun _=>rfl,fun _=>rfl,fun _=>rfl,fun _=>rfl,fun _=>rfl,fun _=>rfl,fun _=>rfl,fun _=>rfl,fun _=>rfl,fun _=>rfl,fun _=>rfl,fun _=>rfl,fun _=>rfl,fun _=>rfl,fun _=>rfl,fun _=>rfl,fun h=>absurd rfl h,fun _=>rfl,fun _=>rfl,fun _=>rfl,fun _=>rfl,fun _=>rfl,fun _=>rfl,fun _=>rfl⟩
theorem es0 (s:Bs) (m m':aa2) (h:aA3.put s m=some m'):s≠[]∧aA3.get m'=s∧∀ g∈fsM,g.w≠aA3.w→g.get m'=g.get m:=by
 obtain ⟨h1,h2,h3⟩:=af5 (fun _ _=>rfl) h
 refine ⟨h1,h2,?_⟩
 obtain ⟨v,_,rfl⟩:=h3
 simp only [fsM,List.mem_cons,List.mem_nil_iff,or_false,forall_eq_or_imp,forall_eq]
 exact ⟨fun _=>rfl,fun _=>rfl,fun _=>rfl,fun _=>rfl,fun _=>rfl,fun _=>rfl,fun _=>rfl,fun _=>rfl,fun _=>rfl,fun _=>rfl,fun _=>rfl,fun _=>rfl,fun _=>rfl,fun _=>rfl,fun _=>rfl,fun _=>rfl,fun _=>rfl,fun h=>absurd rfl h,fun _=>rfl,fun _=>rfl,fun _=>rfl,fun _=>rfl,fun _=>rfl,fun _=>rfl⟩
theorem es1 (s:Bs) (m m':aa2) (h:aA4.put s m=some m'):s≠[]∧aA4.get m'=s∧∀ g∈fsM,g.w≠aA4.w→g.get m'=g.get m:=by
 obtain ⟨h1,h2,h3⟩:=ap3 (fun _ _=>rfl) h
 refine ⟨h1,h2,?_⟩
 obtain ⟨v,rfl⟩:=h3
 simp only [fsM,List.mem_cons,List.mem_nil_iff,or_false,forall_eq_or_imp,forall_eq]
 exact ⟨fun _=>rfl,fun _=>rfl,fun _=>rfl,fun _=>rfl,fun _=>rfl,fun _=>rfl,fun _=>rfl,fun _=>rfl,fun _=>rfl,fun _=>rfl,fun _=>rfl,fun _=>rfl,fun _=>rfl,fun _=>rfl,fun _=>rfl,fun _=>rfl,fun _=>rfl,fun _=>rfl,fun h=>absurd rfl h,fun _=>rfl,fun _=>rfl,fun _=>rfl,fun _=>rfl,fun _=>rfl⟩
theorem es2 (s:Bs) (m m':aa2) (h:aA5.put s m=some m'):s≠[]∧aA5.get m'=s∧∀ g∈fsM,g.w≠aA5.w→g.get m'=g.get m:=by
 obtain ⟨h1,h2,h3⟩:=ap3 (fun _ _=>rfl) h
 refine ⟨h1,h2,?_⟩
 obtain ⟨v,rfl⟩:=h3
 simp only [fsM,List.mem_cons,List.mem_nil_iff,or_false,forall_eq_or_imp,forall_eq]
 exact ⟨fun _=>rfl,fun _=>rfl,fun _=>rfl,fun _=>rfl,fun _=>rfl,fun _=>rfl,fun _=>rfl,fun _=>rfl,fun _=>rfl,fun _=>rfl,fun _=>rfl,fun _=>rfl,fun _=>rfl,fun _=>rfl,fun _=>rfl,fun _=>rfl,fun _=>rfl,fun _=>rfl,fun _=>rfl,fun h=>absurd rfl h,fun _=>rfl,fun _=>rfl,fun _=>rfl,fun _=>rfl⟩
theorem es3 (s:Bs) (m m':aa2) (h:aA6.put s m=some m'):s≠[]∧aA6.get m'=s∧∀ g∈fsM,g.w≠aA6.w→g.get m'=g.get m:=by
 obtain ⟨h1,h2,h3⟩:=dS1 (fun _ _=>rfl) h
 refine ⟨h1,h2,?_⟩
 obtain ⟨v,_,rfl⟩:=h3
 simp only [fsM,List.mem_cons,List.mem_nil_iff,or_false,forall_eq_or_imp,forall_eq]
 exact ⟨fun _=>rfl,fun _=>rfl,fun _=>rfl,fun _=>rfl,fun _=>rfl,fun _=>rfl,fun _=>rfl,fun _=>rfl,fun _=>rfl,fun _=>rfl,fun _=>rfl,fun _=>rfl,fun _=>rfl,fun _=>rfl,fun _=>rfl,fun _=>rfl,fun _=>rfl,fun _=>rfl,fun _=>rfl,fun _=>rfl,fun h=>absurd rfl h,fun _=>rfl,fun _=>rfl,fun _=>rfl⟩
theorem ek2 (s:Bs) (m m':aa2) (h:au3.put s m=some m'):s≠[]∧au3.get m'=s∧∀ g∈fsM,g.w≠au3.w→g.get m'=g.get m:=by
 obtain ⟨h1,h2,h3⟩:=af5 (fun _ _=>rfl) h
 refine ⟨h1,h2,?_⟩
 obtain ⟨v,_,rfl⟩:=h3
 simp only [fsM,List.mem_cons,List.mem_nil_iff,or_false,forall_eq_or_imp,forall_eq]
 exact ⟨fun _=>rfl,fun _=>rfl,fun _=>rfl,fun _=>rfl,fun _=>rfl,fun _=>rfl,fun _=>rfl,fun _=>rfl,fun _=>rfl,fun _=>rfl,fun _=>rfl,fun _=>rfl,fun _=>rfl,fun _=>rfl,fun _=>rfl,fun _=>rfl,fun _=>rfl,fun _=>rfl,fun _=>rfl,fun _=>rfl,fun _=>rfl,fun h=>absurd rfl h,fun _=>rfl,fun _=>rfl⟩
theorem es4 (s:Bs) (m m':aa2) (h:aA7.put s m=some m'):s≠[]∧aA7.get m'=s∧∀ g∈fsM,g.w≠aA7.w→g.get m'=g.get m:=by
 obtain ⟨h1,h2,h3⟩:=ap3 (fun _ _=>rfl) h
 refine ⟨h1,h2,?_⟩
 obtain ⟨v,rfl⟩:=h3
 simp only [fsM,List.mem_cons,List.mem_nil_iff,or_false,forall_eq_or_imp,forall_eq]
 exact ⟨fun _=>rfl,fun _=>rfl,fun _=>rfl,fun _=>rfl,fun _=>rfl,fun _=>rfl,fun _=>rfl,fun _=>rfl,fun _=>rfl,fun _=>rfl,fun _=>rfl,fun _=>rfl,fun _=>rfl,fun _=>rfl,fun _=>rfl,fun _=>rfl,fun _=>rfl,fun _=>rfl,fun _=>rfl,fun _=>rfl,fun _=>rfl,fun _=>rfl,fun h=>absurd rfl h,fun _=>rfl⟩
theorem es5 (s:Bs) (m m':aa2) (h:aA8.put s m=some m'):s≠[]∧aA8.get m'=s∧∀ g∈fsM,g.w≠aA8.w→g.get m'=g.get m:=by
 obtain ⟨h1,h2,h3⟩:=dS2 (fun _ _=>rfl) h
 refine ⟨h1,h2,?_⟩
 obtain ⟨v,_,rfl⟩:=h3
 simp only [fsM,List.mem_cons,List.mem_nil_iff,or_false,forall_eq_or_imp,forall_eq]
 exact ⟨fun _=>rfl,fun _=>rfl,fun _=>rfl,fun _=>rfl,fun _=>rfl,fun _=>rfl,fun _=>rfl,fun _=>rfl,fun _=>rfl,fun _=>rfl,fun _=>rfl,fun _=>rfl,fun _=>rfl,fun _=>rfl,fun _=>rfl,fun _=>rfl,fun _=>rfl,fun _=>rfl,fun _=>rfl,fun _=>rfl,fun _=>rfl,fun _=>rfl,fun _=>rfl,fun h=>absurd rfl h⟩
theorem eC8:ej8 fsM:=by
 unfold ej8
 intro f hf
 simp only [fsM,List.mem_cons,List.mem_nil_iff,or_false] at hf
 rcases hf with rfl | rfl | rfl | rfl | rfl | rfl | rfl | rfl | rfl | rfl | rfl | rfl | rfl | rfl | rfl | rfl | rfl | rfl | rfl | rfl | rfl | rfl | rfl | rfl
 ·exact eC4
 ·exact eC5
 ·exact er5
 ·exact ea3
 ·exact eM3
 ·exact dS3
 ·exact er6
 ·exact eC6
 ·exact er7
 ·exact ea4
 ·exact eM4
 ·exact eC7
 ·exact er8
 ·exact dI7
 ·exact ek0
 ·exact er9
 ·exact ek1
 ·exact es0
 ·exact es1
 ·exact es2
 ·exact es3
 ·exact ek2
 ·exact es4
 ·exact es5
theorem ao0 {w:Bs} {g:aa2→Int} {p:aa2→Int→aa2} {r:List (TFd aa2)} {m m0 m1:aa2} (hz:p m0 0=m0) (hr:rng (g m)) (h:aC0 m r (p m0 (g m)) m1):aC0 m (am0 w g p::r) m0 m1:=by
 rw [aC0]
 by_cases h0:g m=0
 ·rw [h0,hz] at h
  rw [if_pos (show (am0 w g p).get m=[] from if_pos h0)]
  exact h
 ·have e:(am0 w g p).get m=as2 (g m).toNat:=if_neg h0
  obtain ⟨r1,r2⟩:=bC0 hr
  rw [if_neg (by rw [e]; exact dR9 _)]
  refine ⟨_,?_,h⟩
  rw [e]
  show (match al1 (as2 (g m).toNat) with | some v=>if v=0 then none else some (p m0 (v:Int)) | none=>none)=_
  rw [cb9 r2]
  dsimp only
  rw [if_neg (by omega),r1]
theorem aS9 {w:Bs} {g:aa2→Bs} {p:aa2→Bs→aa2} {r:List (TFd aa2)} {m m0 m1:aa2} (hz:p m0 []=m0) (h:aC0 m r (p m0 (g m)) m1):aC0 m (aq3 w g p::r) m0 m1:=by
 rw [aC0]
 by_cases h0:g m=[]
 ·rw [h0,hz] at h
  rw [if_pos (show (aq3 w g p).get m=[] from (dR8 _).2 h0)]
  exact h
 ·have e:ag9 (g m)≠[]:=fun e=>h0 ((dR8 _).1 e)
  rw [if_neg (show ¬(aq3 w g p).get m=[] from e)]
  refine ⟨_,?_,h⟩
  show (if ag9 (g m)=[] then none else (aj8 (ag9 (g m))).map (p m0))=_
  rw [if_neg e,bL7]; rfl
theorem es6 {w:Bs} {g:aa2→List ac1} {p:aa2→List ac1→aa2} {r:List (TFd aa2)} {m m0 m1:aa2} (hz:p m0 []=m0) (hr:∀ d∈g m,rng d.seq) (h:aC0 m r (p m0 (g m)) m1):aC0 m (as3 w g p::r) m0 m1:=by
 rw [aC0]
 by_cases h0:g m=[]
 ·rw [h0,hz] at h
  rw [if_pos (show (as3 w g p).get m=[] from (cN9 _).2 (by rw [h0]; rfl))]
  exact h
 ·have e:(g m).map dTo≠[]:=by simpa using h0
  rw [if_neg (show ¬(as3 w g p).get m=[] from fun x=>e ((cN9 _).1 x))]
  refine ⟨_,?_,h⟩
  show (aR3 (bi2 ((g m).map dTo))).map (fun l=>p m0 (l.map dOf))=_
  rw [eC0 e (fun x hx=>by
   obtain ⟨d,hd,rfl⟩:=List.mem_map.1 hx
   exact (bC0 (hr d hd)).2)]
  show some (p m0 (((g m).map dTo).map dOf))=_
  rw [ed4 _ hr]
theorem es7 {w:Bs} {g:aa2→List aa8} {p:aa2→List aa8→aa2} {r:List (TFd aa2)} {m m0 m1:aa2} (hz:p m0 []=m0) (hr:∀ d∈g m,rng d.type_) (h:aC0 m r (p m0 (g m)) m1):aC0 m (as4 w g p::r) m0 m1:=by
 rw [aC0]
 by_cases h0:g m=[]
 ·rw [h0,hz] at h
  rw [if_pos (show (as4 w g p).get m=[] from (cO0 _).2 (by rw [h0]; rfl))]
  exact h
 ·have e:(g m).map sTo≠[]:=by simpa using h0
  rw [if_neg (show ¬(as4 w g p).get m=[] from fun x=>e ((cO0 _).1 x))]
  refine ⟨_,?_,h⟩
  show (aR4 (bi3 ((g m).map sTo))).map (fun l=>p m0 (l.map sOf))=_
  rw [eC2 e (fun x hx=>by
   obtain ⟨d,hd,rfl⟩:=List.mem_map.1 hx
   exact (bC0 (hr d hd)).2)]
  show some (p m0 (((g m).map sTo).map sOf))=_
  rw [ed5 _ hr]
theorem eT2 {m:aa2} (h:ad7 m):aC0 m fsM (ak6 m.kind) m:=by
 refine ao0 rfl h.cmd ?_
 refine ao0 rfl h.ver ?_
 refine aS9 rfl ?_
 refine ao0 rfl h.family ?_
 refine ao0 rfl h.ae ?_
 refine aS9 rfl ?_
 refine ao0 rfl h.plen ?_
 refine ao0 rfl h.tag ?_
 refine aS9 rfl ?_
 refine ao0 rfl h.metric ?_
 refine aS9 rfl ?_
 refine ao0 rfl h.seq ?_
 refine ao0 rfl h.seq2 ?_
 refine ao0 rfl h.interval ?_
 refine ao0 rfl h.flags ?_
 refine ao0 rfl h.hops ?_
 refine ao0 rfl h.nonce ?_
 refine ao0 rfl h.cost ?_
 refine aS9 rfl ?_
 refine aS9 rfl ?_
 refine es6 rfl h.list ?_
 refine ao0 rfl h.type_ ?_
 refine aS9 rfl ?_
 refine es7 rfl h.subs ?_
 show _=m
 cases m
 rfl
theorem eT3 (m:aa2):∀ f∈fsM,(32:UInt8) ∉ f.get m:=by
 intro f hf
 simp only [fsM,List.mem_cons,List.mem_nil_iff,or_false] at hf
 have N:∀ w g p,(32:UInt8) ∉ (am0 w g p).get m:=fun w g p=>by
  unfold am0
  dsimp only
  split
  ·simp
  ·exact do8 32 ej9 _
 have T:∀ w g p,(32:UInt8) ∉ (aq3 w g p).get m:=fun w g p=>cp1 32 ej9 _
 have L:∀ w g p,(32:UInt8) ∉ (as3 w g p).get m:=fun w g p=>dd9 32 44 (by decide) _ (fun x hx=>by obtain ⟨y,_,rfl⟩:=List.mem_map.1 hx; exact dS0 32 ej9 (by decide) y)
 have S:∀ w g p,(32:UInt8) ∉ (as4 w g p).get m:=fun w g p=>dd9 32 44 (by decide) _ (fun x hx=>by obtain ⟨y,_,rfl⟩:=List.mem_map.1 hx; exact ed3 32 ej9 (by decide) y)
 rcases hf with rfl | rfl | rfl | rfl | rfl | rfl | rfl | rfl | rfl | rfl | rfl | rfl | rfl | rfl | rfl | rfl | rfl | rfl | rfl | rfl | rfl | rfl | rfl | rfl
 ·exact N _ _ _
 ·exact N _ _ _
 ·exact T _ _ _
 ·exact N _ _ _
 ·exact N _ _ _
 ·exact T _ _ _
 ·exact N _ _ _
 ·exact N _ _ _
 ·exact T _ _ _
 ·exact N _ _ _
 ·exact T _ _ _
 ·exact N _ _ _
 ·exact N _ _ _
 ·exact N _ _ _
 ·exact N _ _ _
 ·exact N _ _ _
 ·exact N _ _ _
 ·exact N _ _ _
 ·exact T _ _ _
 ·exact T _ _ _
 ·exact L _ _ _
 ·exact N _ _ _
 ·exact T _ _ _
 ·exact S _ _ _
end Go.VP
namespace Go.VP
open Go Go.VI
theorem db1:∀ (a b:Bs),ag9 (a++b)=ag9 a++ag9 b
 | [],b=>rfl
 | x::r,b=>by rw [List.cons_append,ag9,ag9,db1 r b]; rfl
theorem hexs_len:∀ (a:Bs),(ag9 a).length=2 * a.length
 | []=>rfl
 | x::r=>by rw [ag9,List.length_cons,List.length_cons,hexs_len r,List.length_cons]; omega
theorem decT_len (n:Nat):(as2 n).length≤13:=ed2 10 13 n
end Go.VP
namespace Go.VP
open Go Go.VI
theorem word_is (k:Int):ch3 (k,())=some ((an3 k,()),()):=by
 rw [du2]
 unfold an3
 by_cases h0:k < 1
 ·rw [ifd h0,if_neg (by omega)]
 ·rw [ifn h0]
  by_cases h1:14 < k
  ·rw [ifd h1,if_neg (by omega)]
  ·rw [ifn h1,cb4,Option.bind_some,if_pos (show 0≤k∧k < 15 by omega),if_pos (show 1≤k∧k≤14 by omega)]
   have:k=1∨k=2∨k=3∨k=4∨k=5∨k=6∨k=7∨k=8∨k=9∨k=10∨k=11∨k=12∨k=13∨k=14:=by omega
   rcases this with rfl | rfl | rfl | rfl | rfl | rfl | rfl | rfl | rfl | rfl | rfl | rfl | rfl | rfl <;> rfl
theorem eM5 {R:Type} {a w:Bs} {x:R} {y:R} (r:R) (h1:w=a→x=r) (h2:¬w=a→y=r):(if (w==a)=true then x else y)=r:=by
 by_cases h:w=a
 ·rw [if_pos (by simpa using h)]; exact h1 h
 ·rw [if_neg (by simpa using h)]; exact h2 h
def bC1 (a:Bs) (i:Nat) (l:List Bs):Int:=if l.idxOf a < l.length then ((i+l.idxOf a:Nat):Int) else 0
theorem ea5 (a w:Bs) (i:Nat) (l:List Bs):bC1 a i (w::l)=if w=a then (i:Int) else bC1 a (i+1) l:=by
 unfold bC1
 by_cases h:w=a
 ·subst h; simp
 ·rw [List.idxOf_cons,show (w==a)=false by simpa using h,cond_false,if_neg h,List.length_cons]
  by_cases h2:l.idxOf a < l.length
  ·rw [if_pos (by omega),if_pos h2,show i+(l.idxOf a+1)=i+1+l.idxOf a by omega]
  ·rw [if_neg (by omega),if_neg h2]
theorem es8 {n m:Nat} {a:Bs} {r:(aM5 × Unit) × Unit} {i:Nat} {w:Bs} {l:List Bs} {j:Int} (hL:an6 n (m+1) a r j=if (w==a)=true then some ((j,()),()) else an6 n m a r (j+1)) (hj:j=(i:Int))
  (h:an6 n m a r (j+1)=some ((bC1 a (i+1) l,()),())):an6 n (m+1) a r j=some ((bC1 a i (w::l),()),()):=by
 rw [hL,ea5]
 refine eM5 _ (fun e=>?_) (fun e=>?_)
 ·rw [if_pos e,hj]
 ·rw [if_neg e]; exact h
theorem kind_is (a:Bs):da7 (a,())=some ((ap1 a,()),()):=by
 show ch4 fuel _=_
 rw [du3,cb4,Option.bind_some]
 obtain ⟨m,hm⟩:∃ m,fuel=m+16:=⟨fuel - 16,by have:=ag7 (n:=16) (by decide); omega⟩
 have hk:ap1 a=bC1 a 0 aY0:=by
  unfold ap1 bC1
  rw [show aY0.length=15 from rfl,Nat.zero_add]
 rw [hk]
 generalize hn:fuel=n at hm ⊢
 rw [show an6 n n a=an6 n (m+16) a by rw [hm]]
 clear hm hn hk
 unfold aY0
 iterate 15 refine es8 (by rw [bV2]; rfl) rfl ?_
 rw [show bC1 a (14+1) []=0 from rfl]
 rw [bV2]
 rfl
theorem eY1:∀ n:Nat,n < 256→ae4 .u8 (n:Int) 4=((n / 16:Nat):Int):=by decide +kernel
theorem eT4:∀ n:Nat,n < 256→an0 .and .u8 (n:Int) 15=((n % 16:Nat):Int):=by decide +kernel
theorem db2 {n:Nat} {s:Bs} (hs:s.length≤1000000000):∀ (d i m:Nat),i+d=s.length→d < m→aQ0 n m s (ag9 (s.take i)) i=some ((ag9 s,()),())
 | 0,i,m,h,hm=>by
  obtain ⟨m,rfl⟩:∃ k,m=k+1:=⟨m - 1,by omega⟩
  rw [bB6,ifn (by omega),List.take_of_length_le (by omega)]
 | d+1,i,m,h,hm=>by
  obtain ⟨m,rfl⟩:∃ k,m=k+1:=⟨m - 1,by omega⟩
  have hi:i < s.length:=by omega
  have hb:(s[i]).toNat < 256:=(s[i]).toNat_lt
  have hl:(ag9 (s.take i)).length=2 * i:=by rw [hexs_len,List.length_take]; omega
  have c:∀ r:Nat,r < 16→([48,49,50,51,52,53,54,55,56,57,97,98,99,100,101,102]:Bs)[(r:Int).toNat]?=some (aB5 r):=fun r hr=>by
   rw [Int.toNat_natCast]; exact eW7 r hr
  have go:=db2 (n:=n) hs d (i+1) m (by omega) (by omega)
  rw [List.take_succ_eq_append_getElem hi,db1,show ((i+1:Nat):Int)=(i:Int)+1 by omega] at go
  rw [bB6,ifd (by omega),if_pos (by omega),Int.toNat_natCast,aj0 hi,eY1 _ hb,eT4 _ hb,if_pos (by omega),c _ (by omega),Option.bind_some,if_pos (by omega),c _ (by omega),Option.bind_some,if_pos (ah7 (by simp; omega)),w64 (x:=(i:Int)+1) (by omega) (by omega),ax9,ax9]
  exact go
theorem digits_is {s:Bs} (hs:s.length≤1000000000):cC9 (s,())=some ((ag9 s,()),()):=by
 show bH9 fuel _=_
 rw [dd3,w64 (by omega) (by omega),if_pos ⟨by omega,by unfold ah8; omega⟩]
 exact db2 (n:=fuel) hs s.length 0 fuel (by omega) (ag7 (by omega))
def bytesE (s:Bs):Bs × Bool:=match aj8 s with | some t=>(t,true) | none=>([],false)
theorem es9:∀ (k:Nat) (s:Bs),s.length=2 * k+1→aj8 s=none
 | 0,s,h=>by
  match s,h with
  | [a],_=>rfl
 | k+1,s,h=>by
  match s,h with
  | a::b::r,h=>
   rw [aj8,es9 k r (by simp at h; omega)]
   split <;> rfl
theorem eT5:∀ x:Nat,x < 16→∀ y:Nat,y < 16→aa1 (IntKind.wrap .u8 (an0 .or .i64 (am6 .i64 (x:Nat) 4) (y:Nat)))=UInt8.ofNat (x * 16+y):=by decide +kernel
theorem cO1 {n h:Nat} {s:Bs} (hs:s.length=2 * h) (hh:h≤1000000):∀ (d i m:Nat) (done:Bs),i+d=h→d < m→done.length=i→
  aV9 n m s (done++List.replicate d 0) (h:Int) i=some (((match aj8 (s.drop (2 * i)) with | some t=>(done++t,true) | none=>([],false)).1,(match aj8 (s.drop (2 * i)) with | some t=>(done++t,true) | none=>(([]:Bs),false)).2,()),())
 | 0,i,m,done,he,hm,hd=>by
  obtain ⟨m,rfl⟩:∃ k,m=k+1:=⟨m - 1,by omega⟩
  rw [bJ5,ifn (by omega),List.drop_of_length_le (by omega)]
  simp [aj8]
 | d+1,i,m,done,he,hm,hd=>by
  obtain ⟨m,rfl⟩:∃ k,m=k+1:=⟨m - 1,by omega⟩
  have h0:2 * i < s.length:=by omega
  have h1:2 * i+1 < s.length:=by omega
  have e0:(2 * (i:Int)).toNat=2 * i:=by omega
  have e1:(2 * (i:Int)+1).toNat=2 * i+1:=by omega
  have hdr:s.drop (2 * i)=s[2 * i]::s[2 * i+1]::s.drop (2 * (i+1)):=by
   rw [List.drop_eq_getElem_cons h0,List.drop_eq_getElem_cons h1,show 2 * (i+1)=2 * i+1+1 by omega]
  have ib:∀ c:UInt8,ay9 (([48,49,50,51,52,53,54,55,56,57,97,98,99,100,101,102]:Bs),(c.toNat:Int),())=some (((if ix c < 16 then ((ix c:Nat):Int) else -1),()),()):=fun c=>by
   show aq5 _=_
   unfold aq5
   dsimp only
   rw [if_pos (by decide),Int.toNat_natCast,show (c.toNat.toUInt8)=c by simp]
   have:=eS9 c
   rw [← this]; rfl
  rw [bJ5,ifd (by omega),w64 (x:=2 * (i:Int)) (by omega) (by omega),if_pos (by omega),e0,aj0 h0,ib,Option.bind_some,w64 (x:=2 * (i:Int)+1) (by omega) (by omega),if_pos (by omega),e1,aj0 h1,ib,Option.bind_some,hdr,aj8]
  by_cases a0:ix s[2 * i] < 16
  ·by_cases b0:ix s[2 * i+1] < 16
   ·dsimp only
    rw [if_pos a0,if_pos b0,ifn (by omega),ifn (by omega),if_pos (by simp; omega),Int.toNat_natCast,if_pos (by simp; omega),eT5 _ a0 _ b0,w64 (x:=(i:Int)+1) (by omega) (by omega),if_pos ⟨a0,b0⟩]
    have hset:(done++List.replicate (d+1) 0).set i (UInt8.ofNat (ix s[2 * i] * 16+ix s[2 * i+1]))=(done++[UInt8.ofNat (ix s[2 * i] * 16+ix s[2 * i+1])])++List.replicate d 0:=by
     rw [List.set_append_right _ _ (by omega),hd,Nat.sub_self,List.replicate_succ,List.set_cons_zero]; simp
    have go:=cO1 (n:=n) hs hh d (i+1) m (done++[UInt8.ofNat (ix s[2 * i] * 16+ix s[2 * i+1])]) (by omega) (by omega) (by simp [hd])
    rw [show ((i+1:Nat):Int)=(i:Int)+1 by omega] at go
    rw [hset,go]
    cases aj8 (s.drop (2 * (i+1))) with
    | none=>rfl
    | some t=>simp
   ·dsimp only
    rw [if_pos a0,if_neg b0,ifn (by omega),ifd (by omega),if_neg (fun e=>b0 e.2)]
  ·dsimp only
   rw [if_neg a0,ifd (by omega),if_neg (fun e=>a0 e.1)]
theorem bytesT_is {s:Bs} (hs:s.length≤1000000):bn3 (s,())=some (((bytesE s).1,(bytesE s).2,()),()):=by
 show bU4 fuel _=_
 rw [dn1,Int.tmod_eq_emod_of_nonneg (by omega),Int.tdiv_eq_ediv_of_nonneg (by omega)]
 by_cases ho:s.length % 2=0
 ·obtain ⟨h,hh⟩:∃ h,s.length=2 * h:=⟨s.length / 2,by omega⟩
  rw [if_neg (by simp; omega),w64 (by omega) (by omega),if_pos ⟨by omega,by unfold ah8; omega⟩,show (((s.length:Nat):Int) / 2)=((h:Nat):Int) by omega,Int.toNat_natCast,List.length_replicate]
  have:=cO1 (n:=fuel) hh (by omega) h 0 fuel [] (by omega) (ag7 (by omega)) rfl
  rw [List.nil_append,Nat.mul_zero,List.drop_zero] at this
  refine this.trans ?_
  unfold bytesE
  cases aj8 s <;> rfl
 ·rw [if_pos (by simp; omega)]
  unfold bytesE
  rw [es9 (s.length / 2) s (by omega)]
def destE (s:Bs):ac1 × Bool:=(⟨(bytesE (ac4 58 s).1).1,(ao8 (ac4 58 s).2.1).1⟩,(ac4 58 s).2.2 && (bytesE (ac4 58 s).1).2 && (ao8 (ac4 58 s).2.1).2)
def subE (s:Bs):aa8 × Bool:=(⟨(ao8 (ac4 58 s).1).1,(bytesE (ac4 58 s).2.1).1⟩,(ac4 58 s).2.2 && (ao8 (ac4 58 s).1).2 && (bytesE (ac4 58 s).2.1).2)
theorem cutC_len (c:UInt8) (s:Bs):(ac4 c s).1.length≤s.length∧(ac4 c s).2.1.length≤s.length:=by
 have h:=(bd3 c s).2.1
 have h2:=(bd3 c s).2.2
 have:s.length=(ac4 c s).1.length+(if (ac4 c s).2.2=true then c::(ac4 c s).2.1 else []).length:=by rw [← List.length_append,← h]
 cases hb:(ac4 c s).2.2 with
 | true=>rw [hb,if_pos rfl] at this; simp at this; omega
 | false=>rw [h2 hb]; simp; omega
theorem ed6 {s:Bs} (c:UInt8) (hs:s.length≤1000000):bb4 (s,[c],())=some (((ac4 c s).1,(ac4 c s).2.1,(ac4 c s).2.2,()),()):=by
 show aL6 _=_
 unfold aL6
 dsimp only
 rw [if_pos hs]
theorem ed7 {s:Bs} (hs:s.length≤1000000):bb6 (s,())=some (((ao8 s).1,(ao8 s).2,()),()):=by
 show aL7 _=_
 unfold aL7
 dsimp only
 rw [if_pos hs]
theorem destT_is {s:Bs} (hs:s.length≤1000000):ch5 (s,())=some (((destE s).1,(destE s).2,()),()):=by
 have h:=cutC_len 58 s
 rw [du4,ed6 58 hs,Option.bind_some,bytesT_is (by dsimp only; omega),Option.bind_some,ed7 (by dsimp only; omega),Option.bind_some]
 unfold destE
 cases (ac4 58 s).2.2 <;> cases (bytesE (ac4 58 s).1).2 <;> rfl
theorem subT_is {s:Bs} (hs:s.length≤1000000):cu0 (s,())=some (((subE s).1,(subE s).2,()),()):=by
 have h:=cutC_len 58 s
 rw [dH7,ed6 58 hs,Option.bind_some,ed7 (by dsimp only; omega),Option.bind_some,bytesT_is (by dsimp only; omega),Option.bind_some]
 unfold subE
 cases (ac4 58 s).2.2 <;> cases (ao8 (ac4 58 s).1).2 <;> rfl
theorem destE_rd (s:Bs):bz7 s=if (destE s).2=true then some (dTo (destE s).1) else none:=by
 unfold bz7 destE bytesE ao8 dTo
 cases (ac4 58 s).2.2 with
 | false=>rfl
 | true=>
  cases aj8 (ac4 58 s).1 with
  | none=>rfl
  | some a=>
   cases al1 (ac4 58 s).2.1 with
   | none=>rfl
   | some n=>simp
theorem subE_rd (s:Bs):bZ3 s=if (subE s).2=true then some (sTo (subE s).1) else none:=by
 unfold bZ3 subE bytesE ao8 sTo
 cases (ac4 58 s).2.2 with
 | false=>rfl
 | true=>
  cases al1 (ac4 58 s).1 with
  | none=>rfl
  | some n=>
   cases aj8 (ac4 58 s).2.1 with
   | none=>rfl
   | some a=>simp
theorem numE_rng (s:Bs):rng (ao8 s).1:=by
 unfold ao8
 cases h:al1 s with
 | none=>exact ⟨by decide,by decide⟩
 | some v=>have:=(dec_numRd h).2; exact ⟨by show (0:Int)≤(v:Int); omega,by show (v:Int)≤_; omega⟩
theorem hexRd_len:∀ (k:Nat) (s t:Bs),s.length≤k→aj8 s=some t→t.length≤k
 | 0,s,t,h,e=>by
  match s,h with
  | [],_=>rw [aj8] at e; injection e with e; subst e; simp
 | k+1,s,t,h,e=>by
  match s with
  | []=>rw [aj8] at e; injection e with e; subst e; simp
  | [a]=>cases e
  | a::b::r=>
   rw [aj8] at e
   split at e
   ·cases hr:aj8 r with
    | none=>rw [hr] at e; cases e
    | some u=>
     rw [hr] at e; injection e with e; subst e
     have:=hexRd_len k r u (by simp at h; omega) hr
     simp; omega
   ·cases e
theorem bytesE_len (s:Bs):(bytesE s).1.length≤s.length:=by
 unfold bytesE
 cases h:aj8 s with
 | none=>simp
 | some t=>exact hexRd_len _ s t (Nat.le_refl _) h
end Go.VP
namespace Go.VP
open Go Go.VI
abbrev Tlv:=ak2
abbrev Sub:=aa8
def as6 (t:Int) (d:Bs):Bs × Bool:=if 1≤t∧t≤255∧d.length≤255 then (aa1 t::aa1 d.length::d,true) else ([],false)
theorem dB8 (n:Int) (h:0≤n):aa1 (n % 256)=aa1 n:=by
 apply cS7; rw [ah0,ah0,if_pos (by omega),if_pos h]; omega
theorem aW1 (t:Int) (d:Bs):af4 (t,d,())=some (((as6 t d).1,(as6 t d).2,()),()):=by
 rw [dv3]
 unfold as6
 by_cases h1:t < 1
 ·rw [if_pos (by simpa using h1),if_neg (by omega)]
 ·rw [if_neg (by simpa using h1)]
  by_cases h2:255 < t
  ·rw [if_pos (by simpa using h2),if_neg (by omega)]
  ·rw [if_neg (by simpa using h2)]
   by_cases h3:(255:Int) < d.length
   ·rw [if_pos (by simpa using h3),if_neg (by omega)]
   ·have hh:1≤t∧t≤255∧d.length≤255:=by omega
    rw [if_neg (by simpa using h3),if_pos hh,wu8,wu8,dB8 _ (by omega),dB8 _ (by omega),if_pos (af6 (by simp; omega))]
    rfl
def spl (p:Int) (s:Bs):Except Int (List Tlv):=
 match s with
 | []=>.ok []
 | t::r=>
  if t=0 then (spl (p+1) r).map (⟨0,p,[]⟩::·)
  else match r with
   | []=>.error p
   | n::d=>if d.length < n.toNat then .error p else (spl (p+2+n.toNat) (d.drop n.toNat)).map (⟨t.toNat,p,d.take n.toNat⟩::·)
termination_by s.length
decreasing_by all_goals (simp_wf; try omega)
abbrev bd4 {α β γ:Type} (x:α × β × γ):α × β × γ × Unit:=(x.1,x.2.1,x.2.2,())
theorem aW2 (p:Int):spl p []=.ok []:=by rw [spl.eq_def]
theorem bV6 {p:Int} {r:Bs}:spl p (0::r)=(spl (p+1) r).map (⟨0,p,[]⟩::·):=by rw [spl.eq_def]; rfl
theorem cS8 {p:Int} {t:UInt8} (h:t≠0):spl p [t]=.error p:=by rw [spl.eq_def]; simp [h]
theorem cS9 {p:Int} {t n:UInt8} {d:Bs} (h:t≠0) (h2:d.length < n.toNat):spl p (t::n::d)=.error p:=by rw [spl.eq_def]; simp [h,h2]
theorem bv6 {p:Int} {t n:UInt8} {d:Bs} (h:t≠0) (h2:n.toNat≤d.length):spl p (t::n::d)=(spl (p+2+n.toNat) (d.drop n.toNat)).map (⟨t.toNat,p,d.take n.toNat⟩::·):=by
 rw [spl.eq_def]; simp only [h,if_false]; rw [if_neg (by omega)]
end Go.VP
namespace Go.VP
open Go Go.VI
def ak4:List Sub→Int
 | []=>0
 | y::l=>2+(y.data.length:Int)+ak4 l
def az5 (l:List Sub):Prop:=l.length≤1000000000∧∀ y∈l,y.data.length≤300
theorem az5.tail {y:Sub} {l:List Sub} (h:az5 (y::l)):az5 l:=⟨by have:=h.1; simp at this; omega,fun z hz=>h.2 z (List.mem_cons_of_mem _ hz)⟩
theorem az5.drop {l:List Sub} (h:az5 l) (i:Nat):az5 (l.drop i):=⟨by have:=h.1; simp; omega,fun y hy=>h.2 y (List.mem_of_mem_drop hy)⟩
theorem de0:∀ {l:List Sub},az5 l→0≤ak4 l∧ak4 l≤302 * l.length
 | [],_=>by simp [ak4]
 | y::l,h=>by
  have:=de0 h.tail
  have hy:=h.2 y (List.mem_cons_self ..)
  simp only [ak4,List.length_cons]
  omega
theorem ek3 {l:List Sub} {n:Nat} (hl:az5 l):∀ (d m i:Nat) (acc:Int),i+d=l.length→d < m→0≤acc→acc≤302 * i→
  ba9 n m l acc i=some ((acc+ak4 (l.drop i),()),()):=by
 have h1:=hl.1
 intro d
 induction d with
 | zero=>
  intro m i acc hd hm h2 h3
  obtain ⟨m,rfl⟩:∃ k,m=k+1:=⟨m - 1,by omega⟩
  rw [bV4,ifn (by omega),List.drop_eq_nil_of_le (by omega)]
  simp [ak4]
 | succ d ih=>
  intro m i acc hd hm h2 h3
  obtain ⟨m,rfl⟩:∃ k,m=k+1:=⟨m - 1,by omega⟩
  have hlt:i < l.length:=by omega
  have hy:=hl.2 l[i] (List.getElem_mem hlt)
  rw [bV4,ifd (by omega),if_pos (by omega),Int.toNat_natCast,aj0 hlt,w64 (x:=2+(l[i].data.length:Int)) (by omega) (by omega),w64 (x:=acc+(2+(l[i].data.length:Int))) (by omega) (by omega),w64 (x:=(i:Int)+1) (by omega) (by omega)]
  have:=ih m (i+1) (acc+(2+(l[i].data.length:Int))) (by omega) (by omega) (by omega) (by omega)
  rw [show ((i+1:Nat):Int)=(i:Int)+1 by omega] at this
  rw [this,List.drop_eq_getElem_cons hlt,ak4,Int.add_assoc]
theorem dS4 {l:List Sub} (hl:az5 l):bx7 (l,())=some ((ak4 l,()),()):=by
 show cf6 fuel _=_
 have:=hl.1
 rw [du9]
 have:=ek3 (n:=fuel) hl l.length fuel 0 0 (by omega) (ag7 (by omega)) (by omega) (by omega)
 simpa using this
def aX5 (lo hi:Int) (y:Sub):Bool:=decide (lo≤y.type_∧y.type_≤hi∧y.data.length≤255)
theorem et0 {l:List Sub} {n:Nat} (h1:l.length≤1000000000) (lo hi:Int):∀ (d m i:Nat),i+d=l.length→d < m→
  bj6 n m lo hi l i=some (((l.drop i).all (aX5 lo hi),()),()):=by
 intro d
 induction d with
 | zero=>
  intro m i hd hm
  obtain ⟨m,rfl⟩:∃ k,m=k+1:=⟨m - 1,by omega⟩
  rw [cb5,ifn (by omega),List.drop_eq_nil_of_le (by omega)]
  rfl
 | succ d ih=>
  intro m i hd hm
  obtain ⟨m,rfl⟩:∃ k,m=k+1:=⟨m - 1,by omega⟩
  have hlt:i < l.length:=by omega
  have:=ih m (i+1) (by omega) (by omega)
  rw [show ((i+1:Nat):Int)=(i:Int)+1 by omega] at this
  rw [cb5,ifd (by omega),if_pos (by omega),Int.toNat_natCast,aj0 hlt,w64 (x:=(i:Int)+1) (by omega) (by omega),this,List.drop_eq_getElem_cons hlt,List.all_cons]
  by_cases a:l[i].type_ < lo
  ·rw [ifd a,show aX5 lo hi l[i]=false by simp [aX5]; omega]; rfl
  ·rw [ifn a]
   by_cases b:hi < l[i].type_
   ·rw [ifd b,show aX5 lo hi l[i]=false by simp [aX5]; omega]; rfl
   ·rw [ifn b]
    by_cases c:(255:Int) < l[i].data.length
    ·rw [ifd c,show aX5 lo hi l[i]=false by simp [aX5]; omega]; rfl
    ·rw [ifn c,show aX5 lo hi l[i]=true by simp [aX5]; omega,Bool.true_and]
theorem ed8 {l:List Sub} (h1:l.length≤1000000000) (lo hi:Int):bK7 (l,lo,hi,())=some ((l.all (aX5 lo hi),()),()):=by
 show cs7 fuel _=_
 rw [dI0]
 exact et0 (n:=fuel) h1 lo hi l.length fuel 0 (by omega) (ag7 (by omega))
def al9 (l:List Sub):Bool:=l.all (aX5 2 127) && decide (ak4 l≤200)
theorem cc0 {l:List Sub} (hl:az5 l):aC9 (l,())=some ((al9 l,()),()):=by
 rw [dv1,ed8 hl.1,Option.bind_some,dS4 hl]
 unfold al9
 dsimp only
 cases l.all (aX5 2 127) <;> rfl
def ab3:List Sub→Bs
 | []=>[]
 | y::l=>aa1 y.type_::aa1 y.data.length::(y.data++ab3 l)
def bv7 (l:List Sub):Prop:=∀ y∈l,2≤y.type_∧y.type_≤127∧y.data.length≤255
theorem de1 {l:List Sub}:l.all (aX5 2 127)=true↔bv7 l:=by simp [aX5,bv7]
theorem eT6 {y:Sub} (h:2≤y.type_∧y.type_≤127∧y.data.length≤255):as6 y.type_ y.data=(aa1 y.type_::aa1 y.data.length::y.data,true):=by
 unfold as6; rw [if_pos (by omega)]
theorem aN3:∀ (l:List Sub),((ab3 l).length:Int)=ak4 l
 | []=>rfl
 | y::l=>by have:=aN3 l; simp [ab3,ak4]; omega
theorem et1 {l:List Sub} {n:Nat} (hr:bv7 l) (h1:l.length≤1000000):∀ (d m i:Nat) (acc:Bs),i+d=l.length→d < m→acc.length≤257 * i→
  by2 n m l acc i=some ((acc++ab3 (l.drop i),true,()),()):=by
 intro d
 induction d with
 | zero=>
  intro m i acc hd hm ha
  obtain ⟨m,rfl⟩:∃ k,m=k+1:=⟨m - 1,by omega⟩
  rw [co9,ifn (by omega),List.drop_eq_nil_of_le (by omega),ab3,List.append_nil]
 | succ d ih=>
  intro m i acc hd hm ha
  obtain ⟨m,rfl⟩:∃ k,m=k+1:=⟨m - 1,by omega⟩
  have hlt:i < l.length:=by omega
  have hy:=hr l[i] (List.getElem_mem hlt)
  have:=ih m (i+1) (acc++(aa1 l[i].type_::aa1 l[i].data.length::l[i].data)) (by omega) (by omega) (by simp; omega)
  rw [show ((i+1:Nat):Int)=(i:Int)+1 by omega] at this
  rw [co9,ifd (by omega),if_pos (by omega),Int.toNat_natCast,aj0 hlt,aW1,eT6 hy,Option.bind_some]
  dsimp only
  rw [if_pos (ah7 (by simp; omega)),w64 (by omega) (by omega),this,List.drop_eq_getElem_cons hlt,ab3]
  simp
def dS5 (l:List Sub):Bs × Bool:=if al9 l=true then (ab3 l,true) else ([],false)
theorem aH1 {l:List Sub} (h:al9 l=true):bv7 l∧ak4 l≤200:=by
 simp only [al9,Bool.and_eq_true,de1,decide_eq_true_eq] at h; exact h
theorem dw0 {l:List Sub} (hl:az5 l) (h1:l.length≤1000000):aq2 (l,())=some (((dS5 l).1,(dS5 l).2,()),()):=by
 show cI7 fuel _=_
 rw [dR5,cc0 hl,Option.bind_some]
 unfold dS5
 dsimp only
 by_cases h:al9 l=true
 ·have:=et1 (n:=fuel) (aH1 h).1 h1 l.length fuel 0 [] (by omega) (ag7 (by omega)) (by simp)
  rw [show ((0:Nat):Int)=0 from rfl] at this
  rw [h,aj6,this,ift]
  simp
 ·rw [Bool.not_eq_true] at h
  rw [h,aS8,bd2]
def keep:List Tlv→List Sub
 | []=>[]
 | t::l=>if 2≤t.type_∧t.type_≤127 then ⟨t.type_,t.data⟩::keep l else keep l
def free (l:List Tlv):Bool:=l.all fun t=>decide (t.type_≤127)
theorem et2 (t:Tlv) (l:List Tlv):free (t::l)=(decide (t.type_≤127) && free l):=rfl
theorem db3:∀ (l:List Tlv),(keep l).length≤l.length
 | []=>Nat.le_refl _
 | t::l=>by have:=db3 l; simp only [keep]; split <;> simp <;> omega
def ek4 (acc:List Sub) (b:Bool):List Sub × Bool × Int:=if 200 < ak4 acc then ([],false,10) else (acc,b,0)
def dS6 (l:List Tlv):Prop:=∀ t∈l,t.data.length≤255
theorem az5.app {a b:List Sub} (h:∀ y∈a,y.data.length≤300) (h2:∀ y∈b,y.data.length≤300) (h3:a.length+b.length≤1000000000):az5 (a++b):=
 ⟨by simpa using h3,fun y hy=>(List.mem_append.1 hy).elim (h y) (h2 y)⟩
def az6 (s:Bs):List Sub × Bool × Int:=
 match spl 0 s with
 | .ok l=>ek4 (keep l) (free l)
 | .error _=>([],false,2)
theorem dS7 (s:Bs):∀ (p:Int) (l:List Tlv),spl p s=.ok l→dS6 l∧l.length≤s.length:=by
 match s with
 | []=>intro p l h; rw [aW2] at h; injection h with h; subst h; exact ⟨fun t h=>by simp at h,Nat.le_refl _⟩
 | t::r=>
  intro p l h
  have go:∀ (q:Int) (x:Tlv) (r':Bs),r'.length < (t::r).length→x.data.length≤255→(spl q r').map (x::·)=.ok l→dS6 l∧l.length≤(t::r).length:=by
   intro q x r' hr hx h
   cases hm:spl q r' with
   | error e=>rw [hm] at h; cases h
   | ok l'=>
    rw [hm] at h
    injection h with h
    subst h
    obtain ⟨a,b⟩:=dS7 r' q l' hm
    exact ⟨fun y hy=>(List.mem_cons.1 hy).elim (fun h=>by subst h; exact hx) (a y),by simp only [List.length_cons] at *; omega⟩
  by_cases ht:t=0
  ·subst ht
   rw [bV6] at h
   exact go _ _ _ (by simp) (by simp) h
  ·match r with
   | []=>rw [cS8 ht] at h; cases h
   | n::d=>
    by_cases hn:d.length < n.toNat
    ·rw [cS9 ht hn] at h; cases h
    ·rw [bv6 ht (by omega)] at h
     have:=n.toNat_lt
     exact go _ _ _ (by simp; omega) (by simp; omega) h
termination_by s.length
end Go.VP
namespace Go.VP
open Go Go.VI
abbrev Msg:=aa0
abbrev ci2:=ac1
theorem ah3 {α R:Type} [BEq α] [LawfulBEq α] {x y:α} {f t r:R} (hne:x≠y→f=r) (heq:x=y→t=r):(if (x != y)=true then f else t)=r:=by
 by_cases h:x=y
 ·rw [if_neg (by simp [h])]; exact heq h
 ·rw [if_pos (by simp [h])]; exact hne h
theorem ed9 {α R:Type} [BEq α] [LawfulBEq α] {x y:α} {f t r:R} (hne:x≠y→f=r) (heq:x=y→t=r):(if (!(x==y))=true then f else t)=r:=ah3 hne heq
open Classical in
noncomputable def eqB {α:Type} (a b:α):Bool:=decide (a=b)
theorem eqB_true {α:Type} {a b:α}:eqB a b=true↔a=b:=by simp [eqB]
theorem aT0 {α:Type} (a:α):eqB a a=true:=eqB_true.2 rfl
structure Few (m:Msg):Prop where
 list:m.list.length≤300
 subs:m.subs.length≤60
 ap:m.auth.length+m.prefix_.length≤200
 ni:m.next.length+m.id.length≤200
 ao:m.addr.length+m.orig.length≤200
 data:m.data.length≤300
 ds:∀ d∈m.list,d.addr.length≤50
 ss:∀ s∈m.subs,s.data.length≤300
structure de2 (m:Msg):Prop where
 list:m.list.length≤1000
 subs:m.subs.length≤1000
 auth:m.auth.length≤400
 pre:m.prefix_.length≤400
 next:m.next.length≤400
 id:m.id.length≤400
 addr:m.addr.length≤400
 orig:m.orig.length≤400
 data:m.data.length≤400
 ds:∀ d∈m.list,d.addr.length≤50
 ss:∀ s∈m.subs,s.data.length≤300
theorem Few.lite {m:Msg} (h:Few m):de2 m:=by
 have:=h.list; have:=h.subs; have:=h.ap; have:=h.ni; have:=h.ao; have:=h.data
 exact ⟨by omega,by omega,by omega,by omega,by omega,by omega,by omega,by omega,by omega,h.ds,h.ss⟩
theorem de2.fewS {m:Msg} (h:de2 m):az5 m.subs:=⟨by have:=h.subs; omega,h.ss⟩
def cT0 (m:Msg):Prop:=m.auth.length≤140737488351232∧m.prefix_.length≤140737488351232∧m.next.length≤140737488351232∧m.id.length≤140737488351232∧m.addr.length≤140737488351232∧m.orig.length≤140737488351232
theorem et3 {m0:Msg} {n:Nat} (h1:m0.subs.length≤60):∀ (d m i:Nat),i+d=m0.subs.length→d < m→ba3 n m m0 i=some (((m0.subs.drop i).all fun s=>decide (s.data.length≤300),()),()):=by
 intro d
 induction d with
 | zero=>
  intro m i hd hm
  obtain ⟨m,rfl⟩:∃ k,m=k+1:=⟨m - 1,by omega⟩
  rw [bV1,ifn (by omega),List.drop_eq_nil_of_le (by omega)]; rfl
 | succ d ih=>
  intro m i hd hm
  obtain ⟨m,rfl⟩:∃ k,m=k+1:=⟨m - 1,by omega⟩
  have ha:i < m0.subs.length:=by omega
  have:=ih m (i+1) (by omega) (by omega)
  rw [show ((i+1:Nat):Int)=(i:Int)+1 by omega] at this
  rw [bV1,ifd (by omega),if_pos (by omega),Int.toNat_natCast,aj0 ha,w64 (by omega) (by omega),this,List.drop_eq_getElem_cons ha,List.all_cons]
  by_cases h:300 < (m0.subs[i].data.length:Int)
  ·rw [ifd h,decide_eq_false (by omega)]; rfl
  ·rw [ifn h,decide_eq_true (by omega),Bool.true_and]
theorem et4 {m0:Msg} {n:Nat} (h0:m0.list.length≤300) (h1:m0.subs.length≤60) (hn:1000≤n):∀ (d m i:Nat),i+d=m0.list.length→d < m→ba2 n m m0 i=some (((m0.list.drop i).all (fun s=>decide (s.addr.length≤50)) && m0.subs.all fun s=>decide (s.data.length≤300),()),()):=by
 intro d
 induction d with
 | zero=>
  intro m i hd hm
  obtain ⟨m,rfl⟩:∃ k,m=k+1:=⟨m - 1,by omega⟩
  have:=et3 (n:=n) h1 m0.subs.length n 0 (by omega) (by omega)
  rw [show ((0:Nat):Int)=0 from rfl,List.drop_zero] at this
  rw [bV0,ifn (by omega),List.drop_eq_nil_of_le (by omega),this]; rfl
 | succ d ih=>
  intro m i hd hm
  obtain ⟨m,rfl⟩:∃ k,m=k+1:=⟨m - 1,by omega⟩
  have ha:i < m0.list.length:=by omega
  have:=ih m (i+1) (by omega) (by omega)
  rw [show ((i+1:Nat):Int)=(i:Int)+1 by omega] at this
  rw [bV0,ifd (by omega),if_pos (by omega),Int.toNat_natCast,aj0 ha,w64 (by omega) (by omega),this,List.drop_eq_getElem_cons ha,List.all_cons]
  by_cases h:50 < (m0.list[i].addr.length:Int)
  ·rw [ifd h,decide_eq_false (by omega)]; rfl
  ·rw [ifn h,decide_eq_true (by omega),Bool.true_and]
theorem eT7 {m:Msg} (g:cT0 m):∃ b,ce7 (m,())=some ((b,()),())∧(b=true→Few m):=by
 obtain ⟨g1,g2,g3,g4,g5,g6⟩:=g
 show ∃ b,ce6 fuel _=_∧_
 rw [dt9,w64 (by omega) (by omega),w64 (by omega) (by omega),w64 (by omega) (by omega)]
 by_cases c1:(300:Int) < m.list.length
 ·rw [ifd c1]; exact ⟨_,rfl,by simp⟩
 by_cases c2:(60:Int) < m.subs.length
 ·rw [ifn c1,ifd c2]; exact ⟨_,rfl,by simp⟩
 by_cases c3:(200:Int) < m.auth.length+m.prefix_.length
 ·rw [ifn c1,ifn c2,ifd c3]; exact ⟨_,rfl,by simp⟩
 by_cases c4:(200:Int) < m.next.length+m.id.length
 ·rw [ifn c1,ifn c2,ifn c3,ifd c4]; exact ⟨_,rfl,by simp⟩
 by_cases c5:(200:Int) < m.addr.length+m.orig.length
 ·rw [ifn c1,ifn c2,ifn c3,ifn c4,ifd c5]; exact ⟨_,rfl,by simp⟩
 by_cases c6:(300:Int) < m.data.length
 ·rw [ifn c1,ifn c2,ifn c3,ifn c4,ifn c5,ifd c6]; exact ⟨_,rfl,by simp⟩
 have:=et4 (m0:=m) (n:=fuel) (by omega) (by omega) (Nat.le_of_lt (ag7 (by omega))) m.list.length fuel 0 (by omega) (ag7 (by omega))
 rw [show ((0:Nat):Int)=0 from rfl,List.drop_zero] at this
 rw [ifn c1,ifn c2,ifn c3,ifn c4,ifn c5,ifn c6,this]
 refine ⟨_,rfl,fun h=>?_⟩
 simp only [Bool.and_eq_true,List.all_eq_true,decide_eq_true_eq] at h
 exact ⟨by omega,by omega,by omega,by omega,by omega,by omega,h.1,h.2⟩
def bareOf (m:Msg):Option Msg:=
 if m.kind=1 then some ⟨m.kind,m.cmd,m.ver,m.auth,m.family,0,m.prefix_,m.plen,m.tag,m.next,m.metric,[],0,0,0,0,0,0,0,[],[],[],0,[],[]⟩
 else if m.kind=2 then some ⟨m.kind,m.cmd,0,[],0,0,m.prefix_,m.plen,m.tag,m.next,m.metric,[],0,0,0,0,0,0,0,[],[],[],0,[],[]⟩
 else if m.kind=3 then some ⟨m.kind,0,0,[],0,0,[],0,0,[],0,[],m.seq,m.seq2,0,m.flags,m.hops,m.nonce,0,m.addr,m.orig,[],0,[],m.subs⟩
 else if m.kind=4 then some ⟨m.kind,0,0,[],0,0,[],m.plen,0,[],0,[],m.seq,0,m.interval,m.flags,m.hops,0,0,m.addr,m.orig,[],0,[],m.subs⟩
 else if m.kind=5 then some ⟨m.kind,0,0,[],0,0,[],0,0,[],0,[],0,0,0,m.flags,0,0,0,[],[],m.list,0,[],m.subs⟩
 else if m.kind=6 then some ⟨m.kind,0,0,[],0,0,[],0,0,[],0,[],0,0,0,0,0,0,0,[],[],[],0,[],m.subs⟩
 else if m.kind=7 then some ⟨m.kind,0,0,[],0,0,[],0,0,[],0,[],0,0,m.interval,0,0,m.nonce,0,[],[],[],0,[],m.subs⟩
 else if m.kind=8 then some ⟨m.kind,0,0,[],0,0,[],0,0,[],0,[],0,0,0,0,0,m.nonce,0,[],[],[],0,[],m.subs⟩
 else if m.kind=9 then some ⟨m.kind,0,0,[],0,0,[],0,0,[],0,[],m.seq,0,m.interval,m.flags,0,0,0,[],[],[],0,[],m.subs⟩
 else if m.kind=10 then some ⟨m.kind,0,0,[],0,m.ae,[],0,0,[],0,[],0,0,m.interval,0,0,0,m.cost,m.addr,[],[],0,[],m.subs⟩
 else if m.kind=11 then some ⟨m.kind,0,0,[],0,m.ae,m.prefix_,m.plen,0,m.next,m.metric,m.id,m.seq,0,m.interval,0,0,0,0,[],[],[],0,[],m.subs⟩
 else if m.kind=12 then some ⟨m.kind,0,0,[],0,m.ae,m.prefix_,m.plen,0,[],0,[],0,0,0,0,0,0,0,[],[],[],0,[],m.subs⟩
 else if m.kind=13 then some ⟨m.kind,0,0,[],0,m.ae,m.prefix_,m.plen,0,[],0,m.id,m.seq,0,0,0,m.hops,0,0,[],[],[],0,[],m.subs⟩
 else if m.kind=14 then some ⟨m.kind,0,0,[],0,0,[],0,0,[],0,[],0,0,0,0,0,0,0,[],[],[],m.type_,m.data,[]⟩
 else none
noncomputable def bareB (m:Msg):Bool:=match bareOf m with | some x=>eqB x m | none=>false
theorem ac8 {R:Type} {x y:Int} {f t r:R} (heq:x=y→t=r) (hne:x≠y→f=r):(if (x==y)=true then t else f)=r:=by
 by_cases h:x=y
 ·rw [if_pos (by simp [h])]; exact heq h
 ·rw [if_neg (by simp [h])]; exact hne h
theorem eW8 {A B C S:Bool} (h:S=(A && B && C)):(if A=true then (if B=true then (some ((C,()),()):Option ((Bool × Unit) × Unit)) else some ((false,()),())) else some ((false,()),()))=some ((S,()),()):=by
 subst h; cases A <;> cases B <;> rfl
theorem eW9 {A B S:Bool} (h:S=(A && B)):(if A=true then (if B=true then (some ((true,()),()):Option ((Bool × Unit) × Unit)) else some ((false,()),())) else some ((false,()),()))=some ((S,()),()):=by
 subst h; cases A <;> cases B <;> rfl
theorem eX0 {A S:Bool} (h:S=A):(if A=true then (some ((true,()),()):Option ((Bool × Unit) × Unit)) else some ((false,()),()))=some ((S,()),()):=by
 subst h; cases S <;> rfl
theorem dB9 {α:Type} {a b:α}:eqB a b=true↔b=a:=by rw [eqB_true]; exact eq_comm
theorem eM6 {α:Type} (l:List α):((l.length:Int)=0)↔l=[]:=by cases l <;> simp; omega
theorem bare_is {m:Msg}:al7 (m,())=some ((bareB m,()),()):=by
 obtain ⟨kind,cmd,ver,auth,family,ae,pre,plen,tag,next,metric,id,seq,seq2,interval,flags,hops,nonce,cost,addr,orig,list,typ,data,subs⟩:=m
 rw [dH6,du0,Option.bind_some]
 dsimp only
 repeat' first | (exfalso; omega) | refine ac8 (fun h=>?_) (fun h=>?_)
 all_goals first | refine eW8 ?_ | refine eW9 ?_ | refine eX0 ?_ | skip
 all_goals (try (subst kind))
 all_goals rw [bareB,bareOf]
 all_goals (try simp only [*,if_true,if_false])
 all_goals first | rfl | skip
 all_goals rw [Bool.eq_iff_iff]
 all_goals simp only [dB9,aa0.mk.injEq,Bool.and_eq_true,beq_iff_eq,eM6]
 all_goals (simp only [true_and,and_true,and_self]; first | done | (constructor <;> (intro h; simp only [h,and_self])))
end Go.VP
namespace Go.VP
open Go Go.VI
theorem destT_len {x:Bs × Nat} (h:x.1.length≤100000):(an1 x).length≤200100:=by
 have:=hexs_len x.1
 have:=decT_len x.2
 unfold an1
 rw [List.length_append,List.length_cons]; omega
theorem joinC_le (c:UInt8) (k:Nat):∀ (l:List Bs),(∀ p∈l,p.length≤k)→(ai7 c l).length≤(k+1) * l.length
 | [],_=>by simp [ai7]
 | [p],h=>by rw [ai7]; have:=h p (by simp); simp; omega
 | p::q::r,h=>by
  have h1:=h p (by simp)
  have h2:=joinC_le c k (q::r) (fun x hx=>h x (by simp at hx ⊢; exact .inr hx))
  rw [ai7,List.length_append,List.length_cons,List.length_cons (a:=p),Nat.mul_add]
  omega
end Go.VP
namespace Go.VP
open Go Go.VI
theorem subT_len {x:Nat × Bs} (h:x.2.length≤100000):(au0 x).length≤200100:=by
 have:=hexs_len x.2
 have:=decT_len x.1
 unfold au0
 rw [List.length_append,List.length_cons]; omega
end Go.VP
namespace Go.VP
open Go Go.VI
theorem et5 {k:Int} (h:1≤k∧k≤14):ap1 (an3 k)=k:=by
 have A:∀ n:Nat,n < 15→1≤n→ap1 (aY0.getD n [])=n:=by decide +kernel
 have:=A k.toNat (by omega) (by omega)
 unfold an3
 rw [if_pos h,this]
 omega
theorem kind_rng (w:Bs):0≤ap1 w∧ap1 w≤14:=by unfold ap1; split <;> omega
theorem et6 {w:Bs} (h:ap1 w≠0):an3 (ap1 w)=w:=by
 have hr:=kind_rng w
 unfold an3
 rw [if_pos (by omega)]
 unfold ap1 at h ⊢
 split at h
 ·rename_i hlt
  rw [if_pos hlt,Int.toNat_natCast]
  have hl:aY0.idxOf w < aY0.length:=hlt
  rw [List.getD,List.getElem?_eq_getElem hl,Option.getD_some,List.getElem_idxOf hl]
 ·exact absurd rfl h
theorem ee0 (k:Int):(32:UInt8) ∉ an3 k:=by
 have A:∀ n:Nat,n < 15→(32:UInt8) ∉ aY0.getD n []:=by decide +kernel
 unfold an3
 split
 ·exact A k.toNat (by omega)
 ·simp
theorem bare_kind {m:aa2} (h:aj9 m=some m):1≤m.kind∧m.kind≤14:=by
 unfold aj9 at h
 by_cases hk:1≤m.kind∧m.kind≤14
 ·exact hk
 ·iterate 14 rw [if_neg (by omega)] at h
  cases h
theorem ek5 {m:aa2} {t:Bs} (h:ai4 m=some t):aB6 t=some m:=by
 unfold ai4 at h
 split at h
 ·rename_i hh
  cases h
  obtain ⟨hb,hn⟩:=hh
  obtain ⟨i1,i2⟩:=dL2 m fsM (ak6 m.kind) m dB7 (eT3 m) (eT2 hn)
  have hk:=et5 (bare_kind hb)
  unfold aB6
  rcases bn8 m fsM with h' | ⟨g,_,x,h',_⟩
  ·rw [h',List.append_nil,cb8 _ _ (ee0 _)]
   dsimp only
   rw [hk,i1 h']
   exact if_pos ⟨rfl,hb⟩
  ·rw [h',bv5 _ _ _ (ee0 _)]
   dsimp only
   rw [hk,i2 _ h']
   exact if_pos ⟨rfl,hb⟩
 ·cases h
theorem cO2 {Q:aa2→Prop}:∀ (l:List (TFd aa2)) (m0 m1:aa2) (rest rest1:Bs) (more more1:Bool),(∀ f∈l,∀ s m m',Q m→f.put s m=some m'→Q m')→Q m0→al0 l m0 rest more=some (m1,rest1,more1)→Q m1
 | [],m0,m1,rest,rest1,more,more1,_,q,h=>by rw [al0] at h; cases h; exact q
 | f::r,m0,m1,rest,rest1,more,more1,hl,q,h=>by
  have hr:∀ f∈r,∀ s m m',Q m→f.put s m=some m'→Q m':=fun x hx=>hl x (by simp [hx])
  rw [al0] at h
  split at h
  ·cases h; exact q
  ·split at h
   ·split at h
    ·cases h
    ·rename_i m' hp
     exact cO2 r _ _ _ _ _ _ hr (hl f (by simp) _ _ _ q hp) h
   ·exact cO2 r _ _ _ _ _ _ hr q h
theorem eM7 (k:Int) (s:Bs) (m m':aa2) (h:m.kind=k∧ad7 m) (hp:aL2.put s m=some m'):m'.kind=k∧ad7 m':=by
 obtain ⟨_,_,h3⟩:=af5 (fun _ _=>rfl) hp
 obtain ⟨v,hv,rfl⟩:=h3
 exact ⟨h.1,⟨hv,h.2.ver,h.2.family,h.2.ae,h.2.plen,h.2.tag,h.2.metric,h.2.seq,h.2.seq2,h.2.interval,h.2.flags,h.2.hops,h.2.nonce,h.2.cost,h.2.type_,h.2.list,h.2.subs⟩⟩
theorem eM8 (k:Int) (s:Bs) (m m':aa2) (h:m.kind=k∧ad7 m) (hp:aL3.put s m=some m'):m'.kind=k∧ad7 m':=by
 obtain ⟨_,_,h3⟩:=af5 (fun _ _=>rfl) hp
 obtain ⟨v,hv,rfl⟩:=h3
 exact ⟨h.1,⟨h.2.cmd,hv,h.2.family,h.2.ae,h.2.plen,h.2.tag,h.2.metric,h.2.seq,h.2.seq2,h.2.interval,h.2.flags,h.2.hops,h.2.nonce,h.2.cost,h.2.type_,h.2.list,h.2.subs⟩⟩
theorem eC9 (k:Int) (s:Bs) (m m':aa2) (h:m.kind=k∧ad7 m) (hp:az8.put s m=some m'):m'.kind=k∧ad7 m':=by
 obtain ⟨_,_,h3⟩:=ap3 (fun _ _=>rfl) hp
 obtain ⟨v,rfl⟩:=h3
 exact ⟨h.1,⟨h.2.cmd,h.2.ver,h.2.family,h.2.ae,h.2.plen,h.2.tag,h.2.metric,h.2.seq,h.2.seq2,h.2.interval,h.2.flags,h.2.hops,h.2.nonce,h.2.cost,h.2.type_,h.2.list,h.2.subs⟩⟩
theorem ek6 (k:Int) (s:Bs) (m m':aa2) (h:m.kind=k∧ad7 m) (hp:aq0.put s m=some m'):m'.kind=k∧ad7 m':=by
 obtain ⟨_,_,h3⟩:=af5 (fun _ _=>rfl) hp
 obtain ⟨v,hv,rfl⟩:=h3
 exact ⟨h.1,⟨h.2.cmd,h.2.ver,hv,h.2.ae,h.2.plen,h.2.tag,h.2.metric,h.2.seq,h.2.seq2,h.2.interval,h.2.flags,h.2.hops,h.2.nonce,h.2.cost,h.2.type_,h.2.list,h.2.subs⟩⟩
theorem eT8 (k:Int) (s:Bs) (m m':aa2) (h:m.kind=k∧ad7 m) (hp:ba0.put s m=some m'):m'.kind=k∧ad7 m':=by
 obtain ⟨_,_,h3⟩:=af5 (fun _ _=>rfl) hp
 obtain ⟨v,hv,rfl⟩:=h3
 exact ⟨h.1,⟨h.2.cmd,h.2.ver,h.2.family,hv,h.2.plen,h.2.tag,h.2.metric,h.2.seq,h.2.seq2,h.2.interval,h.2.flags,h.2.hops,h.2.nonce,h.2.cost,h.2.type_,h.2.list,h.2.subs⟩⟩
theorem ea6 (k:Int) (s:Bs) (m m':aa2) (h:m.kind=k∧ad7 m) (hp:an2.put s m=some m'):m'.kind=k∧ad7 m':=by
 obtain ⟨_,_,h3⟩:=ap3 (fun _ _=>rfl) hp
 obtain ⟨v,rfl⟩:=h3
 exact ⟨h.1,⟨h.2.cmd,h.2.ver,h.2.family,h.2.ae,h.2.plen,h.2.tag,h.2.metric,h.2.seq,h.2.seq2,h.2.interval,h.2.flags,h.2.hops,h.2.nonce,h.2.cost,h.2.type_,h.2.list,h.2.subs⟩⟩
theorem eD0 (k:Int) (s:Bs) (m m':aa2) (h:m.kind=k∧ad7 m) (hp:az9.put s m=some m'):m'.kind=k∧ad7 m':=by
 obtain ⟨_,_,h3⟩:=af5 (fun _ _=>rfl) hp
 obtain ⟨v,hv,rfl⟩:=h3
 exact ⟨h.1,⟨h.2.cmd,h.2.ver,h.2.family,h.2.ae,hv,h.2.tag,h.2.metric,h.2.seq,h.2.seq2,h.2.interval,h.2.flags,h.2.hops,h.2.nonce,h.2.cost,h.2.type_,h.2.list,h.2.subs⟩⟩
theorem eM9 (k:Int) (s:Bs) (m m':aa2) (h:m.kind=k∧ad7 m) (hp:aL4.put s m=some m'):m'.kind=k∧ad7 m':=by
 obtain ⟨_,_,h3⟩:=af5 (fun _ _=>rfl) hp
 obtain ⟨v,hv,rfl⟩:=h3
 exact ⟨h.1,⟨h.2.cmd,h.2.ver,h.2.family,h.2.ae,h.2.plen,hv,h.2.metric,h.2.seq,h.2.seq2,h.2.interval,h.2.flags,h.2.hops,h.2.nonce,h.2.cost,h.2.type_,h.2.list,h.2.subs⟩⟩
theorem eD1 (k:Int) (s:Bs) (m m':aa2) (h:m.kind=k∧ad7 m) (hp:aA0.put s m=some m'):m'.kind=k∧ad7 m':=by
 obtain ⟨_,_,h3⟩:=ap3 (fun _ _=>rfl) hp
 obtain ⟨v,rfl⟩:=h3
 exact ⟨h.1,⟨h.2.cmd,h.2.ver,h.2.family,h.2.ae,h.2.plen,h.2.tag,h.2.metric,h.2.seq,h.2.seq2,h.2.interval,h.2.flags,h.2.hops,h.2.nonce,h.2.cost,h.2.type_,h.2.list,h.2.subs⟩⟩
theorem ek7 (k:Int) (s:Bs) (m m':aa2) (h:m.kind=k∧ad7 m) (hp:aq1.put s m=some m'):m'.kind=k∧ad7 m':=by
 obtain ⟨_,_,h3⟩:=af5 (fun _ _=>rfl) hp
 obtain ⟨v,hv,rfl⟩:=h3
 exact ⟨h.1,⟨h.2.cmd,h.2.ver,h.2.family,h.2.ae,h.2.plen,h.2.tag,hv,h.2.seq,h.2.seq2,h.2.interval,h.2.flags,h.2.hops,h.2.nonce,h.2.cost,h.2.type_,h.2.list,h.2.subs⟩⟩
theorem eT9 (k:Int) (s:Bs) (m m':aa2) (h:m.kind=k∧ad7 m) (hp:ba1.put s m=some m'):m'.kind=k∧ad7 m':=by
 obtain ⟨_,_,h3⟩:=ap3 (fun _ _=>rfl) hp
 obtain ⟨v,rfl⟩:=h3
 exact ⟨h.1,⟨h.2.cmd,h.2.ver,h.2.family,h.2.ae,h.2.plen,h.2.tag,h.2.metric,h.2.seq,h.2.seq2,h.2.interval,h.2.flags,h.2.hops,h.2.nonce,h.2.cost,h.2.type_,h.2.list,h.2.subs⟩⟩
theorem eN0 (k:Int) (s:Bs) (m m':aa2) (h:m.kind=k∧ad7 m) (hp:aL5.put s m=some m'):m'.kind=k∧ad7 m':=by
 obtain ⟨_,_,h3⟩:=af5 (fun _ _=>rfl) hp
 obtain ⟨v,hv,rfl⟩:=h3
 exact ⟨h.1,⟨h.2.cmd,h.2.ver,h.2.family,h.2.ae,h.2.plen,h.2.tag,h.2.metric,hv,h.2.seq2,h.2.interval,h.2.flags,h.2.hops,h.2.nonce,h.2.cost,h.2.type_,h.2.list,h.2.subs⟩⟩
theorem eD2 (k:Int) (s:Bs) (m m':aa2) (h:m.kind=k∧ad7 m) (hp:aA1.put s m=some m'):m'.kind=k∧ad7 m':=by
 obtain ⟨_,_,h3⟩:=af5 (fun _ _=>rfl) hp
 obtain ⟨v,hv,rfl⟩:=h3
 exact ⟨h.1,⟨h.2.cmd,h.2.ver,h.2.family,h.2.ae,h.2.plen,h.2.tag,h.2.metric,h.2.seq,hv,h.2.interval,h.2.flags,h.2.hops,h.2.nonce,h.2.cost,h.2.type_,h.2.list,h.2.subs⟩⟩
theorem dS8 (k:Int) (s:Bs) (m m':aa2) (h:m.kind=k∧ad7 m) (hp:al4.put s m=some m'):m'.kind=k∧ad7 m':=by
 obtain ⟨_,_,h3⟩:=af5 (fun _ _=>rfl) hp
 obtain ⟨v,hv,rfl⟩:=h3
 exact ⟨h.1,⟨h.2.cmd,h.2.ver,h.2.family,h.2.ae,h.2.plen,h.2.tag,h.2.metric,h.2.seq,h.2.seq2,hv,h.2.flags,h.2.hops,h.2.nonce,h.2.cost,h.2.type_,h.2.list,h.2.subs⟩⟩
theorem et7 (k:Int) (s:Bs) (m m':aa2) (h:m.kind=k∧ad7 m) (hp:au1.put s m=some m'):m'.kind=k∧ad7 m':=by
 obtain ⟨_,_,h3⟩:=af5 (fun _ _=>rfl) hp
 obtain ⟨v,hv,rfl⟩:=h3
 exact ⟨h.1,⟨h.2.cmd,h.2.ver,h.2.family,h.2.ae,h.2.plen,h.2.tag,h.2.metric,h.2.seq,h.2.seq2,h.2.interval,hv,h.2.hops,h.2.nonce,h.2.cost,h.2.type_,h.2.list,h.2.subs⟩⟩
theorem eD3 (k:Int) (s:Bs) (m m':aa2) (h:m.kind=k∧ad7 m) (hp:aA2.put s m=some m'):m'.kind=k∧ad7 m':=by
 obtain ⟨_,_,h3⟩:=af5 (fun _ _=>rfl) hp
 obtain ⟨v,hv,rfl⟩:=h3
 exact ⟨h.1,⟨h.2.cmd,h.2.ver,h.2.family,h.2.ae,h.2.plen,h.2.tag,h.2.metric,h.2.seq,h.2.seq2,h.2.interval,h.2.flags,hv,h.2.nonce,h.2.cost,h.2.type_,h.2.list,h.2.subs⟩⟩
theorem et8 (k:Int) (s:Bs) (m m':aa2) (h:m.kind=k∧ad7 m) (hp:au2.put s m=some m'):m'.kind=k∧ad7 m':=by
 obtain ⟨_,_,h3⟩:=af5 (fun _ _=>rfl) hp
 obtain ⟨v,hv,rfl⟩:=h3
 exact ⟨h.1,⟨h.2.cmd,h.2.ver,h.2.family,h.2.ae,h.2.plen,h.2.tag,h.2.metric,h.2.seq,h.2.seq2,h.2.interval,h.2.flags,h.2.hops,hv,h.2.cost,h.2.type_,h.2.list,h.2.subs⟩⟩
theorem eD4 (k:Int) (s:Bs) (m m':aa2) (h:m.kind=k∧ad7 m) (hp:aA3.put s m=some m'):m'.kind=k∧ad7 m':=by
 obtain ⟨_,_,h3⟩:=af5 (fun _ _=>rfl) hp
 obtain ⟨v,hv,rfl⟩:=h3
 exact ⟨h.1,⟨h.2.cmd,h.2.ver,h.2.family,h.2.ae,h.2.plen,h.2.tag,h.2.metric,h.2.seq,h.2.seq2,h.2.interval,h.2.flags,h.2.hops,h.2.nonce,hv,h.2.type_,h.2.list,h.2.subs⟩⟩
theorem eD5 (k:Int) (s:Bs) (m m':aa2) (h:m.kind=k∧ad7 m) (hp:aA4.put s m=some m'):m'.kind=k∧ad7 m':=by
 obtain ⟨_,_,h3⟩:=ap3 (fun _ _=>rfl) hp
 obtain ⟨v,rfl⟩:=h3
 exact ⟨h.1,⟨h.2.cmd,h.2.ver,h.2.family,h.2.ae,h.2.plen,h.2.tag,h.2.metric,h.2.seq,h.2.seq2,h.2.interval,h.2.flags,h.2.hops,h.2.nonce,h.2.cost,h.2.type_,h.2.list,h.2.subs⟩⟩
theorem eD6 (k:Int) (s:Bs) (m m':aa2) (h:m.kind=k∧ad7 m) (hp:aA5.put s m=some m'):m'.kind=k∧ad7 m':=by
 obtain ⟨_,_,h3⟩:=ap3 (fun _ _=>rfl) hp
 obtain ⟨v,rfl⟩:=h3
 exact ⟨h.1,⟨h.2.cmd,h.2.ver,h.2.family,h.2.ae,h.2.plen,h.2.tag,h.2.metric,h.2.seq,h.2.seq2,h.2.interval,h.2.flags,h.2.hops,h.2.nonce,h.2.cost,h.2.type_,h.2.list,h.2.subs⟩⟩
theorem eD7 (k:Int) (s:Bs) (m m':aa2) (h:m.kind=k∧ad7 m) (hp:aA6.put s m=some m'):m'.kind=k∧ad7 m':=by
 obtain ⟨_,_,h3⟩:=dS1 (fun _ _=>rfl) hp
 obtain ⟨v,hv,rfl⟩:=h3
 exact ⟨h.1,⟨h.2.cmd,h.2.ver,h.2.family,h.2.ae,h.2.plen,h.2.tag,h.2.metric,h.2.seq,h.2.seq2,h.2.interval,h.2.flags,h.2.hops,h.2.nonce,h.2.cost,h.2.type_,hv,h.2.subs⟩⟩
theorem et9 (k:Int) (s:Bs) (m m':aa2) (h:m.kind=k∧ad7 m) (hp:au3.put s m=some m'):m'.kind=k∧ad7 m':=by
 obtain ⟨_,_,h3⟩:=af5 (fun _ _=>rfl) hp
 obtain ⟨v,hv,rfl⟩:=h3
 exact ⟨h.1,⟨h.2.cmd,h.2.ver,h.2.family,h.2.ae,h.2.plen,h.2.tag,h.2.metric,h.2.seq,h.2.seq2,h.2.interval,h.2.flags,h.2.hops,h.2.nonce,h.2.cost,hv,h.2.list,h.2.subs⟩⟩
theorem eD8 (k:Int) (s:Bs) (m m':aa2) (h:m.kind=k∧ad7 m) (hp:aA7.put s m=some m'):m'.kind=k∧ad7 m':=by
 obtain ⟨_,_,h3⟩:=ap3 (fun _ _=>rfl) hp
 obtain ⟨v,rfl⟩:=h3
 exact ⟨h.1,⟨h.2.cmd,h.2.ver,h.2.family,h.2.ae,h.2.plen,h.2.tag,h.2.metric,h.2.seq,h.2.seq2,h.2.interval,h.2.flags,h.2.hops,h.2.nonce,h.2.cost,h.2.type_,h.2.list,h.2.subs⟩⟩
theorem eD9 (k:Int) (s:Bs) (m m':aa2) (h:m.kind=k∧ad7 m) (hp:aA8.put s m=some m'):m'.kind=k∧ad7 m':=by
 obtain ⟨_,_,h3⟩:=dS2 (fun _ _=>rfl) hp
 obtain ⟨v,hv,rfl⟩:=h3
 exact ⟨h.1,⟨h.2.cmd,h.2.ver,h.2.family,h.2.ae,h.2.plen,h.2.tag,h.2.metric,h.2.seq,h.2.seq2,h.2.interval,h.2.flags,h.2.hops,h.2.nonce,h.2.cost,h.2.type_,h.2.list,hv⟩⟩
theorem fsM_inv (k:Int):∀ f∈fsM,∀ s m m',(m.kind=k∧ad7 m)→f.put s m=some m'→(m'.kind=k∧ad7 m'):=by
 intro f hf
 simp only [fsM,List.mem_cons,List.mem_nil_iff,or_false] at hf
 rcases hf with rfl | rfl | rfl | rfl | rfl | rfl | rfl | rfl | rfl | rfl | rfl | rfl | rfl | rfl | rfl | rfl | rfl | rfl | rfl | rfl | rfl | rfl | rfl | rfl
 ·exact eM7 k
 ·exact eM8 k
 ·exact eC9 k
 ·exact ek6 k
 ·exact eT8 k
 ·exact ea6 k
 ·exact eD0 k
 ·exact eM9 k
 ·exact eD1 k
 ·exact ek7 k
 ·exact eT9 k
 ·exact eN0 k
 ·exact eD2 k
 ·exact dS8 k
 ·exact et7 k
 ·exact eD3 k
 ·exact et8 k
 ·exact eD4 k
 ·exact eD5 k
 ·exact eD6 k
 ·exact eD7 k
 ·exact et9 k
 ·exact eD8 k
 ·exact eD9 k
theorem dS9 (k:Int):∀ f∈fsM,f.get (ak6 k)=[]:=by
 intro f hf
 simp only [fsM,List.mem_cons,List.mem_nil_iff,or_false] at hf
 rcases hf with rfl | rfl | rfl | rfl | rfl | rfl | rfl | rfl | rfl | rfl | rfl | rfl | rfl | rfl | rfl | rfl | rfl | rfl | rfl | rfl | rfl | rfl | rfl | rfl <;> rfl
theorem zero_nums (k:Int):ad7 (ak6 k):=by
 constructor <;> first | (show rng 0; unfold rng; omega) | (intro d hd; cases hd)
theorem print_read {s:Bs} {m:aa2} (h:aB6 s=some m):ai4 m=some s:=by
 unfold aB6 at h
 split at h
 ·rename_i m' rest1 more hr
  split at h
  ·rename_i hh
   cases h
   obtain ⟨rfl,hb⟩:=hh
   obtain ⟨hk,hn⟩:=cO2 (Q:=fun x=>x.kind=ap1 (ac4 32 s).1∧ad7 x) fsM _ _ _ _ _ _ (fsM_inv _) ⟨rfl,zero_nums _⟩ hr
   have hw:an3 m.kind=(ac4 32 s).1:=by
    rw [hk]
    exact et6 (by have:=bare_kind hb; omega)
   obtain ⟨c1,c2,c3⟩:=bd3 32 s
   unfold ai4
   rw [if_pos ⟨hb,hn⟩,hw]
   cases hm:(ac4 32 s).2.2 with
   | false=>
    rw [hm] at hr c2
    rw [cu5] at hr
    have em:ak6 (ap1 (ac4 32 s).1)=m:=congrArg (·.1) (Option.some.inj hr)
    rw [if_neg (by decide),List.append_nil] at c2
    rw [← em,ci1 _ _ (dS9 _),List.append_nil,← c2]
   | true=>
    rw [hm] at hr c2
    rw [if_pos rfl] at c2
    obtain ⟨i1,_⟩:=eB6 fsM eC8 fsM _ _ _ _ dB7 (fun _ h=>h) (dS9 _) hr
    rw [i1,← c2]
  ·cases h
 ·cases h
end Go.VP
namespace Go.VP
open Go Go.VI
def Small (m:Msg):Prop:=m.list.length≤1000000000∧m.subs.length≤1000000000
theorem eE0 {m:Msg} (g:ax8 m):cT0 m:=by
 obtain ⟨g1,g2,g3,g4,g5,g6,g7,g8,g9,g10,g11,g12,g13,g14,g15,g16,g17,g18,g19,g20,g21,_⟩:=g
 exact ⟨g4,g7,g10,g12,g20,g21⟩
theorem eu0 {a:List Msg} {n:Nat} (g:∀ m∈a,cT0 m) (hl:a.length≤1000):∀ (d m i:Nat),i+d=a.length→d < m→∃ b,aI6 n m a i=some ((b,()),())∧(b=true→∀ m∈a.drop i,Few m):=by
 intro d
 induction d with
 | zero=>
  intro m i hd hm
  obtain ⟨m,rfl⟩:∃ k,m=k+1:=⟨m - 1,by omega⟩
  rw [br8,ifn (by omega)]
  exact ⟨true,rfl,fun _ m hm=>by rw [List.drop_eq_nil_of_le (by omega)] at hm; cases hm⟩
 | succ d ih=>
  intro m i hd hm
  obtain ⟨m,rfl⟩:∃ k,m=k+1:=⟨m - 1,by omega⟩
  have hi:i < a.length:=by omega
  obtain ⟨b,h1,h2⟩:=ih m (i+1) (by omega) (by omega)
  rw [show ((i+1:Nat):Int)=(i:Int)+1 by omega] at h1
  obtain ⟨c,k1,k2⟩:=eT7 (g _ (List.getElem_mem hi))
  rw [br8,ifd (by omega),if_pos (by omega),Int.toNat_natCast,aj0 hi,k1,Option.bind_some,w64 (by omega) (by omega),h1]
  cases c with
  | false=>exact ⟨false,rfl,fun h=>by cases h⟩
  | true=>
   refine ⟨b,rfl,fun h m hm=>?_⟩
   rw [List.drop_eq_getElem_cons hi] at hm
   rcases List.mem_cons.1 hm with rfl | hm
   ·exact k2 rfl
   ·exact h2 h m hm
theorem eN1 {a:List Msg} {k:Int} (hk:k≤1000) (g:∀ m∈a,cT0 m):∃ b,bs6 (a,k,())=some ((b,()),())∧(b=true→a.length≤k∧∀ m∈a,Few m):=by
 show ∃ b,bs5 fuel (a,k,())=_∧_
 rw [cU8]
 by_cases h:k < (a.length:Int)
 ·rw [ifd h]; exact ⟨false,rfl,fun h=>by cases h⟩
 ·rw [ifn h]
  obtain ⟨b,h1,h2⟩:=eu0 (n:=fuel) g (by omega) a.length fuel 0 (by omega) (ag7 (by omega))
  exact ⟨b,h1,fun hb=>⟨by omega,fun m hm=>h2 hb m (by simpa using hm)⟩⟩
end Go.VP
namespace Go.VP
open Go Go.VI
def az0:Bs:=[254,128,0,0,0,0,0,0]
def ai0 (a:Bs):Bool:=decide (a.length=16) && (a.take 8==az0)
theorem eN2 (a p:Bs):ay6 (a,p,())=some ((decide (p.length≤a.length) && (a.take p.length==p),()),()):=by
 rw [ch9,aW0]
 by_cases h:p.length≤a.length
 ·rw [ifd (by omega),if_pos (by omega),Option.bind_some,Int.toNat_natCast,decide_eq_true h]; rfl
 ·rw [ifn (by omega),Option.bind_some,decide_eq_false h]; rfl
theorem cT1 (a:Bs):ar7 (a,())=some ((ai0 a,()),()):=by
 rw [du7,eN2,Option.bind_some]
 unfold ai0
 by_cases h:a.length=16
 ·rw [if_pos (by simp; omega),decide_eq_true h]
  have:decide (([254,128,0,0,0,0,0,0]:Bs).length≤a.length)=true:=by simp; omega
  rw [this]; rfl
 ·rw [if_neg (by simp; omega),decide_eq_false h]; rfl
theorem aw8 {a:Bs} (h:ai0 a=true):a.length=16∧a.take 8=az0:=by
 simpa [ai0] using h
def cO3 (a:Bs):Bs × Bool:=if ai0 a=true then (a.drop 8,true) else ([],false)
theorem dT0 (a:Bs):aS2 (a,())=some (((cO3 a).1,(cO3 a).2,()),()):=by
 rw [do1,cT1,Option.bind_some]
 unfold cO3
 dsimp only
 by_cases h:ai0 a=true
 ·have:=aw8 h
  rw [h,aj6,if_pos (by omega),ift]
 ·rw [Bool.not_eq_true] at h
  rw [h,aS8,bd2]
def do9 (s:Bs):Bs × Bool:=if s.length=8 then (az0++s,true) else ([],false)
def bn9 (a:Bs):Int:=if a.length=4 then 0 else if a.length=16 then 1 else -1
theorem eu1 (a:Bs):aA9 (a,())=some ((bn9 a,()),()):=by
 rw [dd6]
 unfold bn9
 by_cases h:a.length=4
 ·rw [if_pos (by simp; omega),if_pos h]
 ·rw [if_neg (by simp; omega),if_neg h]
  by_cases h2:a.length=16
  ·rw [if_pos (by simp; omega),if_pos h2]
  ·rw [if_neg (by simp; omega),if_neg h2]
theorem dC0 {s:Bs} (h:s.length=8):ai0 (az0++s)=true:=by
 unfold ai0
 have e:(az0++s).take 8=az0:=by rw [List.take_append_of_le_length (by decide)]; rfl
 rw [e]
 simp [az0,h]
theorem dp0 {a:Bs} (h:ai0 a=true):az0++a.drop 8=a:=by
 rw [← (aw8 h).2,List.take_append_drop]
end Go.VP
namespace Go.VP
open Go Go.VI
def by5 (b k:Nat):Nat:=b / 2 ^ (8 - k) * 2 ^ (8 - k)
def by6 (b:UInt8) (k:Int):UInt8:=UInt8.ofNat (by5 b.toNat (min k.toNat 8))
theorem eE1 (b k:Nat):by5 b k≤b:=Nat.div_mul_le_self ..
theorem aZ6 (b:UInt8) (k:Int):(by6 b k).toNat=by5 b.toNat (min k.toNat 8):=by
 have:=eE1 b.toNat (min k.toNat 8); have:=b.toNat_lt
 unfold by6; rw [UInt8.toNat_ofNat']; omega
theorem eu2 {b:UInt8} {k:Int} (h:8≤k):by6 b k=b:=by
 apply UInt8.toNat.inj
 rw [aZ6,show min k.toNat 8=8 by omega]; simp [by5]
theorem ek8 {b:UInt8} {k:Int} (h:k≤0):by6 b k=0:=by
 apply UInt8.toNat.inj
 have:=b.toNat_lt
 rw [aZ6,show min k.toNat 8=0 by omega]; simp [by5]; omega
def ag5:Bs→Int→Bs
 | [],_=>[]
 | b::r,n=>by6 b n::ag5 r (n - 8)
theorem aT1:∀ (s:Bs) (n:Int),(ag5 s n).length=s.length
 | [],_=>rfl
 | b::r,n=>by simp [ag5,aT1 r]
theorem cc1:∀ {s:Bs} {n:Int},8 * (s.length:Int)≤n→ag5 s n=s
 | [],_,_=>rfl
 | b::r,n,h=>by simp only [List.length_cons] at h; rw [ag5,eu2 (by omega),cc1 (by omega)]
theorem bL9:∀ {s:Bs} {n:Int},n≤0→ag5 s n=List.replicate s.length 0
 | [],_,_=>rfl
 | b::r,n,h=>by rw [ag5,ek8 h,bL9 (by omega),List.length_cons,List.replicate_succ]
theorem bo0:∀ (a b:Bs) (n:Int),ag5 (a++b) n=ag5 a n++ag5 b (n - 8 * a.length)
 | [],b,n=>by simp [ag5]
 | x::a,b,n=>by simp only [List.cons_append,ag5,bo0 a b,List.length_cons]; congr 3; omega
theorem eu3 {s:Bs} {n:Int} (h0:0≤n) (h:n < 8 * s.length):ag5 s n=s.take (n / 8).toNat++by6 (s[(n / 8).toNat]'(by omega)) (n % 8)::List.replicate (s.length - (n / 8).toNat - 1) 0:=by
 have hk:(n / 8).toNat < s.length:=by omega
 have e:s=s.take (n / 8).toNat++(s[(n / 8).toNat]::s.drop ((n / 8).toNat+1)):=by rw [← List.drop_eq_getElem_cons hk,List.take_append_drop]
 have hl:(s.take (n / 8).toNat).length=(n / 8).toNat:=by rw [List.length_take]; omega
 have:=congrArg (fun x=>ag5 x n) e
 rw [this,bo0,hl,cc1 (by omega),ag5,bL9 (by omega),List.length_drop]
 congr 3
 all_goals omega
theorem ek9:∀ y:Fin 256,∀ j:Fin 8,(aa1 (an0 .andNot .u8 (y.val:Int) (ae4 .u8 255 (j.val:Int)))).toNat=by5 y.val j.val:=by decide +kernel
theorem eu4 {n:Int} (h0:0≤n) (h:n≤9223372036854775807):an0 .and .i64 n 7=n % 8:=by
 obtain ⟨a,rfl⟩:∃ a:Nat,n=a:=⟨n.toNat,by omega⟩
 unfold an0
 show IntKind.wrap .i64 (((BitVec.ofInt 64 (a:Int) &&& BitVec.ofInt 64 ((7:Nat):Int)).toNat:Nat):Int)=_
 have e:a &&& 7=a % 8:=Nat.and_two_pow_sub_one_eq_mod a 3
 rw [BitVec.toNat_and,BitVec.ofInt_natCast,BitVec.ofInt_natCast,BitVec.toNat_ofNat,BitVec.toNat_ofNat,Nat.mod_eq_of_lt (by omega),Nat.mod_eq_of_lt (by omega),e,w64 (by omega) (by omega)]
 omega
theorem el0 {n:Int} (h0:0≤n):ae4 .i64 n 3=n / 8:=by
 unfold ae4
 rw [show ((2:Int) ^ min (3:Int).toNat IntKind.i64.bits)=8 by decide]
 exact Int.fdiv_eq_ediv_of_nonneg _ (by decide)
theorem ee1 {s:Bs} {n:Int} (hs:s.length≤1000000000) (hn:IntKind.has .i64 n):aY2 (s,n,())=some ((ag5 s n,()),()):=by
 rw [has64] at hn
 rw [du1,w64 (x:=8 * (s.length:Int)) (by omega) (by omega)]
 by_cases h1:8 * (s.length:Int)≤n
 ·rw [ifd h1,cc1 h1]
 ·rw [ifn h1,if_pos (show 0≤(s.length:Int)∧(s.length:Int)≤ah8 by unfold ah8; omega)]
  by_cases h2:n≤0
  ·rw [ifd h2,bL9 h2,Int.toNat_natCast]
  ·rw [ifn h2,el0 (by omega),eu4 (by omega) (by omega),eB4 (by omega) (by omega),if_pos (show 0≤n / 8∧n / 8≤(s.length:Int) by omega),if_pos (show 0≤n / 8 by omega)]
   have hk:(n / 8).toNat < s.length:=by omega
   have hl:((s.take (n / 8).toNat).take ((List.replicate (s.length:Int).toNat (0:UInt8)).length)++(List.replicate (s.length:Int).toNat (0:UInt8)).drop (s.take (n / 8).toNat).length).length=s.length:=by
    simp; omega
   rw [aj0 hk,if_pos (show 0≤n % 8 by omega),hl,if_pos (show 0≤n / 8∧n / 8 < (s.length:Int) by omega),if_pos hk,eu3 (by omega) (by omega)]
   have e1:aa1 (an0 .andNot .u8 ((s[(n / 8).toNat].toNat:Nat):Int) (ae4 .u8 255 (n % 8)))=by6 s[(n / 8).toNat] (n % 8):=by
    apply UInt8.toNat.inj
    have:=ek9 ⟨s[(n / 8).toNat].toNat,s[(n / 8).toNat].toNat_lt⟩ ⟨(n % 8).toNat,by omega⟩
    dsimp only at this
    rw [show (((n % 8).toNat:Nat):Int)=n % 8 by omega] at this
    rw [this,aZ6,show min (n % 8).toNat 8=(n % 8).toNat by omega]
   have e2:(s.take (n / 8).toNat).length=(n / 8).toNat:=by rw [List.length_take]; omega
   have e3:(s.take (n / 8).toNat).take ((List.replicate (s.length:Int).toNat (0:UInt8)).length)=s.take (n / 8).toNat:=List.take_of_length_le (by simp; omega)
   have e4:(List.replicate (s.length:Int).toNat (0:UInt8)).drop (n / 8).toNat=0::List.replicate (s.length - (n / 8).toNat - 1) 0:=by
    rw [List.drop_replicate,Int.toNat_natCast,show s.length - (n / 8).toNat=(s.length - (n / 8).toNat - 1)+1 by omega,List.replicate_succ]
    simp
   rw [e1,e3,e2,e4,List.set_append_right _ _ (by omega),e2,Nat.sub_self,List.set_cons_zero]
def bo1 (s:Bs) (n:Int):Bool:=ag5 s n==s
theorem de3 {s:Bs} {n:Int} (hs:s.length≤1000000000) (hn:IntKind.has .i64 n):aF8 (s,n,())=some ((bo1 s n,()),()):=by
 rw [dn0,ee1 hs hn]; rfl
def ad9 (n:Int):Int:=if n < 0 then 0 else (n+7) / 8
theorem eE2 {n:Int} (h:n≤9000000000000000000):aV6 (n,())=some ((ad9 n,()),()):=by
 rw [cV1]
 unfold ad9
 by_cases h0:n < 0
 ·rw [if_pos (show 0 > n from h0),if_pos h0]; rfl
 ·rw [if_neg (show ¬0 > n from h0),if_neg h0,w64 (by omega) (by omega),el0 (by omega)]
def cc2 (s:Bs) (n:Int):Bs:=s++List.replicate (n.toNat - s.length) 0
def bV7 (a:Bs) (n:Int):Bs:=ag5 (a.take (ad9 n).toNat) n
theorem dC1 (n:Int):0≤ad9 n:=by unfold ad9; split <;> omega
theorem eu5 (a:Bs) (n:Int) (h:0≤n):0≤(if (a.length:Int) < n then (a.length:Int) else n)∧(if (a.length:Int) < n then (a.length:Int) else n)≤(a.length:Int)∧a.take (if (a.length:Int) < n then (a.length:Int) else n).toNat=a.take n.toNat:=by
 split
 ·refine ⟨by omega,by omega,?_⟩
  rw [Int.toNat_natCast,List.take_length,List.take_of_length_le (by omega)]
 ·exact ⟨by omega,by omega,rfl⟩
theorem ee2 {a:Bs} {n:Int} (ha:a.length≤1000000000) (hn:IntKind.has .i64 n) (h:n≤9000000000000000000):aG3 (a,n,())=some ((bV7 a n,()),()):=by
 obtain ⟨m1,m2,m3⟩:=eu5 a (ad9 n) (dC1 n)
 rw [do0,eE2 h,Option.bind_some]
 dsimp only
 rw [if_pos ⟨m1,m2⟩,m3,ee1 (by rw [List.length_take]; omega) hn]; rfl
theorem el1 (a:Bs) (n:Int):∀ k:Nat,(ag5 a n).take k=ag5 (a.take k) n:=by
 intro k
 induction a generalizing n k with
 | nil=>simp [ag5]
 | cons b r ih=>
  cases k with
  | zero=>simp [ag5]
  | succ k=>simp [ag5,ih]
end Go.VP
namespace Go.VP
open Go Go.VI
def bo2 (ae:Int) (a:Bs):Bool:=if ae=0 then a==[] else if ae=1 then decide (a.length=4) else if ae=2 then decide (a.length=16) else if ae=3 then ai0 a else false
theorem eN3 (ae:Int) (a:Bs):aB7 (ae,a,())=some ((bo2 ae a,()),()):=by
 rw [cN2,eu1,cT1]
 unfold bo2
 refine ac8 (fun h=>?_) (fun h=>?_)
 ·rw [if_pos h]
 rw [if_neg h]
 refine ac8 (fun h=>?_) (fun h=>?_)
 ·rw [if_pos h,Option.bind_some]
  unfold bn9; split
  ·simp [*]
  ·split <;> simp [*]
 rw [if_neg h]
 refine ac8 (fun h=>?_) (fun h=>?_)
 ·rw [if_pos h,Option.bind_some]
  unfold bn9; split
  ·simp [*]
  ·split <;> simp [*]
 rw [if_neg h]
 refine ac8 (fun h=>?_) (fun h=>?_)
 ·rw [if_pos h,Option.bind_some]
 rw [if_neg h]
def cu6 (m:Msg):Bool:=if m.kind=7 then true else if m.kind=8 then true else if m.kind=9 then (m.flags==0 || m.flags==1) else if m.kind=10 then bo2 m.ae m.addr else false
noncomputable def bC2 (m:Msg):Bool:=ac5 m.nonce 2 && (ac5 m.interval 2 && (ac5 m.seq 2 && (ac5 m.cost 2 && (bareB m && (al9 m.subs && cu6 m)))))
structure bo3 (m:Msg):Prop where
 few:de2 m
 nonce:IntKind.has .i64 m.nonce
 interval:IntKind.has .i64 m.interval
 seq:IntKind.has .i64 m.seq
 cost:IntKind.has .i64 m.cost
 kind:IntKind.has .i64 m.kind
 flags:IntKind.has .i64 m.flags
 ae:IntKind.has .i64 m.ae
 plen:IntKind.has .i64 m.plen
 hops:IntKind.has .i64 m.hops
theorem eE3 {m:Msg} {c:Option ((Bool × Unit) × Unit)} (hc:c=some ((bo2 m.ae m.addr,()),())) :
 (if (m.kind==7)=true then (if (m.kind==7)=true then some ((true,()),()) else (if (m.kind==9)=true then (if (m.flags==0)=true then some ((true,()),()) else some (((m.flags==1),()),())) else (if (m.kind==10)=true then (c.bind fun r5=>some ((r5.1.1,()),())) else some ((false,()),())))) else (if (m.kind==8)=true then some ((true,()),()) else (if (m.kind==9)=true then (if (m.flags==0)=true then some ((true,()),()) else some (((m.flags==1),()),())) else (if (m.kind==10)=true then (c.bind fun r6=>some ((r6.1.1,()),())) else some ((false,()),())))))=some ((cu6 m,()),()):=by
 subst hc
 unfold cu6
 refine ac8 (fun h=>?_) (fun h=>?_)
 ·rw [if_pos h,if_pos (by simp [h])]
 rw [if_neg h]
 refine ac8 (fun h=>?_) (fun h=>?_)
 ·rw [if_pos h]
 rw [if_neg h]
 refine ac8 (fun h=>?_) (fun h=>?_)
 ·rw [if_pos h]
  refine ac8 (fun h2=>?_) (fun h2=>?_)
  ·simp [h2]
  ·have:(m.flags==0)=false:=by simpa using h2
   rw [this,Bool.false_or]
 rw [if_neg h]
 refine ac8 (fun h=>?_) (fun h=>?_)
 ·rw [if_pos h,Option.bind_some]
 rw [if_neg h]
theorem dT1 {m:Msg} (g:bo3 m):aL9 (m,())=some ((bC2 m,()),()):=by
 have f2:∀ {n:Int},IntKind.has .i64 n→ab1 (n,2,())=some ((ac5 n 2,()),()):=fun h=>ap8 (k:=2) h (by omega) (by omega)
 obtain ⟨c,hc⟩:=dR6
 show bF1 fuel _=_
 rw [dd8,show ([m.nonce,m.interval,m.seq,m.cost]:List Int).length=4 from rfl]
 have e0:fuel=(c+999999999995)+5:=by omega
 have st:∀ (k:Nat) (i:Nat) (x:Int),[m.nonce,m.interval,m.seq,m.cost][i]?=some x→i < 4→IntKind.has .i64 x→at4 fuel (k+1) m [m.nonce,m.interval,m.seq,m.cost] ((4:Nat):Int) i=(if (!ac5 x 2)=true then some ((false,()),()) else at4 fuel k m [m.nonce,m.interval,m.seq,m.cost] ((4:Nat):Int) ((i+1:Nat):Int)):=by
  intro k i x hx hi hh
  rw [bB8,ifd (by omega),if_pos (by omega),Int.toNat_natCast,hx,Option.bind_some,f2 hh,Option.bind_some,w64 (by omega) (by omega)]
  rfl
 have last:∀ k,at4 fuel (k+1) m [m.nonce,m.interval,m.seq,m.cost] ((4:Nat):Int) ((4:Nat):Int)=some ((bareB m && (al9 m.subs && cu6 m),()),()):=by
  intro k
  rw [bB8,ifn (by omega),bare_is,Option.bind_some,cc0 g.few.fewS,Option.bind_some]
  dsimp only
  rw [eE3 (eN3 _ _)]
  cases bareB m
  ·rfl
  ·cases al9 m.subs <;> rfl
 have:=st (c+999999999999) 0 m.nonce rfl (by omega) g.nonce
 rw [show c+999999999999+1=fuel by omega] at this
 rw [show (0:Int)=((0:Nat):Int) from rfl,this]
 have:=st (c+999999999998) 1 m.interval rfl (by omega) g.interval
 rw [this]
 have:=st (c+999999999997) 2 m.seq rfl (by omega) g.seq
 rw [this]
 have:=st (c+999999999996) 3 m.cost rfl (by omega) g.cost
 rw [this]
 have:=last (c+999999999995)
 rw [this]
 unfold bC2
 cases ac5 m.nonce 2
 ·rfl
 ·cases ac5 m.interval 2
  ·rfl
  ·cases ac5 m.seq 2
   ·rfl
   ·cases ac5 m.cost 2 <;> rfl
def ae8 (m:Msg):Bs:=
 if m.kind=7 then be 2 0++(be 2 m.nonce++be 2 m.interval)
 else if m.kind=8 then be 2 m.nonce
 else if m.kind=9 then be 2 (32768 * m.flags)++(be 2 m.seq++be 2 m.interval)
 else be 2 (256 * m.ae)++(be 2 m.cost++(be 2 m.interval++(if m.ae=3 then m.addr.drop 8 else m.addr)))
noncomputable def aD4 (m:Msg):Bs × Bool:=if bC2 m=true then as6 (m.kind - 5) (ae8 m++ab3 m.subs) else ([],false)
theorem be2 {n:Int} (h:0≤n∧n < 65536):[aa1 (IntKind.wrap .u8 (ae4 .i64 n 8)),aa1 (IntKind.wrap .u8 n)]=be 2 n:=by
 have e:ae4 .i64 n 8=n / 256:=by
  unfold ae4
  rw [show ((2:Int) ^ min (8:Int).toNat IntKind.i64.bits)=256 by decide]
  exact Int.fdiv_eq_ediv_of_nonneg _ (by decide)
 rw [e,wu8,wu8]; rfl
theorem eE4 {l:List Int} {n:Nat} (hl:l.length≤10) (hr:∀ x∈l,0≤x∧x < 65536):∀ (d m i:Nat) (b:Bs),i+d=l.length→d < m→b.length≤1000+2 * i→
  av5 n m l i b=some ((),(⟨b++(l.drop i).flatMap (be 2)⟩,())):=by
 intro d
 induction d with
 | zero=>
  intro m i b hd hm hb
  obtain ⟨m,rfl⟩:∃ k,m=k+1:=⟨m - 1,by omega⟩
  rw [aX0,ifn (by omega),List.drop_eq_nil_of_le (by omega)]
  simp
 | succ d ih=>
  intro m i b hd hm hb
  obtain ⟨m,rfl⟩:∃ k,m=k+1:=⟨m - 1,by omega⟩
  have hi:i < l.length:=by omega
  have:=ih m (i+1) (b++be 2 l[i]) (by omega) (by omega) (by simp [ab6]; omega)
  rw [show ((i+1:Nat):Int)=(i:Int)+1 by omega] at this
  rw [aX0,ifd (by omega),if_pos (by omega),Int.toNat_natCast,aj0 hi,if_pos (ah7 (by simp; omega)),be2 (hr _ (List.getElem_mem hi)),w64 (by omega) (by omega),this,List.drop_eq_getElem_cons hi]
  simp only [List.flatMap_cons,List.append_assoc]
theorem dp1 {l:List Int} {b:Bs} (hl:l.length≤10) (hr:∀ x∈l,0≤x∧x < 65536) (hb:b.length≤1000):ao5 (⟨b⟩,l,())=some ((),(⟨b++l.flatMap (be 2)⟩,())):=by
 show aS1 fuel _=_
 rw [cp0]
 exact eE4 (n:=fuel) hl hr l.length fuel 0 b (by omega) (ag7 (by omega)) (by omega)
structure ay0 (m:Msg):Prop where
 nonce:0≤m.nonce∧m.nonce < 65536
 interval:0≤m.interval∧m.interval < 65536
 seq:0≤m.seq∧m.seq < 65536
 cost:0≤m.cost∧m.cost < 65536
 bare:bareB m=true
 subs:al9 m.subs=true
 kind:cu6 m=true
theorem bV8 {n:Int}:ac5 n 2=true↔0≤n∧n < 65536:=by simp [ac5]
theorem av7 {m:Msg}:bC2 m=true↔ay0 m:=by
 unfold bC2
 simp only [Bool.and_eq_true,bV8]
 exact ⟨fun ⟨a,b,c,d,e,f,g⟩=>⟨a,b,c,d,e,f,g⟩,fun h=>⟨h.1,h.2,h.3,h.4,h.5,h.6,h.7⟩⟩
theorem ay0.kinds {m:Msg} (h:ay0 m):m.kind=7∨m.kind=8∨(m.kind=9∧(m.flags=0∨m.flags=1))∨(m.kind=10∧bo2 m.ae m.addr=true):=by
 have:=h.kind
 unfold cu6 at this
 split at this
 ·omega
 ·split at this
  ·omega
  ·split at this
   ·simp at this; exact .inr (.inr (.inl ⟨by assumption,this⟩))
   ·split at this
    ·exact .inr (.inr (.inr ⟨by assumption,this⟩))
    ·cases this
theorem by7 {ae:Int} {a:Bs} (h:bo2 ae a=true):(ae=0∧a=[])∨(ae=1∧a.length=4)∨(ae=2∧a.length=16)∨(ae=3∧ai0 a=true):=by
 unfold bo2 at h
 split at h
 ·simp at h; exact .inl ⟨by assumption,h⟩
 ·split at h
  ·simp at h; exact .inr (.inl ⟨by assumption,h⟩)
  ·split at h
   ·simp at h; exact .inr (.inr (.inl ⟨by assumption,h⟩))
   ·split at h
    ·exact .inr (.inr (.inr ⟨by assumption,h⟩))
    ·cases h
theorem dw1 {x:Int} {k:Nat} (hx:0≤x∧x < 65536) (hk:k≤15):am6 .i64 x k=2 ^ k * x:=by
 unfold am6
 rw [Int.mul_comm]
 have e:min (k:Int).toNat IntKind.i64.bits=k:=by simp only [IntKind.bits]; omega
 rw [e]
 have hp:(2:Int) ^ k≤32768∧1≤(2:Int) ^ k:=by
  match k,hk with
  | 0,_ | 1,_ | 2,_ | 3,_ | 4,_ | 5,_ | 6,_ | 7,_ | 8,_ | 9,_ | 10,_ | 11,_ | 12,_ | 13,_ | 14,_ | 15,_=>decide
 have h1:x * 2 ^ k≤65536 * 32768:=Int.mul_le_mul (by omega) hp.1 (by omega) (by omega)
 have h0:0≤x * 2 ^ k:=Int.mul_nonneg hx.1 (by omega)
 rw [w64 (by omega) (by omega),Int.mul_comm]
theorem dT2 {l:List Sub} (h:al9 l=true):dS5 l=(ab3 l,true):=by unfold dS5; rw [if_pos h]
theorem aW3 {l:List Sub} (h:al9 l=true):(ab3 l).length≤200:=by
 have:=(aH1 h).2; have:=aN3 l; omega
theorem eU0 {m:Msg} (g:bo3 m):aY7 (m,())=some (((aD4 m).1,(aD4 m).2,()),()):=by
 rw [dv5,dT1 g,Option.bind_some]
 unfold aD4
 dsimp only
 by_cases h:bC2 m=true
 ·have r:=av7.1 h
  have hs:=dw0 g.few.fewS (by have:=g.few.subs; omega)
  rw [dT2 r.subs] at hs
  have hz:=aW3 r.subs
  rw [if_neg (by simp [h]),if_pos h,hs]
  simp only [Option.bind_some]
  rcases r.kinds with hk | hk | ⟨hk,hf⟩ | ⟨hk,ha⟩
  ·rw [if_pos (by simp [hk]),dp1 (by simp) (by have:=r.nonce; have:=r.interval; simp; omega) (by simp),Option.bind_some]
   dsimp only
   rw [if_pos (af6 (by simp [ab6]; omega)),aW1,w64 (x:=m.kind - 7) (by omega) (by omega),w64 (by omega) (by omega)]
   simp [ae8,hk]
  ·rw [if_neg (by simp [hk]),if_pos (by simp [hk]),dp1 (by simp) (by have:=r.nonce; simp; omega) (by simp),Option.bind_some]
   dsimp only
   rw [if_pos (af6 (by simp [ab6]; omega)),aW1,w64 (x:=m.kind - 7) (by omega) (by omega),w64 (by omega) (by omega)]
   simp [ae8,hk]
  ·rw [if_neg (by simp [hk]),if_neg (by simp [hk]),if_pos (by simp [hk]),show (15:Int)=((15:Nat):Int) from rfl,dw1 (by omega) (by omega),dp1 (by simp) (by have:=r.seq; have:=r.interval; simp; omega) (by simp),Option.bind_some]
   dsimp only
   rw [if_pos (af6 (by simp [ab6]; omega)),aW1,w64 (x:=m.kind - 7) (by omega) (by omega),w64 (by omega) (by omega)]
   simp [ae8,hk]
  ·have hc:=by7 ha
   have hl:m.addr.length≤16:=by rcases hc with ⟨_,h⟩ | ⟨_,h⟩ | ⟨_,h⟩ | ⟨_,h⟩ <;> first | (rw [h]; simp; done) | omega | (have:=aw8 h; omega)
   rw [if_neg (by simp [hk]),if_neg (by simp [hk]),if_neg (by simp [hk]),if_pos (by simp [hk]),show (8:Int)=((8:Nat):Int) from rfl,dw1 (by omega) (by omega),dp1 (by simp) (by have:=r.cost; have:=r.interval; simp; omega) (by simp),Option.bind_some,dT0,Option.bind_some]
   dsimp only
   have fin:∀ a:Bs,a.length≤16→ae8 m=be 2 (256 * m.ae)++(be 2 m.cost++(be 2 m.interval++a))→(if ag8 (([]++[2 ^ 8 * m.ae,m.cost,m.interval].flatMap (be 2)).length+a.length)=true then (if af1 ((([]++[2 ^ 8 * m.ae,m.cost,m.interval].flatMap (be 2))++a).length+(ab3 m.subs).length)=true then ((af4 ((IntKind.wrap .i64 ((IntKind.wrap .i64 (m.kind - 7))+2)),((([]++[2 ^ 8 * m.ae,m.cost,m.interval].flatMap (be 2))++a)++ab3 m.subs),())).bind fun r14=>some ((r14.1.1,r14.1.2.1,()),())) else none) else none)=some (((as6 (m.kind - 5) (ae8 m++ab3 m.subs)).1,(as6 (m.kind - 5) (ae8 m++ab3 m.subs)).2,()),()):=by
    intro a ha he
    rw [if_pos (ah7 (by simp [ab6]; omega)),if_pos (af6 (by simp [ab6]; omega)),aW1,w64 (x:=m.kind - 7) (by omega) (by omega),w64 (by omega) (by omega),he]
    simp [hk]
   unfold cO3
   by_cases hb:ai0 m.addr=true
   ·rw [hb,ift,ift]
    dsimp only
    refine ac8 (fun h3=>?_) (fun h3=>?_)
    ·exact fin _ (by simp; omega) (by simp [ae8,hk,h3])
    ·exact fin _ hl (by simp [ae8,hk,h3])
   ·have h3:m.ae≠3:=fun h3=>by rcases hc with ⟨h,_⟩ | ⟨h,_⟩ | ⟨h,_⟩ | ⟨_,h⟩ <;> first | omega | exact hb h
    rw [Bool.not_eq_true] at hb
    rw [hb,bd2,bd2]
    exact fin _ hl (by simp [ae8,hk,h3])
 ·rw [Bool.not_eq_true] at h
  rw [h,aS8,bd2]
end Go.VP
namespace Go.VP
open Go Go.VI
abbrev aX6:Msg:=⟨0,0,0,[],0,0,[],0,0,[],0,[],0,0,0,0,0,0,0,[],[],[],0,[],[]⟩
def cO4 (F:List Sub→Msg) (x:List Sub × Bool × Int):Msg × Bool × Int:=if (x.2.2 != 0)=true then (aX6,false,x.2.2) else if (!x.2.1)=true then (aX6,false,x.2.2) else (F x.1,true,0)
def bd5 (ae:Int):Int:=if ae=0 then 0 else if ae=1 then 4 else if ae=2 then 16 else 8
def aZ7 (ty:Int) (d:Bs):Msg × Bool × Int:=
 if ty=2 then (if d.length < 6 then (aX6,false,2) else cO4 (fun l=>⟨7,0,0,[],0,0,[],0,0,[],0,[],0,0,num (aa4 d 4 2),0,0,num (aa4 d 2 2),0,[],[],[],0,[],l⟩) (az6 (d.drop 6)))
 else if ty=3 then (if d.length < 2 then (aX6,false,2) else cO4 (fun l=>⟨8,0,0,[],0,0,[],0,0,[],0,[],0,0,0,0,0,num (aa4 d 0 2),0,[],[],[],0,[],l⟩) (az6 (d.drop 2)))
 else if ty=4 then (if d.length < 6 then (aX6,false,2) else cO4 (fun l=>⟨9,0,0,[],0,0,[],0,0,[],0,[],num (aa4 d 2 2),0,num (aa4 d 4 2),bt d 0 / 128,0,0,0,[],[],[],0,[],l⟩) (az6 (d.drop 6)))
 else if d.length < 6 then (aX6,false,2)
 else if 3 < bt d 0 then (aX6,false,0)
 else if (d.length:Int) < 6+bd5 (bt d 0) then (aX6,false,2)
 else cO4 (fun l=>⟨10,0,0,[],0,bt d 0,[],0,0,[],0,[],0,0,num (aa4 d 4 2),0,0,0,num (aa4 d 2 2),if bt d 0=3 then az0++aa4 d 6 8 else aa4 d 6 (bd5 (bt d 0)),[],[],0,[],l⟩) (az6 (d.drop (6+bd5 (bt d 0)).toNat))
theorem eJ7 (d:Bs) (h:2≤d.length):num (aa4 d 0 2)=bt d 0 * 256+bt d 1:=eS8 (p:=0) (by omega)
theorem eU1 (d:Bs) (h:2≤d.length):num (aa4 d 0 2) / 256=bt d 0:=by
 have:=ai5 d 0; have:=ai5 d 1; rw [eJ7 d h]; omega
theorem eU2 (d:Bs) (h:2≤d.length):num (aa4 d 0 2) / 32768=bt d 0 / 128:=by
 have:=ai5 d 0; have:=ai5 d 1; rw [eJ7 d h]; omega
end Go.VP
