import Derived.Test.YtjdlhgdklmkkhaaGreatK3FH
import Derived.Test.YtjdlhgdklmkkhaaGreatK3FQ11
import Derived.Test.YtjdlhgdklmkkhaaGreatK3FQ12
import Derived.Test.YtjdlhgdklmkkhaaGreatK3FQ0
import Derived.Test.YtjdlhgdklmkkhaaGreatK3FQ9
import Derived.Test.YtjdlhgdklmkkhaaGreatK3FQ15
import Derived.Test.YtjdlhgdklmkkhaaGreatK3FQ10
import Derived.Test.YtjdlhgdklmkkhaaGreatK3FQ13
import Derived.Test.YtjdlhgdklmkkhaaGreatK3FQ8
import Derived.Test.YtjdlhgdklmkkhaaGreatK3FQ14
import Derived.Test.YtjdlhgdklmkkhaaGreatK3FGood
set_option linter.unusedVariables false
set_option linter.unusedSimpArgs false
set_option maxRecDepth 100000
namespace Go.VP
open Go Go.VI
abbrev Bs:=List UInt8
theorem w64 {x:Int} (h : -9223372036854775808≤x) (h':x≤9223372036854775807):IntKind.wrap .i64 x=x:=by
 simp only [IntKind.wrap,IntKind.bits,IntKind.signed]
 simp
 omega
theorem eJ8 {x:Int} (h:0≤x) (h':x≤18446744073709551615):IntKind.wrap .u64 x=x:=by
 simp only [IntKind.wrap,IntKind.bits,IntKind.signed]
 simp
 omega
theorem wu8 {x:Int}:IntKind.wrap .u8 x=x % 256:=by
 simp only [IntKind.wrap,IntKind.bits,IntKind.signed]
 simp
theorem bT0 (b:UInt8):IntKind.wrap .i64 (b.toNat:Int)=b.toNat:=by
 have:=b.toNat_lt; exact w64 (by omega) (by omega)
theorem af2 {x:Int}:IntKind.has .i64 x↔-9223372036854775808≤x∧x≤9223372036854775807:=by
 simp only [IntKind.has,IntKind.min,IntKind.max,IntKind.bits,IntKind.signed]
 simp
theorem af7 {n:Nat} (h:n≤9223372036854775807):af9 n=true:=Nat.ble_eq_true_of_le h
theorem ah6 {n:Nat} (h:n≤35184372088832):ag7 n=true:=Nat.ble_eq_true_of_le h
theorem dq8:∃ n,fuel=n+1000000000000:=⟨1124899906842624,rfl⟩
theorem ae2 {n:Nat} (h:n≤1125899906842623):n < fuel:=Nat.lt_succ_of_le h
theorem es5 {x y:Int} (hx:0≤x∧x < 36028797018963968) (hy:0≤y∧y < 256):ad2 .or .i64 (ai0 .i64 x 8) y=x * 256+y:=by
 obtain ⟨a,rfl⟩:∃ a:Nat,x=a:=⟨x.toNat,by omega⟩
 obtain ⟨b,rfl⟩:∃ b:Nat,y=b:=⟨y.toNat,by omega⟩
 have e:ai0 .i64 (a:Int) 8=((a * 256:Nat):Int):=by
  unfold ai0
  rw [Int.mul_comm]
  have:(2:Int) ^ (min (8:Int).toNat IntKind.i64.bits)=256:=by decide
  rw [this,w64 (by omega) (by omega)]
  omega
 rw [e]
 unfold ad2
 show IntKind.wrap .i64 (((BitVec.ofInt 64 ((a * 256:Nat):Int) ||| BitVec.ofInt 64 (b:Int)).toNat:Nat):Int)=_
 rw [BitVec.toNat_or,BitVec.ofInt_natCast,BitVec.ofInt_natCast,BitVec.toNat_ofNat,BitVec.toNat_ofNat,Nat.mod_eq_of_lt (by omega),Nat.mod_eq_of_lt (by omega)]
 have:a * 256 ||| b=a * 256+b:=by
  have:=Nat.two_pow_add_eq_or_of_lt (i:=8) (b:=b) (by omega) a
  rw [Nat.mul_comm a 256]
  exact this.symm
 rw [this,w64 (by omega) (by omega)]
 omega
theorem en3 {a b:Nat} (ha:a < 256) (hb:b < 256):ad2 .xor .u8 (a:Int) (b:Int)=((a ^^^ b:Nat):Int):=by
 unfold ad2
 show IntKind.wrap .u8 (((BitVec.ofInt 8 (a:Int) ^^^ BitVec.ofInt 8 (b:Int)).toNat:Nat):Int)=_
 have h:a ^^^ b < 256:=Nat.xor_lt_two_pow (n:=8) ha hb
 rw [BitVec.toNat_xor,BitVec.ofInt_natCast,BitVec.ofInt_natCast,BitVec.toNat_ofNat,BitVec.toNat_ofNat,Nat.mod_eq_of_lt ha,Nat.mod_eq_of_lt hb,wu8]
 omega
theorem en4 {a b:Nat} (ha:a < 256) (hb:b < 256):ad2 .and .u8 (a:Int) (b:Int)=((a &&& b:Nat):Int):=by
 unfold ad2
 show IntKind.wrap .u8 (((BitVec.ofInt 8 (a:Int) &&& BitVec.ofInt 8 (b:Int)).toNat:Nat):Int)=_
 have h:a &&& b≤a:=Nat.and_le_left
 rw [BitVec.toNat_and,BitVec.ofInt_natCast,BitVec.ofInt_natCast,BitVec.toNat_ofNat,BitVec.toNat_ofNat,Nat.mod_eq_of_lt ha,Nat.mod_eq_of_lt hb,wu8]
 omega
theorem ai6 (n:Int):((aa1 n).toNat:Int)=if 0≤n then n % 256 else 0:=by
 unfold aa1
 have:(n.toNat.toUInt8).toNat=n.toNat % 256:=by simp
 rw [this]
 split <;> omega
theorem aO1 (b:UInt8):aa1 (b.toNat:Int)=b:=by
 unfold aa1; simp
theorem aE5 {n:Int} (h:0≤n):aa1 (n % 256)=aa1 n:=by
 apply UInt8.toNat.inj
 have h1:=ai6 (n % 256); have h2:=ai6 n
 rw [if_pos (by omega)] at h1; rw [if_pos h] at h2; omega
theorem bG7 {a b:UInt8} (h:(a.toNat:Int)=b.toNat):a=b:=UInt8.toNat.inj (by omega)
def num (l:Bs):Int:=l.foldl (fun n b=>n * 256+(b.toNat:Int)) 0
theorem dQ4:∀ (l:Bs) (x:Int),0≤x→0≤l.foldl (fun n b=>n * 256+(b.toNat:Int)) x∧l.foldl (fun n b=>n * 256+(b.toNat:Int)) x < (x+1) * 256 ^ l.length
 | [],x,h=>by simp; omega
 | b::l,x,h=>by
  have hb:=b.toNat_lt
  obtain ⟨h1,h2⟩:=dQ4 l (x * 256+(b.toNat:Int)) (by omega)
  refine ⟨h1,Int.lt_of_lt_of_le h2 ?_⟩
  rw [List.length_cons,Int.pow_succ,Int.mul_comm (256 ^ l.length) 256,← Int.mul_assoc]
  exact Int.mul_le_mul_of_nonneg_right (by omega) (Int.pow_nonneg (by decide))
theorem aR4 (l:Bs):0≤num l∧num l < 256 ^ l.length:=by
 have:=dQ4 l 0 (by omega)
 rw [Int.zero_add,Int.one_mul] at this
 exact this
theorem bv9 (a:Bs) (b:UInt8):num (a++[b])=num a * 256+b.toNat:=by simp [num]
def be:Nat→Int→Bs
 | 0,_=>[]
 | k+1,n=>be k (n / 256)++[aa1 (n % 256)]
theorem ab6:∀ (k:Nat) (n:Int),(be k n).length=k
 | 0,_=>rfl
 | k+1,n=>by simp [be,ab6 k]
theorem ci9:∀ (k:Nat) (n:Int),0≤n→n < 256 ^ k→num (be k n)=n
 | 0,n,h,h2=>by simp at h2; simp [be,num]; omega
 | k+1,n,h,h2=>by
  rw [be,bv9,ci9 k (n / 256) (by omega) (by rw [Int.pow_succ] at h2; omega),ai6]
  omega
theorem dB9:∀ (k:Nat) (l:Bs),l.length=k→be k (num l)=l
 | 0,l,h=>by cases l with | nil=>rfl | cons=>simp at h
 | k+1,l,h=>by
  obtain ⟨a,b,rfl⟩:∃ a b,l=a++[b]:=⟨l.dropLast,l.getLast (by intro h2; subst h2; simp at h),(List.dropLast_concat_getLast _).symm⟩
  have ha:a.length=k:=by simpa using h
  have hb:=b.toNat_lt
  have h1:(num (a++[b])) / 256=num a:=by rw [bv9]; omega
  have h2:(num (a++[b])) % 256=b.toNat:=by rw [bv9]; omega
  rw [be,h1,h2,dB9 k a ha,aO1]
def aa2 (s:Bs) (p n:Int):Bs:=(s.take (p+n).toNat).drop p.toNat
theorem ah7 {s:Bs} {p n:Int} (h:0≤p) (h1:0≤n) (h2:p+n≤s.length):((aa2 s p n).length:Int)=n:=by
 simp [aa2]; omega
def bt (s:Bs) (i:Nat):Int:=((s[i]?.getD 0).toNat:Int)
theorem ae6 (s:Bs) (i:Nat):0≤bt s i∧bt s i < 256:=by unfold bt; have:=(s[i]?.getD 0).toNat_lt; omega
theorem ai5 {s:Bs} {i:Nat} (h:i < s.length):s[i]?=some (s[i]?.getD 0):=by simp [h]
theorem ag1 {α β:Type} {l:List α} {i:Nat} (h:i < l.length) (f:α→Option β):(l[i]?.bind f)=f (l[i]'h):=by simp [h]
end Go.VP
namespace Go.VP
open Go Go.VI
abbrev cu (s:Bs) (p q:Int) (b:Bool):ac1:=⟨s,p,q,b⟩
structure WfC (s:Bs) (p q:Int):Prop where
 lo:0≤p
 hi:p≤q
 top:q≤s.length
 sz:s.length≤1000000000000000
theorem bw0 (s:Bs):ak2 (s,())=some ((cu s 0 s.length false,()),()):=dy9 s
theorem en5 {s:Bs} {p q n:Int} (w:WfC s p q) (h:0≤n) (h2:p+n≤q):aD1 (cu s p q false,n,())=some ((cu s (p+n) q false,true,()),()):=by
 have:=w.lo; have:=w.hi; have:=w.top; have:=w.sz
 rw [ci0]; dsimp only
 rw [if_neg (by decide),if_neg (by simpa using h),w64 (by omega) (by omega),if_neg (by simp; omega),w64 (by omega) (by omega)]
theorem ed5 {s:Bs} {p q n:Int} {b:Bool} (w:WfC s p q) (h:b=true∨n < 0∨q - p < n):aD1 (cu s p q b,n,())=some ((cu s p q true,false,()),()):=by
 have:=w.lo; have:=w.hi; have:=w.top; have:=w.sz
 rw [ci0]; dsimp only
 rw [w64 (x:=q - p) (by omega) (by omega)]
 simp only [decide_eq_true_eq]
 split
 ·rfl
 ·split
  ·rfl
  ·rw [if_pos]
   simp_all
theorem ed6 {n:Nat} {r:(ac1 × Bool × Unit) × Unit} {l:Bs} (hl:l.length≤7):∀ (d i m:Nat) (x:Int),i+d=l.length→d < m→x=num (l.take i)→bb6 n m r x l l.length i=some ((num l,r.1.1,()),())
 | 0,i,m,x,h,hm,hx=>by
  obtain ⟨m,rfl⟩:∃ k,m=k+1:=⟨m - 1,by omega⟩
  rw [bV2,if_neg (by simp; omega),hx,List.take_of_length_le (by omega)]
 | d+1,i,m,x,h,hm,hx=>by
  obtain ⟨m,rfl⟩:∃ k,m=k+1:=⟨m - 1,by omega⟩
  have hi:i < l.length:=by omega
  have hp:=aR4 (l.take i)
  have hp2:(256:Int) ^ (l.take i).length≤256 ^ 6:=by
   have:(l.take i).length≤6:=by simp; omega
   generalize (l.take i).length=z at this
   match z,this with
   | 0,_ | 1,_ | 2,_ | 3,_ | 4,_ | 5,_ | 6,_=>decide
  have hp3:(256:Int) ^ 6=281474976710656:=by decide
  have hb:=(l[i]).toNat_lt
  rw [bV2,if_pos (by simp; omega),if_pos (by omega),Int.toNat_natCast,ag1 hi,bT0,hx,es5 (by omega) (by omega),w64 (by omega) (by omega)]
  have:=ed6 (r:=r) (n:=n) hl d (i+1) m (num (l.take i) * 256+(l[i].toNat:Int)) (by omega) (by omega) (by rw [List.take_succ_eq_append_getElem hi,bv9])
  rw [show ((i+1:Nat):Int)=(i:Int)+1 by omega] at this
  exact this
theorem as2 {s:Bs} {p q n:Int} (w:WfC s p q) (h:1≤n) (h7:n≤7) (h2:p+n≤q):ag8 (cu s p q false,n,())=some ((num (aa2 s p n),cu s (p+n) q false,()),()):=by
 have:=w.lo; have:=w.hi; have:=w.top; have:=w.sz
 have hl:=ah7 (s:=s) (p:=p) (n:=n) (by omega) (by omega) (by omega)
 show bt3 fuel _=_
 rw [cp0,if_neg (by simp; omega),if_neg (by simp; omega),en5 w (by omega) h2]
 rw [Option.bind_some]; dsimp only
 rw [if_neg (by decide),if_pos (by omega)]
 have:=ed6 (n:=fuel) (r:=((cu s (p+n) q false,true,()),())) (l:=aa2 s p n) (by omega) (aa2 s p n).length 0 fuel 0 (by omega) (ae2 (by omega)) rfl
 exact this
theorem bZ5 {s:Bs} {p q n:Int} {b:Bool} (w:WfC s p q) (h:1≤n) (h7:n≤7) (h2:b=true∨q < p+n):ag8 (cu s p q b,n,())=some ((0,cu s p q true,()),()):=by
 show bt3 fuel _=_
 rw [cp0,if_neg (by simp; omega),if_neg (by simp; omega),ed5 w (h2.imp id fun h=>.inr (by omega))]
 rfl
theorem av6 {s:Bs} {p q n:Int} (w:WfC s p q) (h:0≤n) (h2:p+n≤q):ae8 (cu s p q false,n,())=some ((aa2 s p n,cu s (p+n) q false,()),()):=by
 have:=w.lo; have:=w.hi; have:=w.top; have:=w.sz
 rw [ci1,en5 w (by omega) h2]
 rw [Option.bind_some]; dsimp only
 rw [if_neg (by decide),if_pos (by omega)]
 rfl
theorem bl0 {s:Bs} {p q n:Int} {b:Bool} (w:WfC s p q) (h:b=true∨n < 0∨q < p+n):ae8 (cu s p q b,n,())=some (([],cu s p q true,()),()):=by
 rw [ci1,ed5 w (h.imp id fun h=>h.imp id fun h=>by omega)]
 rfl
theorem df1 {s:Bs} {p q:Int} (w:WfC s p q):aw7 (cu s p q false,())=some ((q - p,()),()):=by
 have:=w.lo; have:=w.hi; have:=w.top; have:=w.sz
 rw [dp4]; dsimp only
 rw [w64 (by omega) (by omega)]
 rfl
theorem WfC.fwd {s:Bs} {p q n:Int} (w:WfC s p q) (h:0≤n) (h2:p+n≤q):WfC s (p+n) q:=⟨by have:=w.lo; omega,h2,w.top,w.sz⟩
theorem WfC.whole {s:Bs} (h:s.length≤1000000000000000):WfC s 0 s.length:=⟨by omega,by omega,by omega,h⟩
theorem cv9 {s:Bs} {p:Nat} (h:p+1≤s.length):num (aa2 s p 1)=bt s p:=by
 have e:aa2 s p 1=[s[p]]:=by
  unfold aa2
  rw [show ((p:Int)+1).toNat=p+1 by omega,Int.toNat_natCast,List.take_succ_eq_append_getElem (by omega),List.drop_append_of_le_length (by simp; omega)]
  simp [List.drop_take]
 rw [e]; simp [num,bt,List.getElem?_eq_getElem (show p < s.length by omega)]
theorem eJ9 {s:Bs} {p n:Nat} (h:p+n+1≤s.length):aa2 s p (n+1:Nat)=aa2 s p n++[s[p+n]'(by omega)]:=by
 unfold aa2
 rw [show ((p:Int)+((n+1:Nat):Int)).toNat=p+n+1 by omega,show ((p:Int)+(n:Int)).toNat=p+n by omega,Int.toNat_natCast,List.take_succ_eq_append_getElem (by omega),List.drop_append_of_le_length (by simp; omega)]
theorem ed7 {s:Bs} {p n:Nat} (h:p+n+1≤s.length):num (aa2 s p (n+1:Nat))=num (aa2 s p n) * 256+bt s (p+n):=by
 rw [eJ9 h,bv9]
 simp [bt,List.getElem?_eq_getElem (show p+n < s.length by omega)]
theorem eK0 {s:Bs} {p:Nat} (h:p+2≤s.length):num (aa2 s p 2)=bt s p * 256+bt s (p+1):=by
 have:=ed7 (s:=s) (p:=p) (n:=1) (by omega)
 rw [show ((1:Nat):Int)=1 from rfl,cv9 (by omega)] at this
 exact this
end Go.VP
namespace Go.VP
open Go Go.VI
theorem ifd {α:Sort _} {p:Prop} [d:Decidable p] {a b:α} (h:p):(if decide p=true then a else b)=a:=if_pos (decide_eq_true h)
theorem ifn {α:Sort _} {p:Prop} [d:Decidable p] {a b:α} (h:¬p):(if decide p=true then a else b)=b:=if_neg (by simpa using h)
theorem ift {α:Sort _} {a b:α}:(if true=true then a else b)=a:=rfl
theorem at2 {α:Sort _} {a b:α}:(if false=true then a else b)=b:=rfl
theorem ah3 {α:Sort _} {a b:α}:(if (!true)=true then a else b)=b:=rfl
theorem am5 {α:Sort _} {a b:α}:(if (!false)=true then a else b)=a:=rfl
def ac7 (n:Int) (k:Nat):Bool:=decide (0≤n∧n < 256 ^ k)
theorem fe5 (k:Nat):(2:Int) ^ (8 * k)=256 ^ k:=by rw [Int.pow_mul]; rfl
theorem ar3 {n:Int} {k:Nat} (hn:IntKind.has .i64 n) (h1:1≤k) (h7:k≤7):ab1 (n,(k:Int),())=some ((ac7 n k,()),()):=by
 rw [af2] at hn
 rw [dz4,ifd (by omega),ifd (by omega)]
 by_cases h0:0≤n
 ·rw [ifd h0,w64 (x:=8 * (k:Int)) (by omega) (by omega),eJ8 (by omega) (by omega),if_pos (by omega)]
  have e:ac8 .i64 n (8 * (k:Int))=n / 256 ^ k:=by
   unfold ac8
   rw [show min (8 * (k:Int)).toNat IntKind.i64.bits=8 * k by simp only [IntKind.bits]; omega,fe5]
   exact Int.fdiv_eq_ediv_of_nonneg _ (Int.pow_nonneg (by decide))
  have hp:(0:Int) < 256 ^ k:=Int.pow_pos (by decide)
  rw [e]
  unfold ac7
  by_cases hlt:n < 256 ^ k
  ·rw [Int.ediv_eq_zero_of_lt h0 hlt]; simp [h0,hlt]
  ·have:1≤n / 256 ^ k:=Int.le_ediv_of_mul_le hp (by omega)
   have h2:(n / 256 ^ k==0)=false:=by simp; omega
   rw [h2]; simp [hlt]
 ·rw [ifn h0]; simp [ac7,h0]
def db4 (n:Int) (k:Nat):Bs × Bool:=if ac7 n k=true then (be k n,true) else ([],false)
end Go.VP
namespace Go.VP
open Go Go.VI
def dC0:List (List UInt8):=[[],[114,105,112],[110,103],[114,114,101,113],[114,114,101,112],[114,101,114,114],[114,114,101,112,97,99,107],[97,99,107,114,101,113],[97,99,107],[104,101,108,108,111],[105,104,117],[117,112,100,97,116,101],[114,111,117,116,101,114,101,113],[115,101,113,110,111,114,101,113],[111,112,97,113,117,101]]
def wordM (k:Int):List UInt8:=if 1≤k∧k≤14 then dC0.getD k.toNat [] else []
def dC1 (s:List UInt8):Nat→Nat→Int
 | 0,_=>0
 | r+1,k=>if wordM (k:Int)=s then (k:Int) else dC1 s r (k+1)
def kindW (s:List UInt8):Int:=dC1 s 14 1
theorem kword_is (k:Int):cv3 (k,())=some ((wordM k,()),()):=by
 rw [dJ1]
 unfold wordM
 by_cases h0:k < 1
 ·rw [ifd h0,if_neg (by omega)]
 ·rw [ifn h0]
  by_cases h1:14 < k
  ·rw [ifd h1,if_neg (by omega)]
  ·rw [ifn h1,dA3,Option.bind_some,if_pos (show 0≤k∧k < 15 by omega),if_pos (show 1≤k∧k≤14 by omega)]
   have:k=1∨k=2∨k=3∨k=4∨k=5∨k=6∨k=7∨k=8∨k=9∨k=10∨k=11∨k=12∨k=13∨k=14:=by omega
   rcases this with rfl | rfl | rfl | rfl | rfl | rfl | rfl | rfl | rfl | rfl | rfl | rfl | rfl | rfl <;> rfl
theorem dq9 (s:List UInt8):∀ (r k:Nat),k+r=15→0 < k→(∃ j:Nat,k≤j∧j≤14∧wordM (j:Int)=s∧dC1 s r k=(j:Int))∨((∀ j:Nat,k≤j→j≤14→wordM (j:Int)≠s)∧dC1 s r k=0)
 | 0,k,h,_=>.inr ⟨fun j h1 h2=>by omega,rfl⟩
 | r+1,k,h,h0=>by
  unfold dC1
  by_cases hw:wordM (k:Int)=s
  ·rw [if_pos hw]; exact .inl ⟨k,Nat.le_refl _,by omega,hw,rfl⟩
  ·rw [if_neg hw]
   rcases dq9 s r (k+1) (by omega) (by omega) with ⟨j,h1,h2,h3,h4⟩ | ⟨h1,h2⟩
   ·exact .inl ⟨j,by omega,h2,h3,h4⟩
   ·refine .inr ⟨fun j h3 h4=>?_,h2⟩
    by_cases hj:j=k
    ·subst hj; exact hw
    ·exact h1 j (by omega) h4
theorem ek8:∀ i:Fin 15,∀ j:Fin 15,dC0.getD i.1 []=dC0.getD j.1 []→i=j:=by decide
theorem ek9 {i j:Nat} (hi:1≤i∧i≤14) (hj:1≤j∧j≤14) (h:wordM (i:Int)=wordM (j:Int)):i=j:=by
 unfold wordM at h
 rw [if_pos (by omega),if_pos (by omega)] at h
 have:=ek8 ⟨i,by omega⟩ ⟨j,by omega⟩ h
 exact congrArg Fin.val this
theorem es6:∀ i:Fin 15,(dC0.getD i.1 []).length≤9:=by decide
theorem wordM_len (k:Int):(wordM k).length≤9:=by
 unfold wordM
 split
 ·have:=es6 ⟨k.toNat,by omega⟩; exact this
 ·simp
def kindT (s:List UInt8):Nat→Int
 | 0=>0
 | n+1=>if wordM ((n+1:Nat):Int)=s then ((n+1:Nat):Int) else kindT s n
theorem ed8 (s:List UInt8):∀ n:Nat,n≤14→(∃ j:Nat,1≤j∧j≤n∧wordM (j:Int)=s∧kindT s n=(j:Int))∨((∀ j:Nat,1≤j→j≤n→wordM (j:Int)≠s)∧kindT s n=0)
 | 0,_=>.inr ⟨fun j h1 h2=>by omega,rfl⟩
 | n+1,h=>by
  unfold kindT
  by_cases hw:wordM ((n+1:Nat):Int)=s
  ·rw [if_pos hw]; exact .inl ⟨n+1,by omega,Nat.le_refl _,hw,rfl⟩
  ·rw [if_neg hw]
   rcases ed8 s n (by omega) with ⟨j,h1,h2,h3,h4⟩ | ⟨h1,h2⟩
   ·exact .inl ⟨j,h1,by omega,h3,h4⟩
   ·refine .inr ⟨fun j h3 h4=>?_,h2⟩
    by_cases hj:j=n+1
    ·subst hj; exact hw
    ·exact h1 j h3 (by omega)
theorem kindT_W (s:List UInt8):kindT s 14=kindW s:=by
 unfold kindW
 rcases ed8 s 14 (Nat.le_refl _) with ⟨j,h1,h2,h3,h4⟩ | ⟨h1,h2⟩
 ·rcases dq9 s 14 1 rfl (by omega) with ⟨i,k1,k2,k3,k4⟩ | ⟨k1,k2⟩
  ·rw [h4,k4,ek9 ⟨h1,h2⟩ ⟨k1,k2⟩ (h3.trans k3.symm)]
  ·exact absurd h3 (k1 j h1 h2)
 ·rcases dq9 s 14 1 rfl (by omega) with ⟨i,k1,k2,k3,k4⟩ | ⟨k1,k2⟩
  ·exact absurd k3 (h1 i k1 k2)
  ·rw [h2,k2]
end Go.VP
namespace Go.VP
open Go Go.VI
abbrev Tlv:=ac9
abbrev Sub:=aa7
theorem fd3:cF7≤100:=Nat.le_of_ble_eq_true (by kernel_rfl)
theorem eR4:bW4≤100:=Nat.le_of_ble_eq_true (by kernel_rfl)
theorem cj0 {a b:Nat} (h:a≤300000000000) (hb:b≤100):ag7 (a * b)=true:=by
 refine ah6 ?_
 have:a * b≤300000000000 * 100:=Nat.mul_le_mul h hb
 omega
def au5 (t:Int) (d:Bs):Bs × Bool:=if 1≤t∧t≤255∧d.length≤255 then (aa1 t::aa1 d.length::d,true) else ([],false)
theorem dQ5 (n:Int) (h:0≤n):aa1 (n % 256)=aa1 n:=by
 apply bG7; rw [ai6,ai6,if_pos (by omega),if_pos h]; omega
theorem bc4 (t:Int) (d:Bs):ah4 (t,d,())=some (((au5 t d).1,(au5 t d).2,()),()):=by
 rw [dJ4]
 unfold au5
 by_cases h1:t < 1
 ·rw [if_pos (by simpa using h1),if_neg (by omega)]
 ·rw [if_neg (by simpa using h1)]
  by_cases h2:255 < t
  ·rw [if_pos (by simpa using h2),if_neg (by omega)]
  ·rw [if_neg (by simpa using h2)]
   by_cases h3:(255:Int) < d.length
   ·rw [if_pos (by simpa using h3),if_neg (by omega)]
   ·have hh:1≤t∧t≤255∧d.length≤255:=by omega
    rw [if_neg (by simpa using h3),if_pos hh,wu8,wu8,dQ5 _ (by omega),dQ5 _ (by omega),if_pos (af7 (by simp; omega))]
    rfl
def spl (p:Int) (s:Bs):Except Int (List Tlv):=
 match s with
 | []=>.ok []
 | t::r=>
  if t=0 then (spl (p+1) r).map (⟨0,p,[]⟩::·)
  else match r with
   | []=>.error p
   | n::d=>if d.length < n.toNat then .error p else (spl (p+2+n.toNat) (d.drop n.toNat)).map (⟨t.toNat,p,d.take n.toNat⟩::·)
termination_by s.length
decreasing_by all_goals (simp_wf; try omega)
def aK6 (acc:List Tlv):Except Int (List Tlv)→List Tlv × Int × Int
 | .ok l=>(acc++l,0,0)
 | .error q=>([],q,2)
theorem dC2 (acc:List Tlv) (x:Tlv) (r:Except Int (List Tlv)):aK6 acc (r.map (x::·))=aK6 (acc++[x]) r:=by
 cases r <;> simp [aK6,Except.map]
abbrev ag4 {α β γ:Type} (x:α × β × γ):α × β × γ × Unit:=(x.1,x.2.1,x.2.2,())
theorem eA2 {s:Bs} {p:Nat} (w:WfC s p s.length) (h:p < s.length) (hz:s[p]=0):aB1 (cu s p s.length false,())=some ((⟨0,p,[]⟩,cu s (p+1) s.length false,()),()):=by
 rw [aU6,as2 w (by omega) (by omega) (by omega),Option.bind_some]
 have e:num (aa2 s p 1)=0:=by rw [cv9 (by omega),bt]; simp [h,hz]
 dsimp only
 rw [e]; rfl
theorem eK1 {s:Bs} {p:Nat} (w:WfC s p s.length) (h:p+1=s.length) (hz:s[p]≠0):∃ t,aB1 (cu s p s.length false,())=some ((t,cu s (p+1) s.length true,()),())∧t.at_=p:=by
 have e:(num (aa2 s p 1)==0)=false:=by
  rw [cv9 (by omega),bt,List.getElem?_eq_getElem (by omega),Option.getD_some]
  simp
  intro h2; exact hz (UInt8.toNat.inj h2)
 have e2:((s.length:Nat):Int)=(p:Int)+1:=by omega
 rw [aU6,as2 w (by omega) (by omega) (by omega),Option.bind_some]
 dsimp only
 rw [e,if_neg (by decide),bZ5 (w.fwd (by omega) (by omega)) (by omega) (by omega) (.inr (by omega)),Option.bind_some]
 dsimp only
 rw [bl0 (w.fwd (by omega) (by omega)) (.inl rfl),Option.bind_some]
 exact ⟨_,rfl,rfl⟩
theorem eK2 {s:Bs} {p:Nat} (w:WfC s p s.length) (h:p+1 < s.length) (hz:s[p]≠0) (hb:s.length < p+2+s[p+1].toNat):∃ t,aB1 (cu s p s.length false,())=some ((t,cu s (p+2) s.length true,()),())∧t.at_=p:=by
 have e:(num (aa2 s p 1)==0)=false:=by
  rw [cv9 (by omega),bt,List.getElem?_eq_getElem (by omega),Option.getD_some]
  simp
  intro h2; exact hz (UInt8.toNat.inj h2)
 have e2:num (aa2 s ((p:Int)+1) 1)=s[p+1].toNat:=by
  rw [show ((p:Int)+1)=((p+1:Nat):Int) by omega,cv9 (by omega),bt,List.getElem?_eq_getElem (by omega),Option.getD_some]
 rw [aU6,as2 w (by omega) (by omega) (by omega),Option.bind_some]
 dsimp only
 rw [e,if_neg (by decide),as2 (w.fwd (by omega) (by omega)) (by omega) (by omega) (by omega),Option.bind_some]
 dsimp only
 rw [e2,Int.add_assoc,bl0 (w.fwd (by omega) (by omega)) (.inr (.inr (by omega))),Option.bind_some]
 exact ⟨_,rfl,rfl⟩
theorem eK3 {s:Bs} {p:Nat} (w:WfC s p s.length) (h:p+1 < s.length) (hz:s[p]≠0) (hb:p+2+s[p+1].toNat≤s.length):aB1 (cu s p s.length false,())=some ((⟨s[p].toNat,p,(s.drop (p+2)).take s[p+1].toNat⟩,cu s ((p+2+s[p+1].toNat:Nat):Int) s.length false,()),()):=by
 have e0:num (aa2 s p 1)=s[p].toNat:=by
  rw [cv9 (by omega),bt,List.getElem?_eq_getElem (by omega),Option.getD_some]
 have e:(((s[p].toNat:Nat):Int)==0)=false:=by
  simp
  intro h2; exact hz (UInt8.toNat.inj h2)
 have e2:num (aa2 s ((p:Int)+1) 1)=s[p+1].toNat:=by
  rw [show ((p:Int)+1)=((p+1:Nat):Int) by omega,cv9 (by omega),bt,List.getElem?_eq_getElem (by omega),Option.getD_some]
 rw [aU6,as2 w (by omega) (by omega) (by omega),Option.bind_some]
 dsimp only
 rw [e0,e,if_neg (by decide),as2 (w.fwd (by omega) (by omega)) (by omega) (by omega) (by omega),Option.bind_some]
 dsimp only
 rw [e2,Int.add_assoc,av6 (w.fwd (by omega) (by omega)) (by omega) (by omega),Option.bind_some]
 have e3:aa2 s ((p:Int)+(1+1)) (s[p+1].toNat:Int)=(s.drop (p+2)).take s[p+1].toNat:=by
  unfold aa2
  rw [show ((p:Int)+(1+1)+(s[p+1].toNat:Int)).toNat=p+2+s[p+1].toNat by omega,show ((p:Int)+(1+1)).toNat=p+2 by omega,List.take_add,List.drop_append_of_le_length (by simp; omega)]
  simp
 dsimp only
 rw [e3,show ((p:Int)+(1+1)+(s[p+1].toNat:Int))=((p+2+s[p+1].toNat:Nat):Int) by omega]
theorem aD3 (p:Int):spl p []=.ok []:=by rw [spl.eq_def]
theorem bl1 {p:Int} {r:Bs}:spl p (0::r)=(spl (p+1) r).map (⟨0,p,[]⟩::·):=by rw [spl.eq_def]; rfl
theorem bZ6 {p:Int} {t:UInt8} (h:t≠0):spl p [t]=.error p:=by rw [spl.eq_def]; simp [h]
theorem bZ7 {p:Int} {t n:UInt8} {d:Bs} (h:t≠0) (h2:d.length < n.toNat):spl p (t::n::d)=.error p:=by rw [spl.eq_def]; simp [h,h2]
theorem bc5 {p:Int} {t n:UInt8} {d:Bs} (h:t≠0) (h2:n.toNat≤d.length):spl p (t::n::d)=(spl (p+2+n.toNat) (d.drop n.toNat)).map (⟨t.toNat,p,d.take n.toNat⟩::·):=by
 rw [spl.eq_def]; simp only [h,if_false]; rw [if_neg (by omega)]
theorem eR5 {s:Bs} {p:Nat} (h:p+1 < s.length):s.drop p=s[p]::s[p+1]::s.drop (p+2):=by
 rw [List.drop_eq_getElem_cons (by omega),List.drop_eq_getElem_cons (i:=p+1) (by omega)]
theorem es7 {s:Bs} {base:Int} {n:Nat} (hs:s.length≤1000000000) (hb:0≤base∧base≤1152921504606846976):∀ (d m p:Nat) (acc:List Tlv),p≤s.length→s.length - p≤d→d < m→acc.length≤p→
  aT9 n m base acc s p s.length false=some (ag4 (aK6 acc (spl (base+p) (s.drop p))),()):=by
 intro d
 induction d with
 | zero=>
  intro m p acc h1 h2 hk ha
  obtain ⟨m,rfl⟩:∃ k,m=k+1:=⟨m - 1,by omega⟩
  have w:WfC s p s.length:=⟨by omega,by omega,by omega,by omega⟩
  rw [bL3,df1 w,Option.bind_some]
  dsimp only
  rw [if_neg (by simp; omega),List.drop_eq_nil_of_le (by omega),aD3]
  simp [aK6,ag4]
 | succ d ih=>
  intro m p acc h1 h2 hk ha
  obtain ⟨m,rfl⟩:∃ k,m=k+1:=⟨m - 1,by omega⟩
  have w:WfC s p s.length:=⟨by omega,by omega,by omega,by omega⟩
  rw [bL3,df1 w,Option.bind_some]
  dsimp only
  by_cases hp:p < s.length
  ·rw [if_pos (by simp; omega)]
   have hroom:∀ x:Tlv,ag7 ((acc.length + [x].length) * cF7)=true:=fun x=>cj0 (by simp; omega) fd3
   by_cases hz:s[p]=0
   ·rw [eA2 w hp hz,Option.bind_some]
    dsimp only
    rw [if_neg (by decide),if_pos (hroom _),w64 (by omega) (by omega),List.drop_eq_getElem_cons hp,hz,bl1,dC2]
    have:=ih m (p+1) (acc++[⟨0,base+p,[]⟩]) (by omega) (by omega) (by omega) (by simp; omega)
    rw [show ((p+1:Nat):Int)=(p:Int)+1 by omega] at this
    rw [show (p:Int)+base=base+p by omega,this,Int.add_assoc]
   ·by_cases h3:p+1=s.length
    ·obtain ⟨t,e,et⟩:=eK1 w h3 hz
     rw [e,Option.bind_some]
     dsimp only
     rw [if_pos rfl,et,w64 (by omega) (by omega),List.drop_eq_getElem_cons hp,List.drop_eq_nil_of_le (by omega),bZ6 hz]
     simp [aK6,ag4]; omega
    ·have h4:p+1 < s.length:=by omega
     by_cases h5:p+2+s[p+1].toNat≤s.length
     ·rw [eK3 w h4 hz h5,Option.bind_some]
      dsimp only
      rw [if_neg (by decide),if_pos (hroom _),w64 (by omega) (by omega),eR5 h4,bc5 hz (by simp; omega),dC2]
      have:=ih m (p+2+s[p+1].toNat) (acc++[⟨s[p].toNat,base+p,(s.drop (p+2)).take s[p+1].toNat⟩]) (by omega) (by omega) (by omega) (by simp; omega)
      rw [show (p:Int)+base=base+p by omega,this,List.drop_drop]
      congr 4
      congr 1
      omega
     ·obtain ⟨t,e,et⟩:=eK2 w h4 hz (by omega)
      rw [e,Option.bind_some]
      dsimp only
      rw [if_pos rfl,et,w64 (by omega) (by omega),eR5 h4,bZ7 hz (by simp; omega)]
      simp [aK6,ag4]; omega
  ·rw [if_neg (by simp; omega),List.drop_eq_nil_of_le (by omega),aD3]
   simp [aK6,ag4]
theorem dr0 {s:Bs} {base:Int} (hs:s.length≤1000000000) (hb:0≤base∧base≤1152921504606846976):aw8 (s,base,())=some (ag4 (aK6 [] (spl base s)),()):=by
 show bR7 fuel _=_
 rw [dq2,bw0,Option.bind_some]
 have:=es7 (n:=fuel) hs hb s.length fuel 0 [] (by omega) (by omega) (ae2 (by omega)) (by simp)
 simpa using this
end Go.VP
namespace Go.VP
open Go Go.VI
def al0:List Sub→Int
 | []=>0
 | y::l=>2+(y.data.length:Int)+al0 l
def aB5 (l:List Sub):Prop:=l.length≤1000000000∧∀ y∈l,y.data.length≤300
theorem aB5.tail {y:Sub} {l:List Sub} (h:aB5 (y::l)):aB5 l:=⟨by have:=h.1; simp at this; omega,fun z hz=>h.2 z (List.mem_cons_of_mem _ hz)⟩
theorem aB5.drop {l:List Sub} (h:aB5 l) (i:Nat):aB5 (l.drop i):=⟨by have:=h.1; simp; omega,fun y hy=>h.2 y (List.mem_of_mem_drop hy)⟩
theorem dr1:∀ {l:List Sub},aB5 l→0≤al0 l∧al0 l≤302 * l.length
 | [],_=>by simp [al0]
 | y::l,h=>by
  have:=dr1 h.tail
  have hy:=h.2 y (List.mem_cons_self ..)
  simp only [al0,List.length_cons]
  omega
theorem es8 {l:List Sub} {n:Nat} (hl:aB5 l):∀ (d m i:Nat) (acc:Int),i+d=l.length→d < m→0≤acc→acc≤302 * i→
  bi2 n m l acc i=some ((acc+al0 (l.drop i),()),()):=by
 have h1:=hl.1
 intro d
 induction d with
 | zero=>
  intro m i acc hd hm h2 h3
  obtain ⟨m,rfl⟩:∃ k,m=k+1:=⟨m - 1,by omega⟩
  rw [ci6,ifn (by omega),List.drop_eq_nil_of_le (by omega)]
  simp [al0]
 | succ d ih=>
  intro m i acc hd hm h2 h3
  obtain ⟨m,rfl⟩:∃ k,m=k+1:=⟨m - 1,by omega⟩
  have hlt:i < l.length:=by omega
  have hy:=hl.2 l[i] (List.getElem_mem hlt)
  rw [ci6,ifd (by omega),if_pos (by omega),Int.toNat_natCast,ag1 hlt,w64 (x:=2+(l[i].data.length:Int)) (by omega) (by omega),w64 (x:=acc+(2+(l[i].data.length:Int))) (by omega) (by omega),w64 (x:=(i:Int)+1) (by omega) (by omega)]
  have:=ih m (i+1) (acc+(2+(l[i].data.length:Int))) (by omega) (by omega) (by omega) (by omega)
  rw [show ((i+1:Nat):Int)=(i:Int)+1 by omega] at this
  rw [this,List.drop_eq_getElem_cons hlt,al0,Int.add_assoc]
theorem dr2 {l:List Sub} (hl:aB5 l):aQ9 (l,())=some ((al0 l,()),()):=by
 show cs9 fuel _=_
 have:=hl.1
 rw [dI8]
 have:=es8 (n:=fuel) hl l.length fuel 0 0 (by omega) (ae2 (by omega)) (by omega) (by omega)
 simpa using this
def be9 (lo hi:Int) (y:Sub):Bool:=decide (lo≤y.type_∧y.type_≤hi∧y.data.length≤255)
theorem eA3 {l:List Sub} {n:Nat} (h1:l.length≤1000000000) (lo hi:Int):∀ (d m i:Nat),i+d=l.length→d < m→
  bq6 n m lo hi l i=some (((l.drop i).all (be9 lo hi),()),()):=by
 intro d
 induction d with
 | zero=>
  intro m i hd hm
  obtain ⟨m,rfl⟩:∃ k,m=k+1:=⟨m - 1,by omega⟩
  rw [cp1,ifn (by omega),List.drop_eq_nil_of_le (by omega)]
  rfl
 | succ d ih=>
  intro m i hd hm
  obtain ⟨m,rfl⟩:∃ k,m=k+1:=⟨m - 1,by omega⟩
  have hlt:i < l.length:=by omega
  have:=ih m (i+1) (by omega) (by omega)
  rw [show ((i+1:Nat):Int)=(i:Int)+1 by omega] at this
  rw [cp1,ifd (by omega),if_pos (by omega),Int.toNat_natCast,ag1 hlt,w64 (x:=(i:Int)+1) (by omega) (by omega),this,List.drop_eq_getElem_cons hlt,List.all_cons]
  by_cases a:l[i].type_ < lo
  ·rw [ifd a,show be9 lo hi l[i]=false by simp [be9]; omega]; rfl
  ·rw [ifn a]
   by_cases b:hi < l[i].type_
   ·rw [ifd b,show be9 lo hi l[i]=false by simp [be9]; omega]; rfl
   ·rw [ifn b]
    by_cases c:(255:Int) < l[i].data.length
    ·rw [ifd c,show be9 lo hi l[i]=false by simp [be9]; omega]; rfl
    ·rw [ifn c,show be9 lo hi l[i]=true by simp [be9]; omega,Bool.true_and]
theorem en6 {l:List Sub} (h1:l.length≤1000000000) (lo hi:Int):bW6 (l,lo,hi,())=some ((l.all (be9 lo hi),()),()):=by
 show cF9 fuel _=_
 rw [dV7]
 exact eA3 (n:=fuel) h1 lo hi l.length fuel 0 (by omega) (ae2 (by omega))
def aq2 (l:List Sub):Bool:=l.all (be9 2 127) && decide (al0 l≤200)
theorem cp3 {l:List Sub} (hl:aB5 l):aF3 (l,())=some ((aq2 l,()),()):=by
 rw [dI9,en6 hl.1,Option.bind_some,dr2 hl]
 unfold aq2
 dsimp only
 cases l.all (be9 2 127) <;> rfl
def ab5:List Sub→Bs
 | []=>[]
 | y::l=>aa1 y.type_::aa1 y.data.length::(y.data++ab5 l)
def bD9 (l:List Sub):Prop:=∀ y∈l,2≤y.type_∧y.type_≤127∧y.data.length≤255
theorem ed9 {l:List Sub}:l.all (be9 2 127)=true↔bD9 l:=by simp [be9,bD9]
theorem eZ7 {y:Sub} (h:2≤y.type_∧y.type_≤127∧y.data.length≤255):au5 y.type_ y.data=(aa1 y.type_::aa1 y.data.length::y.data,true):=by
 unfold au5; rw [if_pos (by omega)]
theorem aR5:∀ (l:List Sub),((ab5 l).length:Int)=al0 l
 | []=>rfl
 | y::l=>by have:=aR5 l; simp [ab5,al0]; omega
theorem eA4 {l:List Sub} {n:Nat} (hr:bD9 l) (h1:l.length≤1000000):∀ (d m i:Nat) (acc:Bs),i+d=l.length→d < m→acc.length≤257 * i→
  bG1 n m l acc i=some ((acc++ab5 (l.drop i),true,()),()):=by
 intro d
 induction d with
 | zero=>
  intro m i acc hd hm ha
  obtain ⟨m,rfl⟩:∃ k,m=k+1:=⟨m - 1,by omega⟩
  rw [cB9,ifn (by omega),List.drop_eq_nil_of_le (by omega),ab5,List.append_nil]
 | succ d ih=>
  intro m i acc hd hm ha
  obtain ⟨m,rfl⟩:∃ k,m=k+1:=⟨m - 1,by omega⟩
  have hlt:i < l.length:=by omega
  have hy:=hr l[i] (List.getElem_mem hlt)
  have:=ih m (i+1) (acc++(aa1 l[i].type_::aa1 l[i].data.length::l[i].data)) (by omega) (by omega) (by simp; omega)
  rw [show ((i+1:Nat):Int)=(i:Int)+1 by omega] at this
  rw [cB9,ifd (by omega),if_pos (by omega),Int.toNat_natCast,ag1 hlt,bc4,eZ7 hy,Option.bind_some]
  dsimp only
  rw [if_pos (ah6 (by simp; omega)),w64 (by omega) (by omega),this,List.drop_eq_getElem_cons hlt,ab5]
  simp
def ee0 (l:List Sub):Bs × Bool:=if aq2 l=true then (ab5 l,true) else ([],false)
theorem aK7 {l:List Sub} (h:aq2 l=true):bD9 l∧al0 l≤200:=by
 simp only [aq2,Bool.and_eq_true,ed9,decide_eq_true_eq] at h; exact h
theorem dK4 {l:List Sub} (hl:aB5 l) (h1:l.length≤1000000):ar5 (l,())=some (((ee0 l).1,(ee0 l).2,()),()):=by
 show cW6 fuel _=_
 rw [ed3,cp3 hl,Option.bind_some]
 unfold ee0
 dsimp only
 by_cases h:aq2 l=true
 ·have:=eA4 (n:=fuel) (aK7 h).1 h1 l.length fuel 0 [] (by omega) (ae2 (by omega)) (by simp)
  rw [show ((0:Nat):Int)=0 from rfl] at this
  rw [h,ah3,this,ift]
  simp
 ·rw [Bool.not_eq_true] at h
  rw [h,am5,at2]
def keep:List Tlv→List Sub
 | []=>[]
 | t::l=>if 2≤t.type_∧t.type_≤127 then ⟨t.type_,t.data⟩::keep l else keep l
def dr3 (l:List Tlv):Bool:=l.all fun t=>decide (t.type_≤127)
theorem cp4 (t:Tlv) (l:List Tlv):dr3 (t::l)=(decide (t.type_≤127) && dr3 l):=rfl
theorem dn2:∀ (l:List Tlv),(keep l).length≤l.length
 | []=>Nat.le_refl _
 | t::l=>by have:=dn2 l; simp only [keep]; split <;> simp <;> omega
def dr4 (acc:List Sub) (b:Bool):List Sub × Bool × Int:=if 200 < al0 acc then ([],false,10) else (acc,b,0)
def dC3 (l:List Tlv):Prop:=∀ t∈l,t.data.length≤255
theorem eT8 {acc:List Sub} {b:Bool} (hl:aB5 acc):(aQ9 (acc,())).bind (fun r3=>(if (decide (200 < r3.1.1))=true then some (([],false,10,()),()) else some ((acc,b,0,()),())))=some (ag4 (dr4 acc b),()):=by
 rw [dr2 hl,Option.bind_some]
 unfold dr4
 by_cases h:200 < al0 acc
 ·rw [ifd h,if_pos h]
 ·rw [ifn h,if_neg h]
theorem aB5.app {a b:List Sub} (h:∀ y∈a,y.data.length≤300) (h2:∀ y∈b,y.data.length≤300) (h3:a.length+b.length≤1000000000):aB5 (a++b):=
 ⟨by simpa using h3,fun y hy=>(List.mem_append.1 hy).elim (h y) (h2 y)⟩
theorem eA5 {l:List Tlv} {x:Int × Int × Unit} {n:Nat} (hs:dC3 l) (h1:l.length≤1000000):∀ (d m i:Nat) (acc:List Sub) (b:Bool),i+d=l.length→d < m→acc.length≤i→(∀ y∈acc,y.data.length≤300)→
  aF5 n m ((l,x),()) acc b i=some (ag4 (dr4 (acc++keep (l.drop i)) (b && dr3 (l.drop i))),()):=by
 intro d
 induction d with
 | zero=>
  intro m i acc b hd hm ha hb
  obtain ⟨m,rfl⟩:∃ k,m=k+1:=⟨m - 1,by omega⟩
  rw [cC1]
  dsimp only
  rw [ifn (by omega),List.drop_eq_nil_of_le (by omega),eT8 ⟨by omega,hb⟩]
  simp [keep,dr3]
 | succ d ih=>
  intro m i acc b hd hm ha hb
  obtain ⟨m,rfl⟩:∃ k,m=k+1:=⟨m - 1,by omega⟩
  have hlt:i < l.length:=by omega
  have hy:=hs l[i] (List.getElem_mem hlt)
  have hroom:∀ x:Sub,ag7 ((acc.length + [x].length) * bW4)=true:=fun x=>cj0 (by simp; omega) eR4
  rw [cC1]
  dsimp only
  rw [ifd (by omega),if_pos (by omega),Int.toNat_natCast,ag1 hlt,w64 (by omega) (by omega),List.drop_eq_getElem_cons hlt]
  have e:(i:Int)+1=((i+1:Nat):Int):=by omega
  rw [e]
  by_cases c1:128≤l[i].type_
  ·rw [ifd c1,ih m (i+1) acc false (by omega) (by omega) (by omega) hb,keep,if_neg (by omega),cp4,decide_eq_false (by omega)]
   simp
  ·rw [ifn c1]
   have h127:l[i].type_≤127:=by omega
   by_cases c2:2≤l[i].type_
   ·rw [ifd c2,if_pos (hroom _),ih m (i+1) (acc++[⟨l[i].type_,l[i].data⟩]) b (by omega) (by omega) (by simp; omega) (fun y hy'=>(List.mem_append.1 hy').elim (hb y) (fun h=>by simp at h; subst h; dsimp only; omega)),keep,if_pos ⟨c2,h127⟩,cp4,decide_eq_true h127]
    simp
   ·rw [ifn c2,ih m (i+1) acc b (by omega) (by omega) (by omega) hb,keep,if_neg (by omega),cp4,decide_eq_true h127]
    simp
def ar7 (s:Bs):List Sub × Bool × Int:=
 match spl 0 s with
 | .ok l=>dr4 (keep l) (dr3 l)
 | .error _=>([],false,2)
theorem db5 (s:Bs):∀ (p:Int) (l:List Tlv),spl p s=.ok l→dC3 l∧l.length≤s.length:=by
 match s with
 | []=>intro p l h; rw [aD3] at h; injection h with h; subst h; exact ⟨fun t h=>by simp at h,Nat.le_refl _⟩
 | t::r=>
  intro p l h
  have go:∀ (q:Int) (x:Tlv) (r':Bs),r'.length < (t::r).length→x.data.length≤255→(spl q r').map (x::·)=.ok l→dC3 l∧l.length≤(t::r).length:=by
   intro q x r' hr hx h
   cases hm:spl q r' with
   | error e=>rw [hm] at h; cases h
   | ok l'=>
    rw [hm] at h
    injection h with h
    subst h
    obtain ⟨a,b⟩:=db5 r' q l' hm
    exact ⟨fun y hy=>(List.mem_cons.1 hy).elim (fun h=>by subst h; exact hx) (a y),by simp only [List.length_cons] at *; omega⟩
  by_cases ht:t=0
  ·subst ht
   rw [bl1] at h
   exact go _ _ _ (by simp) (by simp) h
  ·match r with
   | []=>rw [bZ6 ht] at h; cases h
   | n::d=>
    by_cases hn:d.length < n.toNat
    ·rw [bZ7 ht hn] at h; cases h
    ·rw [bc5 ht (by omega)] at h
     have:=n.toNat_lt
     exact go _ _ _ (by simp; omega) (by simp; omega) h
termination_by s.length
theorem bZ8 {s:Bs} (h:s.length≤1000000):az8 (s,())=some (ag4 (ar7 s),()):=by
 show cY9 fuel _=_
 rw [ed4,dr0 (by omega) (by omega),Option.bind_some]
 unfold ar7
 cases hm:spl 0 s with
 | error e=>rfl
 | ok l=>
  obtain ⟨h1,h2⟩:=db5 s 0 l hm
  have:=eA5 (x:=(0,0,())) (n:=fuel) h1 (by omega) l.length fuel 0 [] true (by omega) (ae2 (by omega)) (by simp) (by simp)
  show aF5 fuel fuel ((l,0,0,()),()) [] true 0=_
  simpa using this
end Go.VP
namespace Go.VP
open Go Go.VI
abbrev Msg:=aa0
abbrev aY0:=af5
theorem ab9 {α R:Type} [BEq α] [LawfulBEq α] {x y:α} {f t r:R} (hne:x≠y→f=r) (heq:x=y→t=r):(if (x != y)=true then f else t)=r:=by
 by_cases h:x=y
 ·rw [if_neg (by simp [h])]; exact heq h
 ·rw [if_pos (by simp [h])]; exact hne h
theorem dK5 {α R:Type} [BEq α] [LawfulBEq α] {x y:α} {f t r:R} (hne:x≠y→f=r) (heq:x=y→t=r):(if (!(x==y))=true then f else t)=r:=ab9 hne heq
open Classical in
noncomputable def eqB {α:Type} (a b:α):Bool:=decide (a=b)
theorem aO2 {α:Type} {a b:α}:eqB a b=true↔a=b:=by simp [eqB]
theorem an3 {α:Type} (a:α):eqB a a=true:=aO2.2 rfl
theorem au6 {α:Type} {a b:α} (h:a≠b):eqB a b=false:=by simp [eqB,h]
theorem es9 {a b:List aY0} {n:Nat} (hl:a.length=b.length) (h1:a.length≤1000000000):∀ (d m i:Nat),i+d=a.length→d < m→aT3 n m a b i=some ((eqB (a.drop i) (b.drop i),()),()):=by
 intro d
 induction d with
 | zero=>
  intro m i hd hm
  obtain ⟨m,rfl⟩:∃ k,m=k+1:=⟨m - 1,by omega⟩
  rw [bL0,ifn (by omega),List.drop_eq_nil_of_le (by omega),List.drop_eq_nil_of_le (by omega),an3]
 | succ d ih=>
  intro m i hd hm
  obtain ⟨m,rfl⟩:∃ k,m=k+1:=⟨m - 1,by omega⟩
  have ha:i < a.length:=by omega
  have hb:i < b.length:=by omega
  have:=ih m (i+1) (by omega) (by omega)
  rw [show ((i+1:Nat):Int)=(i:Int)+1 by omega] at this
  rw [bL0,ifd (by omega),if_pos (by omega),Int.toNat_natCast,ag1 ha,if_pos (by omega),ag1 hb,w64 (by omega) (by omega),this,List.drop_eq_getElem_cons ha,List.drop_eq_getElem_cons hb]
  generalize a[i]=x
  generalize b[i]=y
  obtain ⟨x1,x2⟩:=x
  obtain ⟨y1,y2⟩:=y
  dsimp only
  by_cases h:x1=y1∧x2=y2
  ·obtain ⟨rfl,rfl⟩:=h
   rw [if_neg (by simp)]
   simp [eqB]
  ·have hx:¬((⟨x1,x2⟩:aY0)=⟨y1,y2⟩):=by simpa using h
   have hb:((x1==y1) && (x2==y2))=false:=by rw [Bool.eq_false_iff]; simpa using h
   rw [hb,am5,au6]
   intro e
   injection e with e _
   exact hx e
theorem eK4 {a b:List aY0} (h1:a.length≤1000000000):bN1 (a,b,())=some ((eqB a b,()),()):=by
 show bN0 fuel _=_
 rw [dp5]
 refine ab9 (fun h=>?_) (fun h=>?_)
 ·rw [au6]; intro e; subst e; exact h rfl
 ·exact es9 (n:=fuel) (by omega) h1 a.length fuel 0 (by omega) (ae2 (by omega))
theorem et0 {a b:List Sub} {n:Nat} (hl:a.length=b.length) (h1:a.length≤1000000000):∀ (d m i:Nat),i+d=a.length→d < m→ba5 n m a b i=some ((eqB (a.drop i) (b.drop i),()),()):=by
 intro d
 induction d with
 | zero=>
  intro m i hd hm
  obtain ⟨m,rfl⟩:∃ k,m=k+1:=⟨m - 1,by omega⟩
  rw [bV3,ifn (by omega),List.drop_eq_nil_of_le (by omega),List.drop_eq_nil_of_le (by omega),an3]
 | succ d ih=>
  intro m i hd hm
  obtain ⟨m,rfl⟩:∃ k,m=k+1:=⟨m - 1,by omega⟩
  have ha:i < a.length:=by omega
  have hb:i < b.length:=by omega
  have:=ih m (i+1) (by omega) (by omega)
  rw [show ((i+1:Nat):Int)=(i:Int)+1 by omega] at this
  rw [bV3,ifd (by omega),if_pos (by omega),Int.toNat_natCast,ag1 ha,if_pos (by omega),ag1 hb,w64 (by omega) (by omega),this,List.drop_eq_getElem_cons ha,List.drop_eq_getElem_cons hb]
  generalize a[i]=x
  generalize b[i]=y
  obtain ⟨x1,x2⟩:=x
  obtain ⟨y1,y2⟩:=y
  dsimp only
  by_cases h:x1=y1∧x2=y2
  ·obtain ⟨rfl,rfl⟩:=h
   rw [if_neg (by simp)]
   simp [eqB]
  ·have hx:¬((⟨x1,x2⟩:Sub)=⟨y1,y2⟩):=by simpa using h
   have hb:((x1==y1) && (x2==y2))=false:=by rw [Bool.eq_false_iff]; simpa using h
   rw [hb,am5,au6]
   intro e
   injection e with e _
   exact hx e
theorem eK5 {a b:List Sub} (h1:a.length≤1000000000):cb4 (a,b,())=some ((eqB a b,()),()):=by
 show cb3 fuel _=_
 rw [dz2]
 refine ab9 (fun h=>?_) (fun h=>?_)
 ·rw [au6]; intro e; subst e; exact h rfl
 ·exact et0 (n:=fuel) (by omega) h1 a.length fuel 0 (by omega) (ae2 (by omega))
theorem eT9 {a b:Msg} (h1:a.list.length≤1000000000) (h2:a.subs.length≤1000000000):bq2 (a,b,())=some ((eqB a b,()),()):=by
 have hf:a≠b→(some ((false,()),()):Option ((Bool × Unit) × Unit))=some ((eqB a b,()),()):=fun h=>by rw [au6 h]
 rw [dz3,eK4 h1,Option.bind_some,eK5 h2,Option.bind_some]
 repeat (first | refine ab9 (fun h=>hf (fun e=>h (by rw [e]))) (fun h=>?_) | refine dK5 (fun h=>hf (fun e=>h (by rw [e]))) (fun h=>?_))
 dsimp only
 by_cases hl:a.list=b.list
 ·rw [hl,an3,ift]
  by_cases hs:a.subs=b.subs
  ·have:a=b:=by
    cases a; cases b
    simp only at *
    simp [*]
   rw [hs,an3,this,an3]
  ·rw [au6 hs,au6]; intro e; exact hs (by rw [e])
 ·rw [au6 hl,at2]; exact hf (fun e=>hl (by rw [e]))
structure Few (m:Msg):Prop where
 list:m.list.length≤300
 subs:m.subs.length≤60
 ap:m.auth.length+m.prefix_.length≤200
 ni:m.next.length+m.id.length≤200
 ao:m.addr.length+m.orig.length≤200
 data:m.data.length≤300
 ds:∀ d∈m.list,d.addr.length≤50
 ss:∀ s∈m.subs,s.data.length≤300
structure dK6 (m:Msg):Prop where
 list:m.list.length≤1000
 subs:m.subs.length≤1000
 auth:m.auth.length≤400
 pre:m.prefix_.length≤400
 next:m.next.length≤400
 id:m.id.length≤400
 addr:m.addr.length≤400
 orig:m.orig.length≤400
 data:m.data.length≤400
 ds:∀ d∈m.list,d.addr.length≤50
 ss:∀ s∈m.subs,s.data.length≤300
theorem Few.lite {m:Msg} (h:Few m):dK6 m:=by
 have:=h.list; have:=h.subs; have:=h.ap; have:=h.ni; have:=h.ao; have:=h.data
 exact ⟨by omega,by omega,by omega,by omega,by omega,by omega,by omega,by omega,by omega,h.ds,h.ss⟩
theorem dK6.fewS {m:Msg} (h:dK6 m):aB5 m.subs:=⟨by have:=h.subs; omega,h.ss⟩
def df2 (m:Msg):Prop:=m.auth.length≤140737488351232∧m.prefix_.length≤140737488351232∧m.next.length≤140737488351232∧m.id.length≤140737488351232∧m.addr.length≤140737488351232∧m.orig.length≤140737488351232
theorem eA6 {m0:Msg} {n:Nat} (h1:m0.subs.length≤60):∀ (d m i:Nat),i+d=m0.subs.length→d < m→bh6 n m m0 i=some (((m0.subs.drop i).all fun s=>decide (s.data.length≤300),()),()):=by
 intro d
 induction d with
 | zero=>
  intro m i hd hm
  obtain ⟨m,rfl⟩:∃ k,m=k+1:=⟨m - 1,by omega⟩
  rw [ci4,ifn (by omega),List.drop_eq_nil_of_le (by omega)]; rfl
 | succ d ih=>
  intro m i hd hm
  obtain ⟨m,rfl⟩:∃ k,m=k+1:=⟨m - 1,by omega⟩
  have ha:i < m0.subs.length:=by omega
  have:=ih m (i+1) (by omega) (by omega)
  rw [show ((i+1:Nat):Int)=(i:Int)+1 by omega] at this
  rw [ci4,ifd (by omega),if_pos (by omega),Int.toNat_natCast,ag1 ha,w64 (by omega) (by omega),this,List.drop_eq_getElem_cons ha,List.all_cons]
  by_cases h:300 < (m0.subs[i].data.length:Int)
  ·rw [ifd h,decide_eq_false (by omega)]; rfl
  ·rw [ifn h,decide_eq_true (by omega),Bool.true_and]
theorem eA7 {m0:Msg} {n:Nat} (h0:m0.list.length≤300) (h1:m0.subs.length≤60) (hn:1000≤n):∀ (d m i:Nat),i+d=m0.list.length→d < m→bh5 n m m0 i=some (((m0.list.drop i).all (fun s=>decide (s.addr.length≤50)) && m0.subs.all fun s=>decide (s.data.length≤300),()),()):=by
 intro d
 induction d with
 | zero=>
  intro m i hd hm
  obtain ⟨m,rfl⟩:∃ k,m=k+1:=⟨m - 1,by omega⟩
  have:=eA6 (n:=n) h1 m0.subs.length n 0 (by omega) (by omega)
  rw [show ((0:Nat):Int)=0 from rfl,List.drop_zero] at this
  rw [ci3,ifn (by omega),List.drop_eq_nil_of_le (by omega),this]; rfl
 | succ d ih=>
  intro m i hd hm
  obtain ⟨m,rfl⟩:∃ k,m=k+1:=⟨m - 1,by omega⟩
  have ha:i < m0.list.length:=by omega
  have:=ih m (i+1) (by omega) (by omega)
  rw [show ((i+1:Nat):Int)=(i:Int)+1 by omega] at this
  rw [ci3,ifd (by omega),if_pos (by omega),Int.toNat_natCast,ag1 ha,w64 (by omega) (by omega),this,List.drop_eq_getElem_cons ha,List.all_cons]
  by_cases h:50 < (m0.list[i].addr.length:Int)
  ·rw [ifd h,decide_eq_false (by omega)]; rfl
  ·rw [ifn h,decide_eq_true (by omega),Bool.true_and]
theorem eZ8 {m:Msg} (g:df2 m):∃ b,cr9 (m,())=some ((b,()),())∧(b=true→Few m):=by
 obtain ⟨g1,g2,g3,g4,g5,g6⟩:=g
 show ∃ b,cr8 fuel _=_∧_
 rw [dI2,w64 (by omega) (by omega),w64 (by omega) (by omega),w64 (by omega) (by omega)]
 by_cases c1:(300:Int) < m.list.length
 ·rw [ifd c1]; exact ⟨_,rfl,by simp⟩
 by_cases c2:(60:Int) < m.subs.length
 ·rw [ifn c1,ifd c2]; exact ⟨_,rfl,by simp⟩
 by_cases c3:(200:Int) < m.auth.length+m.prefix_.length
 ·rw [ifn c1,ifn c2,ifd c3]; exact ⟨_,rfl,by simp⟩
 by_cases c4:(200:Int) < m.next.length+m.id.length
 ·rw [ifn c1,ifn c2,ifn c3,ifd c4]; exact ⟨_,rfl,by simp⟩
 by_cases c5:(200:Int) < m.addr.length+m.orig.length
 ·rw [ifn c1,ifn c2,ifn c3,ifn c4,ifd c5]; exact ⟨_,rfl,by simp⟩
 by_cases c6:(300:Int) < m.data.length
 ·rw [ifn c1,ifn c2,ifn c3,ifn c4,ifn c5,ifd c6]; exact ⟨_,rfl,by simp⟩
 have:=eA7 (m0:=m) (n:=fuel) (by omega) (by omega) (Nat.le_of_lt (ae2 (by omega))) m.list.length fuel 0 (by omega) (ae2 (by omega))
 rw [show ((0:Nat):Int)=0 from rfl,List.drop_zero] at this
 rw [ifn c1,ifn c2,ifn c3,ifn c4,ifn c5,ifn c6,this]
 refine ⟨_,rfl,fun h=>?_⟩
 simp only [Bool.and_eq_true,List.all_eq_true,decide_eq_true_eq] at h
 exact ⟨by omega,by omega,by omega,by omega,by omega,by omega,h.1,h.2⟩
def ah2 (m:Msg):Option Msg:=
 if m.kind=1 then some ⟨m.kind,m.cmd,m.ver,m.auth,m.family,0,m.prefix_,m.plen,m.tag,m.next,m.metric,[],0,0,0,0,0,0,0,[],[],[],0,[],[]⟩
 else if m.kind=2 then some ⟨m.kind,m.cmd,0,[],0,0,m.prefix_,m.plen,m.tag,m.next,m.metric,[],0,0,0,0,0,0,0,[],[],[],0,[],[]⟩
 else if m.kind=3 then some ⟨m.kind,0,0,[],0,0,[],0,0,[],0,[],m.seq,m.seq2,0,m.flags,m.hops,m.nonce,0,m.addr,m.orig,[],0,[],m.subs⟩
 else if m.kind=4 then some ⟨m.kind,0,0,[],0,0,[],m.plen,0,[],0,[],m.seq,0,m.interval,m.flags,m.hops,0,0,m.addr,m.orig,[],0,[],m.subs⟩
 else if m.kind=5 then some ⟨m.kind,0,0,[],0,0,[],0,0,[],0,[],0,0,0,m.flags,0,0,0,[],[],m.list,0,[],m.subs⟩
 else if m.kind=6 then some ⟨m.kind,0,0,[],0,0,[],0,0,[],0,[],0,0,0,0,0,0,0,[],[],[],0,[],m.subs⟩
 else if m.kind=7 then some ⟨m.kind,0,0,[],0,0,[],0,0,[],0,[],0,0,m.interval,0,0,m.nonce,0,[],[],[],0,[],m.subs⟩
 else if m.kind=8 then some ⟨m.kind,0,0,[],0,0,[],0,0,[],0,[],0,0,0,0,0,m.nonce,0,[],[],[],0,[],m.subs⟩
 else if m.kind=9 then some ⟨m.kind,0,0,[],0,0,[],0,0,[],0,[],m.seq,0,m.interval,m.flags,0,0,0,[],[],[],0,[],m.subs⟩
 else if m.kind=10 then some ⟨m.kind,0,0,[],0,m.ae,[],0,0,[],0,[],0,0,m.interval,0,0,0,m.cost,m.addr,[],[],0,[],m.subs⟩
 else if m.kind=11 then some ⟨m.kind,0,0,[],0,m.ae,m.prefix_,m.plen,0,m.next,m.metric,m.id,m.seq,0,m.interval,0,0,0,0,[],[],[],0,[],m.subs⟩
 else if m.kind=12 then some ⟨m.kind,0,0,[],0,m.ae,m.prefix_,m.plen,0,[],0,[],0,0,0,0,0,0,0,[],[],[],0,[],m.subs⟩
 else if m.kind=13 then some ⟨m.kind,0,0,[],0,m.ae,m.prefix_,m.plen,0,[],0,m.id,m.seq,0,0,0,m.hops,0,0,[],[],[],0,[],m.subs⟩
 else if m.kind=14 then some ⟨m.kind,0,0,[],0,0,[],0,0,[],0,[],0,0,0,0,0,0,0,[],[],[],m.type_,m.data,[]⟩
 else none
noncomputable def ag0 (m:Msg):Bool:=match ah2 m with | some x=>eqB x m | none=>false
theorem aa9 {R:Type} {x y:Int} {f t r:R} (heq:x=y→t=r) (hne:x≠y→f=r):(if (x==y)=true then t else f)=r:=by
 by_cases h:x=y
 ·rw [if_pos (by simp [h])]; exact heq h
 ·rw [if_neg (by simp [h])]; exact hne h
theorem fd4 {A B C S:Bool} (h:S=(A && B && C)):(if A=true then (if B=true then (some ((C,()),()):Option ((Bool × Unit) × Unit)) else some ((false,()),())) else some ((false,()),()))=some ((S,()),()):=by
 subst h; cases A <;> cases B <;> rfl
theorem fd5 {A B S:Bool} (h:S=(A && B)):(if A=true then (if B=true then (some ((true,()),()):Option ((Bool × Unit) × Unit)) else some ((false,()),())) else some ((false,()),()))=some ((S,()),()):=by
 subst h; cases A <;> cases B <;> rfl
theorem fd6 {A S:Bool} (h:S=A):(if A=true then (some ((true,()),()):Option ((Bool × Unit) × Unit)) else some ((false,()),()))=some ((S,()),()):=by
 subst h; cases S <;> rfl
theorem dQ6 {α:Type} {a b:α}:eqB a b=true↔b=a:=by rw [aO2]; exact eq_comm
theorem dK7 {α:Type} (l:List α):((l.length:Int)=0)↔l=[]:=by cases l <;> simp; omega
theorem bc6 {m:Msg}:an0 (m,())=some ((ag0 m,()),()):=by
 obtain ⟨kind,cmd,ver,auth,family,ae,pre,plen,tag,next,metric,id,seq,seq2,interval,flags,hops,nonce,cost,addr,orig,list,typ,data,subs⟩:=m
 rw [dW5,dJ8,Option.bind_some]
 dsimp only
 repeat' first | (exfalso; omega) | refine aa9 (fun h=>?_) (fun h=>?_)
 all_goals first | refine fd4 ?_ | refine fd5 ?_ | refine fd6 ?_ | skip
 all_goals (try (subst kind))
 all_goals rw [ag0,ah2]
 all_goals (try simp only [*,if_true,if_false])
 all_goals first | rfl | skip
 all_goals rw [Bool.eq_iff_iff]
 all_goals simp only [dQ6,aa0.mk.injEq,Bool.and_eq_true,beq_iff_eq,dK7]
 all_goals (simp only [true_and,and_true,and_self]; first | done | (constructor <;> (intro h; simp only [h,and_self])))
end Go.VP
namespace Go.VP
open Go Go.VI
def bY2 (m:Msg):Prop:=m.list.length≤1000000000∧m.subs.length≤1000000000
theorem eK6 (x y:Msg) (p q:List Msg):(if (!(eqB x y))=true then (some ((false,()),()):Option ((Bool × Unit) × Unit)) else some ((eqB p q,()),()))=some ((eqB (x::p) (y::q),()),()):=by
 by_cases he:x=y
 ·subst he
  rw [an3,ah3]
  have:eqB p q=eqB (x::p) (x::q):=by simp [eqB]
  rw [this]
 ·rw [au6 he,am5,au6]
  intro e; injection e with e _; exact he e
theorem et1 {a b:List Msg} {n:Nat} (hab:a.length=b.length) (hl:a.length≤1000000) (hs:∀ m∈a,bY2 m):∀ (d m i:Nat),i+d=a.length→d < m→aH3 n m a b i=some ((eqB (a.drop i) (b.drop i),()),()):=by
 intro d
 induction d with
 | zero=>
  intro m i hd hm
  obtain ⟨m,rfl⟩:∃ k,m=k+1:=⟨m - 1,by omega⟩
  rw [bv8,ifn (by omega),List.drop_eq_nil_of_le (by omega),List.drop_eq_nil_of_le (by omega),an3]
 | succ d ih=>
  intro m i hd hm
  obtain ⟨m,rfl⟩:∃ k,m=k+1:=⟨m - 1,by omega⟩
  have hi:i < a.length:=by omega
  have hib:i < b.length:=by omega
  have:=ih m (i+1) (by omega) (by omega)
  rw [show ((i+1:Nat):Int)=(i:Int)+1 by omega] at this
  have hm':=hs _ (List.getElem_mem hi)
  have hp:0≤(i:Int):=by omega
  rw [bv8,ifd (by omega)]
  simp only [if_pos hp,Int.toNat_natCast,List.getElem?_eq_getElem hi,List.getElem?_eq_getElem hib,Option.bind_some]
  rw [eT9 hm'.1 hm'.2,Option.bind_some,w64 (by omega) (by omega),this,List.drop_eq_getElem_cons hi,List.drop_eq_getElem_cons hib]
  exact eK6 _ _ _ _
theorem eK7 {a b:List Msg} (hl:a.length≤1000000) (hs:∀ m∈a,bY2 m):aU3 (a,b,())=some ((eqB a b,()),()):=by
 show bv3 fuel (a,b,())=_
 rw [db0]
 refine ab9 (fun h=>?_) (fun h=>?_)
 ·rw [au6]; intro e; subst e; exact h rfl
 ·exact et1 (n:=fuel) (by omega) hl hs a.length fuel 0 (by omega) (ae2 (by omega))
theorem eK8 {a:List Msg} (hl:a.length≤1000000) (hs:∀ m∈a,bY2 m):aU3 (a,a,())=some ((true,()),()):=by
 rw [eK7 hl hs,an3]
theorem eK9 {m:Msg} (g:aB4 m):df2 m:=by
 obtain ⟨g1,g2,g3,g4,g5,g6,g7,g8,g9,g10,g11,g12,g13,g14,g15,g16,g17,g18,g19,g20,g21,_⟩:=g
 exact ⟨g4,g7,g10,g12,g20,g21⟩
theorem eA8 {a:List Msg} {n:Nat} (g:∀ m∈a,df2 m) (hl:a.length≤1000):∀ (d m i:Nat),i+d=a.length→d < m→∃ b,aM4 n m a i=some ((b,()),())∧(b=true→∀ m∈a.drop i,Few m):=by
 intro d
 induction d with
 | zero=>
  intro m i hd hm
  obtain ⟨m,rfl⟩:∃ k,m=k+1:=⟨m - 1,by omega⟩
  rw [bz9,ifn (by omega)]
  exact ⟨true,rfl,fun _ m hm=>by rw [List.drop_eq_nil_of_le (by omega)] at hm; cases hm⟩
 | succ d ih=>
  intro m i hd hm
  obtain ⟨m,rfl⟩:∃ k,m=k+1:=⟨m - 1,by omega⟩
  have hi:i < a.length:=by omega
  obtain ⟨b,h1,h2⟩:=ih m (i+1) (by omega) (by omega)
  rw [show ((i+1:Nat):Int)=(i:Int)+1 by omega] at h1
  obtain ⟨c,k1,k2⟩:=eZ8 (g _ (List.getElem_mem hi))
  rw [bz9,ifd (by omega),if_pos (by omega),Int.toNat_natCast,ag1 hi,k1,Option.bind_some,w64 (by omega) (by omega),h1]
  cases c with
  | false=>exact ⟨false,rfl,fun h=>by cases h⟩
  | true=>
   refine ⟨b,rfl,fun h m hm=>?_⟩
   rw [List.drop_eq_getElem_cons hi] at hm
   rcases List.mem_cons.1 hm with rfl | hm
   ·exact k2 rfl
   ·exact h2 h m hm
theorem eU0 {a:List Msg} {k:Int} (hk:k≤1000) (g:∀ m∈a,df2 m):∃ b,bA7 (a,k,())=some ((b,()),())∧(b=true→a.length≤k∧∀ m∈a,Few m):=by
 show ∃ b,bA6 fuel (a,k,())=_∧_
 rw [dh2]
 by_cases h:k < (a.length:Int)
 ·rw [ifd h]; exact ⟨false,rfl,fun h=>by cases h⟩
 ·rw [ifn h]
  obtain ⟨b,h1,h2⟩:=eA8 (n:=fuel) g (by omega) a.length fuel 0 (by omega) (ae2 (by omega))
  exact ⟨b,h1,fun hb=>⟨by omega,fun m hm=>h2 hb m (by simpa using hm)⟩⟩
end Go.VP
namespace Go.VP
open Go Go.VI
def an6:Bs:=[254,128,0,0,0,0,0,0]
def aj0 (a:Bs):Bool:=decide (a.length=16) && (a.take 8==an6)
theorem eU1 (a p:Bs):aB9 (a,p,())=some ((decide (p.length≤a.length) && (a.take p.length==p),()),()):=by
 rw [cv6,av5]
 by_cases h:p.length≤a.length
 ·rw [ifd (by omega),if_pos (by omega),Option.bind_some,Int.toNat_natCast,decide_eq_true h]; rfl
 ·rw [ifn (by omega),Option.bind_some,decide_eq_false h]; rfl
theorem cC3 (a:Bs):aq8 (a,())=some ((aj0 a,()),()):=by
 rw [dI6,eU1,Option.bind_some]
 unfold aj0
 by_cases h:a.length=16
 ·rw [if_pos (by simp; omega),decide_eq_true h]
  have:decide (([254,128,0,0,0,0,0,0]:Bs).length≤a.length)=true:=by simp; omega
  rw [this]; rfl
 ·rw [if_neg (by simp; omega),decide_eq_false h]; rfl
theorem aA0 {a:Bs} (h:aj0 a=true):a.length=16∧a.take 8=an6:=by
 simpa [aj0] using h
def db6 (a:Bs):Bs × Bool:=if aj0 a=true then (a.drop 8,true) else ([],false)
theorem ee1 (a:Bs):aW6 (a,())=some (((db6 a).1,(db6 a).2,()),()):=by
 rw [dA6,cC3,Option.bind_some]
 unfold db6
 dsimp only
 by_cases h:aj0 a=true
 ·have:=aA0 h
  rw [h,ah3,if_pos (by omega),ift]
 ·rw [Bool.not_eq_true] at h
  rw [h,am5,at2]
def aC3 (s:Bs):Bs × Bool:=if s.length=8 then (an6++s,true) else ([],false)
theorem bZ9 (s:Bs):az9 (s,())=some (((aC3 s).1,(aC3 s).2,()),()):=by
 rw [dJ7]
 unfold aC3
 by_cases h:s.length=8
 ·rw [if_neg (by simp; omega),if_pos (af7 (by omega)),if_pos h]; rfl
 ·rw [if_pos (by simp; omega),if_neg h]
def bw1 (a:Bs):Int:=if a.length=4 then 0 else if a.length=16 then 1 else -1
theorem eA9 (a:Bs):aC9 (a,())=some ((bw1 a,()),()):=by
 rw [dp7]
 unfold bw1
 by_cases h:a.length=4
 ·rw [if_pos (by simp; omega),if_pos h]
 ·rw [if_neg (by simp; omega),if_neg h]
  by_cases h2:a.length=16
  ·rw [if_pos (by simp; omega),if_pos h2]
  ·rw [if_neg (by simp; omega),if_neg h2]
theorem dQ7 {s:Bs} (h:s.length=8):aj0 (an6++s)=true:=by
 unfold aj0
 have e:(an6++s).take 8=an6:=by rw [List.take_append_of_le_length (by decide)]; rfl
 rw [e]
 simp [an6,h]
theorem dC4 {a:Bs} (h:aj0 a=true):an6++a.drop 8=a:=by
 rw [← (aA0 h).2,List.take_append_drop]
end Go.VP
namespace Go.VP
open Go Go.VI
def bG8 (b k:Nat):Nat:=b / 2 ^ (8 - k) * 2 ^ (8 - k)
def bG9 (b:UInt8) (k:Int):UInt8:=UInt8.ofNat (bG8 b.toNat (min k.toNat 8))
theorem eL0 (b k:Nat):bG8 b k≤b:=Nat.div_mul_le_self ..
theorem bh0 (b:UInt8) (k:Int):(bG9 b k).toNat=bG8 b.toNat (min k.toNat 8):=by
 have:=eL0 b.toNat (min k.toNat 8); have:=b.toNat_lt
 unfold bG9; rw [UInt8.toNat_ofNat']; omega
theorem eB0 {b:UInt8} {k:Int} (h:8≤k):bG9 b k=b:=by
 apply UInt8.toNat.inj
 rw [bh0,show min k.toNat 8=8 by omega]; simp [bG8]
theorem et2 {b:UInt8} {k:Int} (h:k≤0):bG9 b k=0:=by
 apply UInt8.toNat.inj
 have:=b.toNat_lt
 rw [bh0,show min k.toNat 8=0 by omega]; simp [bG8]; omega
def ai2:Bs→Int→Bs
 | [],_=>[]
 | b::r,n=>bG9 b n::ai2 r (n - 8)
theorem aY1:∀ (s:Bs) (n:Int),(ai2 s n).length=s.length
 | [],_=>rfl
 | b::r,n=>by simp [ai2,aY1 r]
theorem cp5:∀ {s:Bs} {n:Int},8 * (s.length:Int)≤n→ai2 s n=s
 | [],_,_=>rfl
 | b::r,n,h=>by simp only [List.length_cons] at h; rw [ai2,eB0 (by omega),cp5 (by omega)]
theorem bY3:∀ {s:Bs} {n:Int},n≤0→ai2 s n=List.replicate s.length 0
 | [],_,_=>rfl
 | b::r,n,h=>by rw [ai2,et2 h,bY3 (by omega),List.length_cons,List.replicate_succ]
theorem bw2:∀ (a b:Bs) (n:Int),ai2 (a++b) n=ai2 a n++ai2 b (n - 8 * a.length)
 | [],b,n=>by simp [ai2]
 | x::a,b,n=>by simp only [List.cons_append,ai2,bw2 a b,List.length_cons]; congr 3; omega
theorem eB1 {s:Bs} {n:Int} (h0:0≤n) (h:n < 8 * s.length):ai2 s n=s.take (n / 8).toNat++bG9 (s[(n / 8).toNat]'(by omega)) (n % 8)::List.replicate (s.length - (n / 8).toNat - 1) 0:=by
 have hk:(n / 8).toNat < s.length:=by omega
 have e:s=s.take (n / 8).toNat++(s[(n / 8).toNat]::s.drop ((n / 8).toNat+1)):=by rw [← List.drop_eq_getElem_cons hk,List.take_append_drop]
 have hl:(s.take (n / 8).toNat).length=(n / 8).toNat:=by rw [List.length_take]; omega
 have:=congrArg (fun x=>ai2 x n) e
 rw [this,bw2,hl,cp5 (by omega),ai2,bY3 (by omega),List.length_drop]
 congr 3
 all_goals omega
theorem et3:∀ y:Fin 256,∀ j:Fin 8,(aa1 (ad2 .andNot .u8 (y.val:Int) (ac8 .u8 255 (j.val:Int)))).toNat=bG8 y.val j.val:=by decide +kernel
theorem eB2 {n:Int} (h0:0≤n) (h:n≤9223372036854775807):ad2 .and .i64 n 7=n % 8:=by
 obtain ⟨a,rfl⟩:∃ a:Nat,n=a:=⟨n.toNat,by omega⟩
 unfold ad2
 show IntKind.wrap .i64 (((BitVec.ofInt 64 (a:Int) &&& BitVec.ofInt 64 ((7:Nat):Int)).toNat:Nat):Int)=_
 have e:a &&& 7=a % 8:=Nat.and_two_pow_sub_one_eq_mod a 3
 rw [BitVec.toNat_and,BitVec.ofInt_natCast,BitVec.ofInt_natCast,BitVec.toNat_ofNat,BitVec.toNat_ofNat,Nat.mod_eq_of_lt (by omega),Nat.mod_eq_of_lt (by omega),e,w64 (by omega) (by omega)]
 omega
theorem et4 {n:Int} (h0:0≤n):ac8 .i64 n 3=n / 8:=by
 unfold ac8
 rw [show ((2:Int) ^ min (3:Int).toNat IntKind.i64.bits)=8 by decide]
 exact Int.fdiv_eq_ediv_of_nonneg _ (by decide)
theorem bo1 {s:Bs} {n:Int} (hs:s.length≤1000000000) (hn:IntKind.has .i64 n):ao5 (s,n,())=some ((ai2 s n,()),()):=by
 rw [af2] at hn
 rw [dI4,w64 (x:=8 * (s.length:Int)) (by omega) (by omega)]
 by_cases h1:8 * (s.length:Int)≤n
 ·rw [ifd h1,cp5 h1]
 ·rw [ifn h1,if_pos (show 0≤(s.length:Int)∧(s.length:Int)≤aj9 by unfold aj9; omega)]
  by_cases h2:n≤0
  ·rw [ifd h2,bY3 h2,Int.toNat_natCast]
  ·rw [ifn h2,et4 (by omega),eB2 (by omega) (by omega),eJ8 (by omega) (by omega),if_pos (show 0≤n / 8∧n / 8≤(s.length:Int) by omega),if_pos (show 0≤n / 8 by omega)]
   have hk:(n / 8).toNat < s.length:=by omega
   have hl:((s.take (n / 8).toNat).take ((List.replicate (s.length:Int).toNat (0:UInt8)).length)++(List.replicate (s.length:Int).toNat (0:UInt8)).drop (s.take (n / 8).toNat).length).length=s.length:=by
    simp; omega
   rw [ag1 hk,if_pos (show 0≤n % 8 by omega),hl,if_pos (show 0≤n / 8∧n / 8 < (s.length:Int) by omega),if_pos hk,eB1 (by omega) (by omega)]
   have e1:aa1 (ad2 .andNot .u8 ((s[(n / 8).toNat].toNat:Nat):Int) (ac8 .u8 255 (n % 8)))=bG9 s[(n / 8).toNat] (n % 8):=by
    apply UInt8.toNat.inj
    have:=et3 ⟨s[(n / 8).toNat].toNat,s[(n / 8).toNat].toNat_lt⟩ ⟨(n % 8).toNat,by omega⟩
    dsimp only at this
    rw [show (((n % 8).toNat:Nat):Int)=n % 8 by omega] at this
    rw [this,bh0,show min (n % 8).toNat 8=(n % 8).toNat by omega]
   have e2:(s.take (n / 8).toNat).length=(n / 8).toNat:=by rw [List.length_take]; omega
   have e3:(s.take (n / 8).toNat).take ((List.replicate (s.length:Int).toNat (0:UInt8)).length)=s.take (n / 8).toNat:=List.take_of_length_le (by simp; omega)
   have e4:(List.replicate (s.length:Int).toNat (0:UInt8)).drop (n / 8).toNat=0::List.replicate (s.length - (n / 8).toNat - 1) 0:=by
    rw [List.drop_replicate,Int.toNat_natCast,show s.length - (n / 8).toNat=(s.length - (n / 8).toNat - 1)+1 by omega,List.replicate_succ]
    simp
   rw [e1,e3,e2,e4,List.set_append_right _ _ (by omega),e2,Nat.sub_self,List.set_cons_zero]
def bh1 (s:Bs) (n:Int):Bool:=ai2 s n==s
theorem dr5 {s:Bs} {n:Int} (hs:s.length≤1000000000) (hn:IntKind.has .i64 n):aJ0 (s,n,())=some ((bh1 s n,()),()):=by
 rw [dz5,bo1 hs hn]; rfl
def ad9 (n:Int):Int:=if n < 0 then 0 else (n+7) / 8
theorem ee2 {n:Int} (h:n≤9000000000000000000):aJ6 (n,())=some ((ad9 n,()),()):=by
 rw [dh5]
 unfold ad9
 by_cases h0:n < 0
 ·rw [if_pos (show 0 > n from h0),if_pos h0]; rfl
 ·rw [if_neg (show ¬0 > n from h0),if_neg h0,w64 (by omega) (by omega),et4 (by omega)]
def aH7 (s:Bs) (n:Int):Bs:=s++List.replicate (n.toNat - s.length) 0
theorem cC4 {s:Bs} {n:Int} (h:n≤1000000000):ap1 (s,n,())=some ((aH7 s n,()),()):=by
 rw [dq3]
 unfold aH7
 by_cases h0:n≤(s.length:Int)
 ·rw [ifd h0,show n.toNat - s.length=0 by omega]; simp
 ·rw [ifn h0,if_pos (by unfold aj9; omega),List.length_replicate,List.take_of_length_le (by omega),List.drop_replicate]
def cj1 (a:Bs) (n:Int):Bs:=ai2 (a.take (ad9 n).toNat) n
theorem dQ8 (n:Int):0≤ad9 n:=by unfold ad9; split <;> omega
theorem eB3 (a:Bs) (n:Int) (h:0≤n):0≤(if (a.length:Int) < n then (a.length:Int) else n)∧(if (a.length:Int) < n then (a.length:Int) else n)≤(a.length:Int)∧a.take (if (a.length:Int) < n then (a.length:Int) else n).toNat=a.take n.toNat:=by
 split
 ·refine ⟨by omega,by omega,?_⟩
  rw [Int.toNat_natCast,List.take_length,List.take_of_length_le (by omega)]
 ·exact ⟨by omega,by omega,rfl⟩
theorem en7 {a:Bs} {n:Int} (ha:a.length≤1000000000) (hn:IntKind.has .i64 n) (h:n≤9000000000000000000):aJ7 (a,n,())=some ((cj1 a n,()),()):=by
 obtain ⟨m1,m2,m3⟩:=eB3 a (ad9 n) (dQ8 n)
 rw [dA5,ee2 h,Option.bind_some]
 dsimp only
 rw [if_pos ⟨m1,m2⟩,m3,bo1 (by rw [List.length_take]; omega) hn]; rfl
theorem et5 (a:Bs) (n:Int):∀ k:Nat,(ai2 a n).take k=ai2 (a.take k) n:=by
 intro k
 induction a generalizing n k with
 | nil=>simp [ai2]
 | cons b r ih=>
  cases k with
  | zero=>simp [ai2]
  | succ k=>simp [ai2,ih]
end Go.VP
namespace Go.VP
open Go Go.VI
def bw3 (ae:Int) (a:Bs):Bool:=if ae=0 then a==[] else if ae=1 then decide (a.length=4) else if ae=2 then decide (a.length=16) else if ae=3 then aj0 a else false
theorem eU2 (ae:Int) (a:Bs):aD8 (ae,a,())=some ((bw3 ae a,()),()):=by
 rw [da7,eA9,cC3]
 unfold bw3
 refine aa9 (fun h=>?_) (fun h=>?_)
 ·rw [if_pos h]
 rw [if_neg h]
 refine aa9 (fun h=>?_) (fun h=>?_)
 ·rw [if_pos h,Option.bind_some]
  unfold bw1; split
  ·simp [*]
  ·split <;> simp [*]
 rw [if_neg h]
 refine aa9 (fun h=>?_) (fun h=>?_)
 ·rw [if_pos h,Option.bind_some]
  unfold bw1; split
  ·simp [*]
  ·split <;> simp [*]
 rw [if_neg h]
 refine aa9 (fun h=>?_) (fun h=>?_)
 ·rw [if_pos h,Option.bind_some]
 rw [if_neg h]
def cI5 (m:Msg):Bool:=if m.kind=7 then true else if m.kind=8 then true else if m.kind=9 then (m.flags==0 || m.flags==1) else if m.kind=10 then bw3 m.ae m.addr else false
noncomputable def bL5 (m:Msg):Bool:=ac7 m.nonce 2 && (ac7 m.interval 2 && (ac7 m.seq 2 && (ac7 m.cost 2 && (ag0 m && (aq2 m.subs && cI5 m)))))
structure bw4 (m:Msg):Prop where
 few:dK6 m
 nonce:IntKind.has .i64 m.nonce
 interval:IntKind.has .i64 m.interval
 seq:IntKind.has .i64 m.seq
 cost:IntKind.has .i64 m.cost
 kind:IntKind.has .i64 m.kind
 flags:IntKind.has .i64 m.flags
 ae:IntKind.has .i64 m.ae
 plen:IntKind.has .i64 m.plen
 hops:IntKind.has .i64 m.hops
theorem eL1 {m:Msg} {c:Option ((Bool × Unit) × Unit)} (hc:c=some ((bw3 m.ae m.addr,()),())) :
 (if (m.kind==7)=true then (if (m.kind==7)=true then some ((true,()),()) else (if (m.kind==9)=true then (if (m.flags==0)=true then some ((true,()),()) else some (((m.flags==1),()),())) else (if (m.kind==10)=true then (c.bind fun r5=>some ((r5.1.1,()),())) else some ((false,()),())))) else (if (m.kind==8)=true then some ((true,()),()) else (if (m.kind==9)=true then (if (m.flags==0)=true then some ((true,()),()) else some (((m.flags==1),()),())) else (if (m.kind==10)=true then (c.bind fun r6=>some ((r6.1.1,()),())) else some ((false,()),())))))=some ((cI5 m,()),()):=by
 subst hc
 unfold cI5
 refine aa9 (fun h=>?_) (fun h=>?_)
 ·rw [if_pos h,if_pos (by simp [h])]
 rw [if_neg h]
 refine aa9 (fun h=>?_) (fun h=>?_)
 ·rw [if_pos h]
 rw [if_neg h]
 refine aa9 (fun h=>?_) (fun h=>?_)
 ·rw [if_pos h]
  refine aa9 (fun h2=>?_) (fun h2=>?_)
  ·simp [h2]
  ·have:(m.flags==0)=false:=by simpa using h2
   rw [this,Bool.false_or]
 rw [if_neg h]
 refine aa9 (fun h=>?_) (fun h=>?_)
 ·rw [if_pos h,Option.bind_some]
 rw [if_neg h]
theorem ee3 {m:Msg} (g:bw4 m):aP8 (m,())=some ((bL5 m,()),()):=by
 have f2:∀ {n:Int},IntKind.has .i64 n→ab1 (n,2,())=some ((ac7 n 2,()),()):=fun h=>ar3 (k:=2) h (by omega) (by omega)
 obtain ⟨c,hc⟩:=dq8
 show bP0 fuel _=_
 rw [dp9,show ([m.nonce,m.interval,m.seq,m.cost]:List Int).length=4 from rfl]
 have e0:fuel=(c+999999999995)+5:=by omega
 have st:∀ (k:Nat) (i:Nat) (x:Int),[m.nonce,m.interval,m.seq,m.cost][i]?=some x→i < 4→IntKind.has .i64 x→av2 fuel (k+1) m [m.nonce,m.interval,m.seq,m.cost] ((4:Nat):Int) i=(if (!ac7 x 2)=true then some ((false,()),()) else av2 fuel k m [m.nonce,m.interval,m.seq,m.cost] ((4:Nat):Int) ((i+1:Nat):Int)):=by
  intro k i x hx hi hh
  rw [bL1,ifd (by omega),if_pos (by omega),Int.toNat_natCast,hx,Option.bind_some,f2 hh,Option.bind_some,w64 (by omega) (by omega)]
  rfl
 have last:∀ k,av2 fuel (k+1) m [m.nonce,m.interval,m.seq,m.cost] ((4:Nat):Int) ((4:Nat):Int)=some ((ag0 m && (aq2 m.subs && cI5 m),()),()):=by
  intro k
  rw [bL1,ifn (by omega),bc6,Option.bind_some,cp3 g.few.fewS,Option.bind_some]
  dsimp only
  rw [eL1 (eU2 _ _)]
  cases ag0 m
  ·rfl
  ·cases aq2 m.subs <;> rfl
 have:=st (c+999999999999) 0 m.nonce rfl (by omega) g.nonce
 rw [show c+999999999999+1=fuel by omega] at this
 rw [show (0:Int)=((0:Nat):Int) from rfl,this]
 have:=st (c+999999999998) 1 m.interval rfl (by omega) g.interval
 rw [this]
 have:=st (c+999999999997) 2 m.seq rfl (by omega) g.seq
 rw [this]
 have:=st (c+999999999996) 3 m.cost rfl (by omega) g.cost
 rw [this]
 have:=last (c+999999999995)
 rw [this]
 unfold bL5
 cases ac7 m.nonce 2
 ·rfl
 ·cases ac7 m.interval 2
  ·rfl
  ·cases ac7 m.seq 2
   ·rfl
   ·cases ac7 m.cost 2 <;> rfl
def ah0 (m:Msg):Bs:=
 if m.kind=7 then be 2 0++(be 2 m.nonce++be 2 m.interval)
 else if m.kind=8 then be 2 m.nonce
 else if m.kind=9 then be 2 (32768 * m.flags)++(be 2 m.seq++be 2 m.interval)
 else be 2 (256 * m.ae)++(be 2 m.cost++(be 2 m.interval++(if m.ae=3 then m.addr.drop 8 else m.addr)))
noncomputable def aF9 (m:Msg):Bs × Bool:=if bL5 m=true then au5 (m.kind - 5) (ah0 m++ab5 m.subs) else ([],false)
theorem be2 {n:Int} (h:0≤n∧n < 65536):[aa1 (IntKind.wrap .u8 (ac8 .i64 n 8)),aa1 (IntKind.wrap .u8 n)]=be 2 n:=by
 have e:ac8 .i64 n 8=n / 256:=by
  unfold ac8
  rw [show ((2:Int) ^ min (8:Int).toNat IntKind.i64.bits)=256 by decide]
  exact Int.fdiv_eq_ediv_of_nonneg _ (by decide)
 rw [e,wu8,wu8]; rfl
theorem eL2 {l:List Int} {n:Nat} (hl:l.length≤10) (hr:∀ x∈l,0≤x∧x < 65536):∀ (d m i:Nat) (b:Bs),i+d=l.length→d < m→b.length≤1000+2 * i→
  ay0 n m l i b=some ((),(⟨b++(l.drop i).flatMap (be 2)⟩,())):=by
 intro d
 induction d with
 | zero=>
  intro m i b hd hm hb
  obtain ⟨m,rfl⟩:∃ k,m=k+1:=⟨m - 1,by omega⟩
  rw [bd9,ifn (by omega),List.drop_eq_nil_of_le (by omega)]
  simp
 | succ d ih=>
  intro m i b hd hm hb
  obtain ⟨m,rfl⟩:∃ k,m=k+1:=⟨m - 1,by omega⟩
  have hi:i < l.length:=by omega
  have:=ih m (i+1) (b++be 2 l[i]) (by omega) (by omega) (by simp [ab6]; omega)
  rw [show ((i+1:Nat):Int)=(i:Int)+1 by omega] at this
  rw [bd9,ifd (by omega),if_pos (by omega),Int.toNat_natCast,ag1 hi,if_pos (ah6 (by simp; omega)),be2 (hr _ (List.getElem_mem hi)),w64 (by omega) (by omega),this,List.drop_eq_getElem_cons hi]
  simp only [List.flatMap_cons,List.append_assoc]
theorem dC5 {l:List Int} {b:Bs} (hl:l.length≤10) (hr:∀ x∈l,0≤x∧x < 65536) (hb:b.length≤1000):ap8 (⟨b⟩,l,())=some ((),(⟨b++l.flatMap (be 2)⟩,())):=by
 show aW5 fuel _=_
 rw [cC0]
 exact eL2 (n:=fuel) hl hr l.length fuel 0 b (by omega) (ae2 (by omega)) (by omega)
structure aB6 (m:Msg):Prop where
 nonce:0≤m.nonce∧m.nonce < 65536
 interval:0≤m.interval∧m.interval < 65536
 seq:0≤m.seq∧m.seq < 65536
 cost:0≤m.cost∧m.cost < 65536
 bare:ag0 m=true
 subs:aq2 m.subs=true
 kind:cI5 m=true
theorem cj2 {n:Int}:ac7 n 2=true↔0≤n∧n < 65536:=by simp [ac7]
theorem ay4 {m:Msg}:bL5 m=true↔aB6 m:=by
 unfold bL5
 simp only [Bool.and_eq_true,cj2]
 exact ⟨fun ⟨a,b,c,d,e,f,g⟩=>⟨a,b,c,d,e,f,g⟩,fun h=>⟨h.1,h.2,h.3,h.4,h.5,h.6,h.7⟩⟩
theorem aB6.kinds {m:Msg} (h:aB6 m):m.kind=7∨m.kind=8∨(m.kind=9∧(m.flags=0∨m.flags=1))∨(m.kind=10∧bw3 m.ae m.addr=true):=by
 have:=h.kind
 unfold cI5 at this
 split at this
 ·omega
 ·split at this
  ·omega
  ·split at this
   ·simp at this; exact .inr (.inr (.inl ⟨by assumption,this⟩))
   ·split at this
    ·exact .inr (.inr (.inr ⟨by assumption,this⟩))
    ·cases this
theorem cw0 {ae:Int} {a:Bs} (h:bw3 ae a=true):(ae=0∧a=[])∨(ae=1∧a.length=4)∨(ae=2∧a.length=16)∨(ae=3∧aj0 a=true):=by
 unfold bw3 at h
 split at h
 ·simp at h; exact .inl ⟨by assumption,h⟩
 ·split at h
  ·simp at h; exact .inr (.inl ⟨by assumption,h⟩)
  ·split at h
   ·simp at h; exact .inr (.inr (.inl ⟨by assumption,h⟩))
   ·split at h
    ·exact .inr (.inr (.inr ⟨by assumption,h⟩))
    ·cases h
theorem dK8 {x:Int} {k:Nat} (hx:0≤x∧x < 65536) (hk:k≤15):ai0 .i64 x k=2 ^ k * x:=by
 unfold ai0
 rw [Int.mul_comm]
 have e:min (k:Int).toNat IntKind.i64.bits=k:=by simp only [IntKind.bits]; omega
 rw [e]
 have hp:(2:Int) ^ k≤32768∧1≤(2:Int) ^ k:=by
  match k,hk with
  | 0,_ | 1,_ | 2,_ | 3,_ | 4,_ | 5,_ | 6,_ | 7,_ | 8,_ | 9,_ | 10,_ | 11,_ | 12,_ | 13,_ | 14,_ | 15,_=>decide
 have h1:x * 2 ^ k≤65536 * 32768:=Int.mul_le_mul (by omega) hp.1 (by omega) (by omega)
 have h0:0≤x * 2 ^ k:=Int.mul_nonneg hx.1 (by omega)
 rw [w64 (by omega) (by omega),Int.mul_comm]
theorem ee4 {l:List Sub} (h:aq2 l=true):ee0 l=(ab5 l,true):=by unfold ee0; rw [if_pos h]
theorem bc7 {l:List Sub} (h:aq2 l=true):(ab5 l).length≤200:=by
 have:=(aK7 h).2; have:=aR5 l; omega
theorem eZ9 {m:Msg} (g:bw4 m):bf7 (m,())=some (((aF9 m).1,(aF9 m).2,()),()):=by
 rw [dJ6,ee3 g,Option.bind_some]
 unfold aF9
 dsimp only
 by_cases h:bL5 m=true
 ·have r:=ay4.1 h
  have hs:=dK4 g.few.fewS (by have:=g.few.subs; omega)
  rw [ee4 r.subs] at hs
  have hz:=bc7 r.subs
  rw [if_neg (by simp [h]),if_pos h,hs]
  simp only [Option.bind_some]
  rcases r.kinds with hk | hk | ⟨hk,hf⟩ | ⟨hk,ha⟩
  ·rw [if_pos (by simp [hk]),dC5 (by simp) (by have:=r.nonce; have:=r.interval; simp; omega) (by simp),Option.bind_some]
   dsimp only
   rw [if_pos (af7 (by simp [ab6]; omega)),bc4,w64 (x:=m.kind - 7) (by omega) (by omega),w64 (by omega) (by omega)]
   simp [ah0,hk]
  ·rw [if_neg (by simp [hk]),if_pos (by simp [hk]),dC5 (by simp) (by have:=r.nonce; simp; omega) (by simp),Option.bind_some]
   dsimp only
   rw [if_pos (af7 (by simp [ab6]; omega)),bc4,w64 (x:=m.kind - 7) (by omega) (by omega),w64 (by omega) (by omega)]
   simp [ah0,hk]
  ·rw [if_neg (by simp [hk]),if_neg (by simp [hk]),if_pos (by simp [hk]),show (15:Int)=((15:Nat):Int) from rfl,dK8 (by omega) (by omega),dC5 (by simp) (by have:=r.seq; have:=r.interval; simp; omega) (by simp),Option.bind_some]
   dsimp only
   rw [if_pos (af7 (by simp [ab6]; omega)),bc4,w64 (x:=m.kind - 7) (by omega) (by omega),w64 (by omega) (by omega)]
   simp [ah0,hk]
  ·have hc:=cw0 ha
   have hl:m.addr.length≤16:=by rcases hc with ⟨_,h⟩ | ⟨_,h⟩ | ⟨_,h⟩ | ⟨_,h⟩ <;> first | (rw [h]; simp; done) | omega | (have:=aA0 h; omega)
   rw [if_neg (by simp [hk]),if_neg (by simp [hk]),if_neg (by simp [hk]),if_pos (by simp [hk]),show (8:Int)=((8:Nat):Int) from rfl,dK8 (by omega) (by omega),dC5 (by simp) (by have:=r.cost; have:=r.interval; simp; omega) (by simp),Option.bind_some,ee1,Option.bind_some]
   dsimp only
   have fin:∀ a:Bs,a.length≤16→ah0 m=be 2 (256 * m.ae)++(be 2 m.cost++(be 2 m.interval++a))→(if ag7 (([]++[2 ^ 8 * m.ae,m.cost,m.interval].flatMap (be 2)).length+a.length)=true then (if af9 ((([]++[2 ^ 8 * m.ae,m.cost,m.interval].flatMap (be 2))++a).length+(ab5 m.subs).length)=true then ((ah4 ((IntKind.wrap .i64 ((IntKind.wrap .i64 (m.kind - 7))+2)),((([]++[2 ^ 8 * m.ae,m.cost,m.interval].flatMap (be 2))++a)++ab5 m.subs),())).bind fun r14=>some ((r14.1.1,r14.1.2.1,()),())) else none) else none)=some (((au5 (m.kind - 5) (ah0 m++ab5 m.subs)).1,(au5 (m.kind - 5) (ah0 m++ab5 m.subs)).2,()),()):=by
    intro a ha he
    rw [if_pos (ah6 (by simp [ab6]; omega)),if_pos (af7 (by simp [ab6]; omega)),bc4,w64 (x:=m.kind - 7) (by omega) (by omega),w64 (by omega) (by omega),he]
    simp [hk]
   unfold db6
   by_cases hb:aj0 m.addr=true
   ·rw [hb,ift,ift]
    dsimp only
    refine aa9 (fun h3=>?_) (fun h3=>?_)
    ·exact fin _ (by simp; omega) (by simp [ah0,hk,h3])
    ·exact fin _ hl (by simp [ah0,hk,h3])
   ·have h3:m.ae≠3:=fun h3=>by rcases hc with ⟨h,_⟩ | ⟨h,_⟩ | ⟨h,_⟩ | ⟨_,h⟩ <;> first | omega | exact hb h
    rw [Bool.not_eq_true] at hb
    rw [hb,at2,at2]
    exact fin _ hl (by simp [ah0,hk,h3])
 ·rw [Bool.not_eq_true] at h
  rw [h,am5,at2]
end Go.VP
namespace Go.VP
open Go Go.VI
abbrev aS9:Msg:=⟨0,0,0,[],0,0,[],0,0,[],0,[],0,0,0,0,0,0,0,[],[],[],0,[],[]⟩
def cw1 (F:List Sub→Msg) (x:List Sub × Bool × Int):Msg × Bool × Int:=if (x.2.2 != 0)=true then (aS9,false,x.2.2) else if (!x.2.1)=true then (aS9,false,x.2.2) else (F x.1,true,0)
theorem cp6 (F:List Sub→Msg) (x:List Sub × Bool × Int):(if (x.2.2 != 0)=true then (some ((aS9,false,x.2.2,()),()):Option ((Msg × Bool × Int × Unit) × Unit)) else (if (!x.2.1)=true then some ((aS9,false,x.2.2,()),()) else some ((F x.1,true,0,()),())))=some (ag4 (cw1 F x),()):=by
 unfold cw1 ag4
 by_cases h:(x.2.2 != 0)=true
 ·rw [if_pos h,if_pos h]
 ·rw [if_neg h,if_neg h]
  by_cases h2:(!x.2.1)=true
  ·rw [if_pos h2,if_pos h2]
  ·rw [if_neg h2,if_neg h2]
abbrev frd (d:Bs) (p:Int) (b:Bool):ag9:=⟨d,p,d.length,b⟩
theorem fa0 {d:Bs} {p q:Int} (h:d.length≤1000000) (h0:0≤p) (hq:q=p+2) (h2:q≤d.length):ab8 (frd d p false,())=some ((num (aa2 d p 2),()),(frd d q false,())):=by
 subst hq
 have w:WfC d p d.length:=⟨h0,by omega,by omega,by omega⟩
 rw [bo0,as2 w (by omega) (by omega) h2]; rfl
theorem eU3 {d:Bs} {p:Int} {b:Bool} (h:d.length≤1000000) (h0:0≤p) (h1:p≤d.length) (h2:b=true∨(d.length:Int) < p+2):ab8 (frd d p b,())=some ((0,()),(frd d p true,())):=by
 have w:WfC d p d.length:=⟨h0,by omega,by omega,by omega⟩
 rw [bo0,bZ5 w (by omega) (by omega) h2]; rfl
def an4 (ae:Int):Int:=if ae=0 then 0 else if ae=1 then 4 else if ae=2 then 16 else 8
theorem eL3 (ae:Int):0≤an4 ae∧an4 ae≤16:=by unfold an4; split <;> (try split) <;> (try split) <;> omega
theorem eB4 {ae:Int} (ha:0≤ae∧ae≤3):an4 ae=8↔ae=3:=by
 have:ae=0∨ae=1∨ae=2∨ae=3:=by omega
 rcases this with rfl | rfl | rfl | rfl <;> decide
theorem eL4 {d:Bs} {p ae:Int} (h:d.length≤1000000) (h0:0≤p) (ha:0≤ae∧ae≤3) (h2:p+an4 ae≤d.length):as1 (frd d p false,ae,())=some ((if ae=3 then an6++aa2 d p 8 else aa2 d p (an4 ae),()),(frd d (p+an4 ae) false,())):=by
 have hn:=eL3 ae
 rw [bg8,if_pos (by omega)]
 change ((ae8 (ac1.mk d p d.length false,an4 ae,())).bind _)=_
 rw [av6 (show WfC d p d.length from ⟨h0,by omega,by omega,by omega⟩) hn.1 h2,Option.bind_some,bZ9,Option.bind_some]
 have hl:=ah7 (s:=d) (p:=p) (n:=an4 ae) h0 hn.1 h2
 dsimp only
 by_cases h3:ae=3
 ·have h8:=(eB4 ha).2 h3
  have:aC3 (aa2 d p (an4 ae))=(an6++aa2 d p (an4 ae),true):=by unfold aC3; rw [if_pos (by omega)]
  rw [this,ift,if_pos (by simp [h3]),if_pos h3,h8]
 ·have h8:an4 ae≠8:=fun h=>h3 ((eB4 ha).1 h)
  have:(aC3 (aa2 d p (an4 ae))).2=false:=by unfold aC3; rw [if_neg (by omega)]
  rw [this,at2,if_neg h3]
theorem dQ9 {d:Bs} {p ae:Int} {b:Bool} (h:d.length≤1000000) (h0:0≤p) (h1:p≤d.length) (ha:0≤ae∧ae≤3) (h2:b=true∨d.length < p+an4 ae):∃ s,as1 (frd d p b,ae,())=some ((s,()),(frd d p true,())):=by
 rw [bg8,if_pos (by omega)]
 change ∃ s,((ae8 (ac1.mk d p d.length b,an4 ae,())).bind _)=_
 rw [bl0 (show WfC d p d.length from ⟨h0,by omega,by omega,by omega⟩) (h2.imp id .inr),Option.bind_some,bZ9,Option.bind_some]
 exact ⟨_,rfl⟩
def aQ3 (ty:Int) (d:Bs):Msg × Bool × Int:=
 if ty=2 then (if d.length < 6 then (aS9,false,2) else cw1 (fun l=>⟨7,0,0,[],0,0,[],0,0,[],0,[],0,0,num (aa2 d 4 2),0,0,num (aa2 d 2 2),0,[],[],[],0,[],l⟩) (ar7 (d.drop 6)))
 else if ty=3 then (if d.length < 2 then (aS9,false,2) else cw1 (fun l=>⟨8,0,0,[],0,0,[],0,0,[],0,[],0,0,0,0,0,num (aa2 d 0 2),0,[],[],[],0,[],l⟩) (ar7 (d.drop 2)))
 else if ty=4 then (if d.length < 6 then (aS9,false,2) else cw1 (fun l=>⟨9,0,0,[],0,0,[],0,0,[],0,[],num (aa2 d 2 2),0,num (aa2 d 4 2),bt d 0 / 128,0,0,0,[],[],[],0,[],l⟩) (ar7 (d.drop 6)))
 else if d.length < 6 then (aS9,false,2)
 else if 3 < bt d 0 then (aS9,false,0)
 else if (d.length:Int) < 6+an4 (bt d 0) then (aS9,false,2)
 else cw1 (fun l=>⟨10,0,0,[],0,bt d 0,[],0,0,[],0,[],0,0,num (aa2 d 4 2),0,0,0,num (aa2 d 2 2),if bt d 0=3 then an6++aa2 d 6 8 else aa2 d 6 (an4 (bt d 0)),[],[],0,[],l⟩) (ar7 (d.drop (6+an4 (bt d 0)).toNat))
theorem eR6 {n:Int} (k:Nat) (hk:k≤63):ac8 .i64 n k=n / 2 ^ k:=by
 unfold ac8
 rw [show min (k:Int).toNat IntKind.i64.bits=k by simp only [IntKind.bits]; omega]
 exact Int.fdiv_eq_ediv_of_nonneg _ (Int.pow_nonneg (by decide))
theorem eR7 (d:Bs) (h:2≤d.length):num (aa2 d 0 2)=bt d 0 * 256+bt d 1:=eK0 (p:=0) (by omega)
theorem eB5 (d:Bs) (h:2≤d.length):num (aa2 d 0 2) / 256=bt d 0:=by
 have:=ae6 d 0; have:=ae6 d 1; rw [eR7 d h]; omega
theorem eB6 (d:Bs) (h:2≤d.length):num (aa2 d 0 2) / 32768=bt d 0 / 128:=by
 have:=ae6 d 0; have:=ae6 d 1; rw [eR7 d h]; omega
theorem df3 {ty at_:Int} {d:Bs} (hd:d.length≤1000) (ht:2≤ty∧ty≤5):aF8 (⟨ty,at_,d⟩,())=some (ag4 (aQ3 ty d),()):=by
 have nw:=bw0 d
 have ok:=fun p q (a:0≤p) (b:q=p+2) c=>fa0 (d:=d) (p:=p) (q:=q) (by omega) a b c
 have bad:=fun p b (a:0≤p) (c:p≤(d.length:Int)) e=>eU3 (d:=d) (p:=p) (b:=b) (by omega) a c e
 rw [dJ9]
 dsimp only
 rw [nw,Option.bind_some]
 dsimp only
 unfold aQ3
 have hcase:ty=2∨ty=3∨ty=4∨ty=5:=by omega
 rcases hcase with rfl | rfl | rfl | rfl
 ·rw [if_pos (by decide),if_pos rfl]
  by_cases h:d.length < 6
  ·rw [if_pos h]
   have fin:∃ n x,ab8 (frd d 0 false,())=some ((n,()),(x,()))∧∃ n' y,ab8 (x,())=some ((n',()),(y,()))∧∃ n'' z,ab8 (y,())=some ((n'',()),(z,()))∧z.c_Bad=true:=by
    by_cases h2:d.length < 2
    ·exact ⟨_,_,bad 0 false (by omega) (by omega) (.inr (by omega)),_,_,bad 0 true (by omega) (by omega) (.inl rfl),_,_,bad 0 true (by omega) (by omega) (.inl rfl),rfl⟩
    ·by_cases h4:d.length < 4
     ·exact ⟨_,_,ok 0 2 (by omega) rfl (by omega),_,_,bad 2 false (by omega) (by omega) (.inr (by omega)),_,_,bad 2 true (by omega) (by omega) (.inl rfl),rfl⟩
     ·exact ⟨_,_,ok 0 2 (by omega) rfl (by omega),_,_,ok 2 4 (by omega) rfl (by omega),_,_,bad 4 false (by omega) (by omega) (.inr (by omega)),rfl⟩
   obtain ⟨n,x,e1,n',y,e2,n'',z,e3,e4⟩:=fin
   rw [e1,Option.bind_some]; dsimp only
   rw [e2,Option.bind_some]; dsimp only
   rw [e3,Option.bind_some]; dsimp only
   rw [if_pos e4]
  ·rw [if_neg h,ok 0 2 (by omega) rfl (by omega),Option.bind_some]; dsimp only
   rw [ok 2 4 (by omega) rfl (by omega),Option.bind_some]; dsimp only
   rw [ok 4 6 (by omega) rfl (by omega),Option.bind_some]; dsimp only
   rw [if_neg (by decide),if_pos (by omega),show ((6:Int)).toNat=6 from rfl,bZ8 (by simp; omega),Option.bind_some]
   exact cp6 _ _
 ·rw [if_neg (by decide),if_pos (by decide),if_neg (by decide),if_pos rfl]
  by_cases h:d.length < 2
  ·rw [if_pos h,bad 0 false (by omega) (by omega) (.inr (by omega)),Option.bind_some]; rfl
  ·rw [if_neg h,ok 0 2 (by omega) rfl (by omega),Option.bind_some]; dsimp only
   rw [if_neg (by decide),if_pos (by omega),show ((2:Int)).toNat=2 from rfl,bZ8 (by simp; omega),Option.bind_some]
   exact cp6 _ _
 ·rw [if_neg (by decide),if_neg (by decide),if_pos (by decide),if_neg (by decide),if_neg (by decide),if_pos rfl]
  by_cases h:d.length < 6
  ·rw [if_pos h]
   have fin:∃ n x,ab8 (frd d 0 false,())=some ((n,()),(x,()))∧∃ n' y,ab8 (x,())=some ((n',()),(y,()))∧∃ n'' z,ab8 (y,())=some ((n'',()),(z,()))∧z.c_Bad=true:=by
    by_cases h2:d.length < 2
    ·exact ⟨_,_,bad 0 false (by omega) (by omega) (.inr (by omega)),_,_,bad 0 true (by omega) (by omega) (.inl rfl),_,_,bad 0 true (by omega) (by omega) (.inl rfl),rfl⟩
    ·by_cases h4:d.length < 4
     ·exact ⟨_,_,ok 0 2 (by omega) rfl (by omega),_,_,bad 2 false (by omega) (by omega) (.inr (by omega)),_,_,bad 2 true (by omega) (by omega) (.inl rfl),rfl⟩
     ·exact ⟨_,_,ok 0 2 (by omega) rfl (by omega),_,_,ok 2 4 (by omega) rfl (by omega),_,_,bad 4 false (by omega) (by omega) (.inr (by omega)),rfl⟩
   obtain ⟨n,x,e1,n',y,e2,n'',z,e3,e4⟩:=fin
   rw [e1,Option.bind_some]; dsimp only
   rw [e2,Option.bind_some]; dsimp only
   rw [e3,Option.bind_some]; dsimp only
   rw [if_pos e4]
  ·rw [if_neg h,ok 0 2 (by omega) rfl (by omega),Option.bind_some]; dsimp only
   rw [ok 2 4 (by omega) rfl (by omega),Option.bind_some]; dsimp only
   rw [ok 4 6 (by omega) rfl (by omega),Option.bind_some]; dsimp only
   rw [if_neg (by decide),if_pos (by omega),show ((6:Int)).toNat=6 from rfl,bZ8 (by simp; omega),Option.bind_some,show (15:Int)=((15:Nat):Int) from rfl,eR6 15 (by omega),show (2:Int) ^ 15=32768 from by decide,eB6 d (by omega)]
   exact cp6 _ _
 ·rw [if_neg (by decide),if_neg (by decide),if_neg (by decide),if_pos (by decide),if_neg (by decide),if_neg (by decide),if_neg (by decide)]
  have sh:∀ n:Int,ac8 .i64 n 8=n / 256:=fun n=>by
   rw [show (8:Int)=((8:Nat):Int) from rfl,eR6 8 (by omega)]; rfl
  have hb:=ae6 d 0
  by_cases h:d.length < 6
  ·rw [if_pos h]
   have fin:∃ n x,ab8 (frd d 0 false,())=some ((n,()),(x,()))∧0≤n∧∃ n' y,ab8 (x,())=some ((n',()),(y,()))∧∃ n'' p,ab8 (y,())=some ((n'',()),(frd d p true,()))∧0≤p∧p≤d.length:=by
    by_cases h2:d.length < 2
    ·exact ⟨_,_,bad 0 false (by omega) (by omega) (.inr (by omega)),by omega,_,_,bad 0 true (by omega) (by omega) (.inl rfl),_,_,bad 0 true (by omega) (by omega) (.inl rfl),by omega,by omega⟩
    ·by_cases h4:d.length < 4
     ·exact ⟨_,_,ok 0 2 (by omega) rfl (by omega),(aR4 _).1,_,_,bad 2 false (by omega) (by omega) (.inr (by omega)),_,_,bad 2 true (by omega) (by omega) (.inl rfl),by omega,by omega⟩
     ·exact ⟨_,_,ok 0 2 (by omega) rfl (by omega),(aR4 _).1,_,_,ok 2 4 (by omega) rfl (by omega),_,_,bad 4 false (by omega) (by omega) (.inr (by omega)),by omega,by omega⟩
   obtain ⟨n,x,e1,e0,n',y,e2,n'',p,e3,e4,e5⟩:=fin
   rw [e1,Option.bind_some]; dsimp only
   rw [e2,Option.bind_some]; dsimp only
   rw [e3,Option.bind_some]; dsimp only
   rw [sh]
   by_cases ha:n / 256≤3
   ·obtain ⟨s,e6⟩:=dQ9 (d:=d) (p:=p) (ae:=n / 256) (b:=true) (by omega) e4 e5 ⟨by omega,ha⟩ (.inl rfl)
    rw [ifd ha,e6,Option.bind_some]; rfl
   ·rw [ifn ha,if_pos rfl]
  ·rw [if_neg h,ok 0 2 (by omega) rfl (by omega),Option.bind_some]; dsimp only
   rw [ok 2 4 (by omega) rfl (by omega),Option.bind_some]; dsimp only
   rw [ok 4 6 (by omega) rfl (by omega),Option.bind_some]; dsimp only
   rw [sh,eB5 d (by omega)]
   by_cases ha:3 < bt d 0
   ·rw [if_pos ha,ifn (by omega),if_neg (by decide),ifd ha]
   ·rw [if_neg ha,ifd (by omega)]
    by_cases hl:(d.length:Int) < 6+an4 (bt d 0)
    ·obtain ⟨s,e6⟩:=dQ9 (d:=d) (p:=6) (ae:=bt d 0) (b:=false) (by omega) (by omega) (by omega) ⟨by omega,by omega⟩ (.inr hl)
     rw [if_pos hl,e6,Option.bind_some]; rfl
    ·have hn:0≤an4 (bt d 0):=by unfold an4; split <;> (try split) <;> (try split) <;> omega
     rw [if_neg hl,eL4 (by omega) (by omega) ⟨by omega,by omega⟩ (by omega),Option.bind_some]; dsimp only
     rw [if_neg (by decide),ifn ha,if_pos (by omega),bZ8 (by simp; omega),Option.bind_some]
     exact cp6 _ _
end Go.VP
namespace Go.VP
open Go Go.VI
theorem dR0:∀ {l:List Tlv},dC3 l→bD9 (keep l)
 | [],_=>fun y hy=>by simp [keep] at hy
 | t::l,h=>by
  have ih:=dR0 (l:=l) (fun z hz=>h z (List.mem_cons_of_mem _ hz))
  intro y hy
  simp only [keep] at hy
  split at hy
  ·rcases List.mem_cons.1 hy with rfl | hy
   ·have:=h t (List.mem_cons_self ..); dsimp only; omega
   ·exact ih y hy
  ·exact ih y hy
theorem en8 (s:Bs):∀ (p:Int) (l:List Tlv),spl p s=.ok l→al0 (keep l)≤s.length:=by
 match s with
 | []=>intro p l h; rw [aD3] at h; injection h with h; subst h; simp [keep,al0]
 | t::r=>
  intro p l h
  have go:∀ (q:Int) (x:Tlv) (r':Bs),r'.length < (t::r).length→(x.type_=0∨r'.length+2+x.data.length≤(t::r).length)→(spl q r').map (x::·)=.ok l→al0 (keep l)≤((t::r).length:Nat):=by
   intro q x r' hr hx h
   cases hm:spl q r' with
   | error e=>rw [hm] at h; cases h
   | ok l'=>
    rw [hm] at h
    injection h with h
    subst h
    have:=en8 r' q l' hm
    simp only [keep]
    split
    ·simp only [al0]; omega
    ·omega
  by_cases ht:t=0
  ·subst ht
   rw [bl1] at h
   exact go _ _ _ (by simp) (.inl rfl) h
  ·match r with
   | []=>rw [bZ6 ht] at h; cases h
   | n::d=>
    by_cases hn:d.length < n.toNat
    ·rw [bZ7 ht hn] at h; cases h
    ·rw [bc5 ht (by omega)] at h
     exact go _ _ _ (by simp; omega) (.inr (by simp; omega)) h
termination_by s.length
theorem cI6 (s:Bs):(∃ l,ar7 s=(l,true,0)∧bD9 l∧al0 l≤200∧al0 l≤s.length∧l.length≤s.length)∨(∃ l,ar7 s=(l,false,0))∨(∃ e,ar7 s=([],false,e)∧e≠0):=by
 unfold ar7
 cases h:spl 0 s with
 | error e=>exact .inr (.inr ⟨2,rfl,by decide⟩)
 | ok l=>
  obtain ⟨h1,h2⟩:=db5 s 0 l h
  have h3:=en8 s 0 l h
  have h4:=dn2 l
  dsimp only
  unfold dr4
  split
  ·exact .inr (.inr ⟨10,rfl,by decide⟩)
  ·cases hb:dr3 l with
   | true=>exact .inl ⟨_,rfl,dR0 h1,by omega,h3,by omega⟩
   | false=>exact .inr (.inl ⟨_,rfl⟩)
theorem bY4 (F:List Sub→Msg) (s:Bs):(∃ l,cw1 F (ar7 s)=(F l,true,0)∧bD9 l∧al0 l≤200∧al0 l≤s.length∧l.length≤s.length)∨(∃ e,cw1 F (ar7 s)=(aS9,false,e)):=by
 rcases cI6 s with ⟨l,h,h2⟩ | ⟨l,h⟩ | ⟨e,h,h2⟩
 ·rw [h]; exact .inl ⟨l,rfl,h2⟩
 ·rw [h]; exact .inr ⟨_,rfl⟩
 ·rw [h]; refine .inr ⟨e,?_⟩
  unfold cw1
  rw [if_pos (by simpa using h2)]
theorem aY2 {l:List Sub} (h:bD9 l) (h2:al0 l≤200):aq2 l=true:=by
 unfold aq2; rw [ed9.2 h,decide_eq_true h2]; rfl
theorem bD9.few {l:List Sub} (h:bD9 l):∀ y∈l,y.data.length≤300:=fun y hy=>by have:=h y hy; omega
theorem aq9 {d:Bs} {p:Int} (h:0≤p) (h2:p+2≤d.length):0≤num (aa2 d p 2)∧num (aa2 d p 2) < 65536:=by
 have hl:=ah7 (s:=d) (p:=p) (n:=2) h (by omega) h2
 have:=aR4 (aa2 d p 2)
 rw [show (aa2 d p 2).length=2 by omega] at this
 exact this
theorem dC6 {l:List Sub}:(ab5 l).length=al0 l:=aR5 l
theorem bo2:∀ {l:List Sub},(l.length:Int) * 2≤al0 l
 | []=>by simp [al0]
 | y::l=>by have:=bo2 (l:=l); simp only [al0,List.length_cons]; omega
theorem ee5 {ty:Int} {d:Bs} (ht:2≤ty∧ty≤5) (hd:d.length≤300) :
  (∃ m,aQ3 ty d=(m,true,0)∧aB6 m∧bw4 m∧(ah0 m++ab5 m.subs).length≤d.length)∨(∃ e,aQ3 ty d=(aS9,false,e)):=by
 have hb:=ae6 d 0
 unfold aQ3
 have good:∀ m:Msg,dK6 m→aB6 m→(0≤m.kind∧m.kind < 100)→(0≤m.flags∧m.flags < 100)→(0≤m.ae∧m.ae < 100)→(0≤m.plen∧m.plen < 100)→(0≤m.hops∧m.hops < 100)→bw4 m:=fun m hf r a b c d e=>⟨hf,af2.2 (by have:=r.nonce; omega),af2.2 (by have:=r.interval; omega),af2.2 (by have:=r.seq; omega),af2.2 (by have:=r.cost; omega),af2.2 (by omega),af2.2 (by omega),af2.2 (by omega),af2.2 (by omega),af2.2 (by omega)⟩
 have w0:(0:Int)≤0∧(0:Int) < 65536:=by decide
 have z0:(0:Int)≤0∧(0:Int) < 100:=by decide
 have z7:(0:Int)≤7∧(7:Int) < 100:=by decide
 have z8:(0:Int)≤8∧(8:Int) < 100:=by decide
 have z9:(0:Int)≤9∧(9:Int) < 100:=by decide
 have z10:(0:Int)≤10∧(10:Int) < 100:=by decide
 have n300:([]:List aY0).length≤1000:=by decide
 have ca7:∀ {m:Msg} {x:Msg × Bool × Int},x=(m,true,0)→aB6 m→(aB6 m→bw4 m)→(ah0 m++ab5 m.subs).length≤d.length→∃ m,x=(m,true,0)∧aB6 m∧bw4 m∧(ah0 m++ab5 m.subs).length≤d.length:=fun h r g l=>⟨_,h,r,g r,l⟩
 have bare:∀ m:Msg,ah2 m=some m→ag0 m=true:=fun m h=>by rw [ag0,h]; exact an3 m
 split
 ·split
  ·exact .inr ⟨_,rfl⟩
  ·have n2:=aq9 (d:=d) (p:=2) (by omega) (by omega)
   have n4:=aq9 (d:=d) (p:=4) (by omega) (by omega)
   refine (bY4 _ _).imp (fun ⟨l,h,h1,h2,h3,h4⟩=>ca7 h ⟨n2,n4,w0,w0,bare _ rfl,aY2 h1 h2,rfl⟩ (fun r=>good _ ⟨n300,?_,by simp,by simp,by simp,by simp,by simp,by simp,by simp,by simp,h1.few⟩ r z7 z0 z0 z0 z0) ?_) id
   ·have:=bo2 (l:=l); simp at h4; dsimp only; omega
   ·have:=dC6 (l:=l); simp [ah0,ab6] at h3 ⊢; omega
 ·split
  ·split
   ·exact .inr ⟨_,rfl⟩
   ·have n0:=aq9 (d:=d) (p:=0) (by omega) (by omega)
    refine (bY4 _ _).imp (fun ⟨l,h,h1,h2,h3,h4⟩=>ca7 h ⟨n0,w0,w0,w0,bare _ rfl,aY2 h1 h2,rfl⟩ (fun r=>good _ ⟨n300,?_,by simp,by simp,by simp,by simp,by simp,by simp,by simp,by simp,h1.few⟩ r z8 z0 z0 z0 z0) ?_) id
    ·have:=bo2 (l:=l); simp at h4; dsimp only; omega
    ·have:=dC6 (l:=l); simp [ah0,ab6] at h3 ⊢; omega
  ·split
   ·split
    ·exact .inr ⟨_,rfl⟩
    ·have n2:=aq9 (d:=d) (p:=2) (by omega) (by omega)
     have n4:=aq9 (d:=d) (p:=4) (by omega) (by omega)
     have hf:bt d 0 / 128=0∨bt d 0 / 128=1:=by omega
     refine (bY4 _ _).imp (fun ⟨l,h,h1,h2,h3,h4⟩=>ca7 h ⟨w0,n4,n2,w0,bare _ rfl,aY2 h1 h2,?_⟩ (fun r=>good _ ⟨n300,?_,by simp,by simp,by simp,by simp,by simp,by simp,by simp,by simp,h1.few⟩ r z9 (show 0≤bt d 0 / 128∧bt d 0 / 128 < 100 by omega) z0 z0 z0) ?_) id
     ·simp only [cI5]; rcases hf with e | e <;> rw [e] <;> rfl
     ·have:=bo2 (l:=l); simp at h4; dsimp only; omega
     ·have:=dC6 (l:=l); simp [ah0,ab6] at h3 ⊢; omega
   ·split
    ·exact .inr ⟨_,rfl⟩
    ·split
     ·exact .inr ⟨_,rfl⟩
     ·split
      ·exact .inr ⟨_,rfl⟩
      ·rename_i hx hl
       have n2:=aq9 (d:=d) (p:=2) (by omega) (by omega)
       have n4:=aq9 (d:=d) (p:=4) (by omega) (by omega)
       have hae:bt d 0=0∨bt d 0=1∨bt d 0=2∨bt d 0=3:=by omega
       have hA:∀ a,a=(if bt d 0=3 then an6++aa2 d 6 8 else aa2 d 6 (an4 (bt d 0)))→bw3 (bt d 0) a=true∧a.length≤16∧(((if bt d 0=3 then a.drop 8 else a).length:Nat):Int)=an4 (bt d 0):=by
        intro a ha
        have hc:∀ n:Int,0≤n→n=an4 (bt d 0)→((aa2 d 6 n).length:Int)=n:=fun n h0 hn=>ah7 (by omega) h0 (by omega)
        rcases hae with e | e | e | e
        ·rw [e] at ha hc ⊢
         have:=hc 0 (by omega) rfl
         have e0:a=[]:=List.length_eq_zero_iff.1 (by rw [ha]; exact (by omega:(aa2 d 6 0).length=0))
         rw [e0]; exact ⟨rfl,by simp,rfl⟩
        ·rw [e] at ha hc ⊢
         have:=hc 4 (by omega) rfl
         have e0:(a.length:Int)=4:=by rw [ha]; exact this
         exact ⟨by simp [bw3]; omega,by omega,e0⟩
        ·rw [e] at ha hc ⊢
         have:=hc 16 (by omega) rfl
         have e0:(a.length:Int)=16:=by rw [ha]; exact this
         exact ⟨by simp [bw3]; omega,by omega,e0⟩
        ·rw [e] at ha hc ⊢
         have:=hc 8 (by omega) rfl
         rw [if_pos rfl] at ha
         have e1:aj0 a=true:=by rw [ha]; exact dQ7 (by omega)
         have e0:=(aA0 e1).1
         rw [if_pos rfl]
         exact ⟨by simp [bw3,e1],by omega,by simp [e0,an4]⟩
       obtain ⟨A1,A2,A3⟩:=hA _ rfl
       refine (bY4 _ _).imp (fun ⟨l,h,h1,h2,h3,h4⟩=>ca7 h ⟨w0,n4,w0,n2,bare _ rfl,aY2 h1 h2,A1⟩ (fun r=>good _ ⟨n300,?_,by simp,by simp,by simp,by simp,?_,by simp,by simp,by simp,h1.few⟩ r z10 z0 (show 0≤bt d 0∧bt d 0 < 100 by omega) z0 z0) ?_) id
       ·have:=bo2 (l:=l); simp at h4; dsimp only; omega
       ·dsimp only; omega
       ·have:=dC6 (l:=l)
        have hn:0≤an4 (bt d 0):=by unfold an4; split <;> (try split) <;> (try split) <;> omega
        generalize hq:(if bt d 0=3 then an6++aa2 d 6 8 else aa2 d 6 (an4 (bt d 0)))=a at A3 ⊢
        simp only [List.length_drop] at h3
        simp only [ah0,List.length_append,ab6]
        rw [if_neg (by decide),if_neg (by decide),if_neg (by decide)]
        simp only [List.length_append,ab6]
        omega
theorem ee6:∀ {l:List Sub} (p:Int),bD9 l→∃ tl,spl p (ab5 l)=.ok tl∧keep tl=l∧dr3 tl=true
 | [],p,_=>⟨[],aD3 p,rfl,rfl⟩
 | y::l,p,h=>by
  have hy:=h y (List.mem_cons_self ..)
  have h1:(aa1 y.type_).toNat=y.type_.toNat:=by have:=ai6 y.type_; rw [if_pos (by omega)] at this; omega
  have h2:(aa1 (y.data.length:Int)).toNat=y.data.length:=by have:=ai6 (y.data.length:Int); rw [if_pos (by omega)] at this; omega
  have h0:aa1 y.type_≠0:=fun e=>by rw [e] at h1; simp at h1; omega
  obtain ⟨tl,e1,e2,e3⟩:=ee6 (l:=l) (p+2+y.data.length) (fun z hz=>h z (List.mem_cons_of_mem _ hz))
  refine ⟨⟨y.type_,p,y.data⟩::tl,?_,?_,?_⟩
  ·rw [ab5,bc5 h0 (by rw [h2]; simp),h2,h1]
   simp only [List.drop_left,List.take_left]
   rw [e1,show ((y.type_.toNat:Nat):Int)=y.type_ by omega]; rfl
  ·rw [keep,if_pos ⟨hy.1,hy.2.1⟩,e2]
  ·rw [cp4,e3,decide_eq_true hy.2.1]; rfl
theorem db7 {l:List Sub} (h:bD9 l) (h2:al0 l≤200):ar7 (ab5 l)=(l,true,0):=by
 obtain ⟨tl,e1,e2,e3⟩:=ee6 0 h
 unfold ar7
 rw [e1]
 dsimp only
 rw [e2,e3,dr4,if_neg (by omega)]
theorem aK8 {x y:Bs} {n:Int} (h:(x.length:Int)=n):aa2 (x++y) 0 n=x:=by
 unfold aa2
 rw [show ((0:Int)+n).toNat=x.length by omega]
 simp
theorem an5 {x y:Bs} {k:Nat} {p n:Int} (h:x.length=k) (hp:(k:Int)≤p) (hn:0≤n):aa2 (x++y) p n=aa2 y (p - k) n:=by
 unfold aa2
 obtain ⟨a,rfl⟩:∃ a:Nat,p=k+a:=⟨(p - k).toNat,by omega⟩
 obtain ⟨b,rfl⟩:∃ b:Nat,n=b:=⟨n.toNat,by omega⟩
 rw [show ((k:Int)+(a:Int)+(b:Int)).toNat=k+(a+b) by omega,show ((k:Int)+(a:Int)).toNat=k+a by omega,show ((k:Int)+(a:Int) - (k:Int)+(b:Int)).toNat=a+b by omega,show ((k:Int)+(a:Int) - (k:Int)).toNat=a by omega,← h,List.take_length_add_append,List.drop_length_add_append]
theorem aA3 {n:Int} (h:0≤n∧n < 65536):num (be 2 n)=n:=ci9 2 n h.1 h.2
theorem el0 {m:Msg} (r:aB6 m):aQ3 (m.kind - 5) (ah0 m++ab5 m.subs)=(m,true,0):=by
 obtain ⟨hr,hs⟩:=aK7 r.subs
 have hg:=db7 hr hs
 have hbare:=r.bare
 have l2:∀ n,(be 2 n).length=2:=ab6 2
 have cat:∀ (a b:Int) (x:Bs),(be 2 a++(be 2 b++x)).drop 4=x:=fun a b x=>by
  rw [← List.append_assoc,List.drop_left' (by simp [l2])]
 have fin:∀ F:List Sub→Msg,F m.subs=m→cw1 F (ar7 (ab5 m.subs))=(m,true,0):=fun F h=>by rw [hg]; show (F m.subs,true,0)=_; rw [h]
 have eqm:∀ x,ah2 m=some x→x=m:=fun x h=>by rw [ag0,h] at hbare; exact aO2.1 hbare
 rcases r.kinds with hk | hk | ⟨hk,hf⟩ | ⟨hk,ha⟩
 ·have hx:=eqm _ (by unfold ah2; rw [if_neg (by omega),if_neg (by omega),if_neg (by omega),if_neg (by omega),if_neg (by omega),if_neg (by omega),if_pos hk])
  have ef:ah0 m=be 2 0++(be 2 m.nonce++be 2 m.interval):=by unfold ah0; rw [if_pos hk]
  rw [ef,hk]
  have el:(be 2 0++(be 2 m.nonce++be 2 m.interval)++ab5 m.subs).length=6+(ab5 m.subs).length:=by simp [l2]; omega
  have e1:aa2 (be 2 0++(be 2 m.nonce++be 2 m.interval)++ab5 m.subs) 2 2=be 2 m.nonce:=by
   rw [List.append_assoc,an5 (l2 _) (by omega) (by omega),List.append_assoc]; exact aK8 (by simp [l2])
  have e2:aa2 (be 2 0++(be 2 m.nonce++be 2 m.interval)++ab5 m.subs) 4 2=be 2 m.interval:=by
   rw [List.append_assoc,an5 (l2 _) (by omega) (by omega),List.append_assoc,an5 (l2 _) (by omega) (by omega)]; exact aK8 (by simp [l2])
  have e3:(be 2 0++(be 2 m.nonce++be 2 m.interval)++ab5 m.subs).drop 6=ab5 m.subs:=List.drop_left' (by simp [l2])
  unfold aQ3
  rw [if_pos (by omega),if_neg (by omega),e1,e2,e3,aA3 r.nonce,aA3 r.interval]
  refine fin _ ?_
  rw [hk] at hx
  exact hx
 ·have hx:=eqm _ (by unfold ah2; rw [if_neg (by omega),if_neg (by omega),if_neg (by omega),if_neg (by omega),if_neg (by omega),if_neg (by omega),if_neg (by omega),if_pos hk])
  have ef:ah0 m=be 2 m.nonce:=by unfold ah0; rw [if_neg (by omega),if_pos hk]
  rw [ef,hk]
  have el:(be 2 m.nonce++ab5 m.subs).length=2+(ab5 m.subs).length:=by simp [l2]
  have e1:aa2 (be 2 m.nonce++ab5 m.subs) 0 2=be 2 m.nonce:=aK8 (by simp [l2])
  have e3:(be 2 m.nonce++ab5 m.subs).drop 2=ab5 m.subs:=List.drop_left' (by simp [l2])
  unfold aQ3
  rw [if_neg (by omega),if_pos (by omega),if_neg (by omega),e1,e3,aA3 r.nonce]
  refine fin _ ?_
  rw [hk] at hx
  exact hx
 ·have hx:=eqm _ (by unfold ah2; rw [if_neg (by omega),if_neg (by omega),if_neg (by omega),if_neg (by omega),if_neg (by omega),if_neg (by omega),if_neg (by omega),if_neg (by omega),if_pos hk])
  have ef:ah0 m=be 2 (32768 * m.flags)++(be 2 m.seq++be 2 m.interval):=by unfold ah0; rw [if_neg (by omega),if_neg (by omega),if_pos hk]
  rw [ef,hk]
  have el:(be 2 (32768 * m.flags)++(be 2 m.seq++be 2 m.interval)++ab5 m.subs).length=6+(ab5 m.subs).length:=by simp [l2]; omega
  have e0:bt (be 2 (32768 * m.flags)++(be 2 m.seq++be 2 m.interval)++ab5 m.subs) 0 / 128=m.flags:=by
   rw [← eB6 _ (by omega),List.append_assoc,aK8 (by simp [l2]),aA3 (by omega)]; omega
  have e1:aa2 (be 2 (32768 * m.flags)++(be 2 m.seq++be 2 m.interval)++ab5 m.subs) 2 2=be 2 m.seq:=by
   rw [List.append_assoc,an5 (l2 _) (by omega) (by omega),List.append_assoc]; exact aK8 (by simp [l2])
  have e2:aa2 (be 2 (32768 * m.flags)++(be 2 m.seq++be 2 m.interval)++ab5 m.subs) 4 2=be 2 m.interval:=by
   rw [List.append_assoc,an5 (l2 _) (by omega) (by omega),List.append_assoc,an5 (l2 _) (by omega) (by omega)]; exact aK8 (by simp [l2])
  have e3:(be 2 (32768 * m.flags)++(be 2 m.seq++be 2 m.interval)++ab5 m.subs).drop 6=ab5 m.subs:=List.drop_left' (by simp [l2])
  unfold aQ3
  rw [if_neg (by omega),if_neg (by omega),if_pos (by omega),if_neg (by omega),e0,e1,e2,e3,aA3 r.seq,aA3 r.interval]
  refine fin _ ?_
  rw [hk] at hx
  exact hx
 ·have hx:=eqm _ (by unfold ah2; rw [if_neg (by omega),if_neg (by omega),if_neg (by omega),if_neg (by omega),if_neg (by omega),if_neg (by omega),if_neg (by omega),if_neg (by omega),if_neg (by omega),if_pos hk])
  obtain ⟨A,hA⟩:∃ A,A=(if m.ae=3 then m.addr.drop 8 else m.addr):=⟨_,rfl⟩
  have hc:=cw0 ha
  have hae:0≤m.ae∧m.ae≤3:=by rcases hc with ⟨h,_⟩ | ⟨h,_⟩ | ⟨h,_⟩ | ⟨h,_⟩ <;> omega
  have ef:ah0 m=be 2 (256 * m.ae)++(be 2 m.cost++(be 2 m.interval++A)):=by unfold ah0; rw [if_neg (by omega),if_neg (by omega),if_neg (by omega),hA]
  have hAl:(A.length:Int)=an4 m.ae∧(if m.ae=3 then an6++A else A)=m.addr:=by
   rcases hc with ⟨h,h2⟩ | ⟨h,h2⟩ | ⟨h,h2⟩ | ⟨h,h2⟩
   ·rw [h] at hA ⊢; rw [if_neg (by omega)] at hA ⊢; rw [hA,h2]; exact ⟨rfl,rfl⟩
   ·rw [h] at hA ⊢; rw [if_neg (by omega)] at hA ⊢; rw [hA]; exact ⟨by rw [h2]; rfl,rfl⟩
   ·rw [h] at hA ⊢; rw [if_neg (by omega)] at hA ⊢; rw [hA]; exact ⟨by rw [h2]; rfl,rfl⟩
   ·rw [h] at hA ⊢; rw [if_pos rfl] at hA ⊢; rw [hA]; exact ⟨by rw [List.length_drop,(aA0 h2).1]; rfl,dC4 h2⟩
  rw [ef,hk]
  have el:(be 2 (256 * m.ae)++(be 2 m.cost++(be 2 m.interval++A))++ab5 m.subs).length=6+A.length+(ab5 m.subs).length:=by simp [l2]; omega
  have e0:bt (be 2 (256 * m.ae)++(be 2 m.cost++(be 2 m.interval++A))++ab5 m.subs) 0=m.ae:=by
   rw [← eB5 _ (by omega),List.append_assoc,aK8 (by simp [l2]),aA3 (by omega)]; omega
  have e1:aa2 (be 2 (256 * m.ae)++(be 2 m.cost++(be 2 m.interval++A))++ab5 m.subs) 2 2=be 2 m.cost:=by
   rw [List.append_assoc,an5 (l2 _) (by omega) (by omega),List.append_assoc]; exact aK8 (by simp [l2])
  have e2:aa2 (be 2 (256 * m.ae)++(be 2 m.cost++(be 2 m.interval++A))++ab5 m.subs) 4 2=be 2 m.interval:=by
   rw [List.append_assoc,an5 (l2 _) (by omega) (by omega),List.append_assoc,an5 (l2 _) (by omega) (by omega),List.append_assoc]; exact aK8 (by simp [l2])
  have e4:aa2 (be 2 (256 * m.ae)++(be 2 m.cost++(be 2 m.interval++A))++ab5 m.subs) 6 (an4 m.ae)=A:=by
   rw [List.append_assoc,an5 (l2 _) (by omega) (by omega),List.append_assoc,an5 (l2 _) (by omega) (by omega),List.append_assoc,an5 (l2 _) (by omega) (by omega)]; exact aK8 hAl.1
  have e3:(be 2 (256 * m.ae)++(be 2 m.cost++(be 2 m.interval++A))++ab5 m.subs).drop (6+an4 m.ae).toNat=ab5 m.subs:=List.drop_left' (by simp [l2]; omega)
  unfold aQ3
  rw [if_neg (by omega),if_neg (by omega),if_neg (by omega),if_neg (by omega),e0,if_neg (by omega),if_neg (by omega),e1,e2,e3,aA3 r.cost,aA3 r.interval]
  refine fin _ ?_
  have e5:(if m.ae=3 then an6++aa2 (be 2 (256 * m.ae)++(be 2 m.cost++(be 2 m.interval++A))++ab5 m.subs) 6 8 else aa2 (be 2 (256 * m.ae)++(be 2 m.cost++(be 2 m.interval++A))++ab5 m.subs) 6 (an4 m.ae))=m.addr:=by
   rw [e4]
   by_cases h3:m.ae=3
   ·have h8:an4 m.ae=8:=by rw [h3]; rfl
    rw [h8] at e4
    rw [if_pos h3,e4]
    have:=hAl.2; rw [if_pos h3] at this; exact this
   ·have:=hAl.2; rw [if_neg h3] at this ⊢; exact this
  rw [e5]
  rw [hk] at hx
  exact hx
theorem aB6.small {m:Msg} (r:aB6 m):(ah0 m).length≤22:=by
 unfold ah0; split
 ·simp [ab6]
 ·split
  ·simp [ab6]
  ·split
   ·simp [ab6]
   ·rcases r.kinds with hk | hk | ⟨hk,_⟩ | ⟨hk,ha⟩ <;> first | omega | skip
    rcases cw0 ha with ⟨h,h2⟩ | ⟨h,h2⟩ | ⟨h,h2⟩ | ⟨h,h2⟩
    ·simp [ab6,h,h2]
    ·simp [ab6,h,h2]
    ·simp [ab6,h,h2]
    ·have:=(aA0 h2).1
     simp [ab6,h,this]
theorem el1 {m:Msg} (r:aB6 m):aF9 m=(aa1 (m.kind - 5)::aa1 (ah0 m++ab5 m.subs).length::(ah0 m++ab5 m.subs),true)∧(ah0 m++ab5 m.subs).length≤255∧2≤m.kind - 5∧m.kind - 5≤5:=by
 have h1:=r.small
 have h2:=bc7 r.subs
 have hk:2≤m.kind - 5∧m.kind - 5≤5:=by rcases r.kinds with h | h | ⟨h,_⟩ | ⟨h,_⟩ <;> omega
 have hl:(ah0 m++ab5 m.subs).length≤255:=by simp; omega
 refine ⟨?_,hl,hk⟩
 unfold aF9
 rw [if_pos (ay4.2 r),au5,if_pos ⟨by omega,by omega,hl⟩]
theorem eL5 {t p:Int} {d:Bs} (ht:1≤t∧t≤255) (hd:d.length≤255):spl p (aa1 t::aa1 d.length::d)=.ok [⟨t,p,d⟩]:=by
 have h1:(aa1 t).toNat=t.toNat:=by have:=ai6 t; rw [if_pos (by omega)] at this; omega
 have h2:(aa1 (d.length:Int)).toNat=d.length:=by have:=ai6 (d.length:Int); rw [if_pos (by omega)] at this; omega
 have h0:aa1 t≠0:=fun e=>by rw [e] at h1; simp at h1; omega
 rw [bc5 h0 (by omega),h2,List.drop_length,aD3,List.take_length,h1]
 simp only [Except.map]
 rw [show ((t.toNat:Nat):Int)=t by omega]
theorem eL6:ar7 []=([],true,0):=by unfold ar7; rw [aD3]; rfl
end Go.VP
namespace Go.VP
open Go Go.VI
def szA (ae:Int):Int:=if ae=0 then 0 else (if ae=1 then 4 else (if ae=2 then 16 else 16))
def ag2 (ae:Int):Int:=if ae=0 then 0 else (if ae=1 then 0 else (if ae=2 then 0 else 8))
def aY3 (ae:Int):Int:=if ae=0 then 0 else (if ae=1 then 0 else (if ae=2 then 0 else 64))
def ay5 (ae:Int):Int:=if ae=0 then 0 else (if ae=1 then 32 else (if ae=2 then 128 else 128))
theorem aY4 {ae:Int} (h:0≤ae∧ae < 4):ae=0∨ae=1∨ae=2∨ae=3:=by omega
def inB (ae:Int) (a:Bs) (plen:Int):Bool:=decide (0≤ae∧ae < 4) && (decide ((a.length:Int)=szA ae) && (decide (aY3 ae≤plen∧plen≤ay5 ae) && (bh1 a plen && (decide (ae≠3) || aj0 a))))
theorem eR8 {ae plen:Int} {a:Bs} (ha:a.length≤1000000000) (hp:IntKind.has .i64 plen):br1 (ae,a,plen,())=some ((inB ae a plen,()),()):=by
 rw [dV8,aH5,Option.bind_some]
 dsimp only
 unfold inB
 by_cases h0:ae < 0
 ·rw [ifd h0,decide_eq_false (by omega)]; rfl
 by_cases h3:3 < ae
 ·rw [ifn h0,ifd h3,decide_eq_false (by omega)]; rfl
 have hae:0≤ae∧ae < 4:=by omega
 rw [ifn h0,ifn h3,if_pos hae,decide_eq_true hae,Bool.true_and]
 change (if ((a.length:Int)==szA ae)=true then (if decide (aY3 ae≤plen)=true then (if decide (plen≤ay5 ae)=true then _ else _) else _) else _)=_
 by_cases h1:(a.length:Int)=szA ae
 ·rw [if_pos (by simp [h1]),decide_eq_true h1,Bool.true_and]
  by_cases h2:aY3 ae≤plen
  ·rw [ifd h2]
   by_cases h4:plen≤ay5 ae
   ·rw [ifd h4,decide_eq_true ⟨h2,h4⟩,Bool.true_and,dr5 ha hp,Option.bind_some,cC3]
    dsimp only
    cases bh1 a plen
    ·rfl
    ·rw [ift,Bool.true_and]
     by_cases h5:ae=3
     ·rw [if_neg (by simp [h5])]; simp [h5]
     ·rw [if_pos (by simp [h5])]; simp [h5]
   ·rw [ifn h4,decide_eq_false (by omega)]; rfl
  ·rw [ifn h2,decide_eq_false (by omega)]; rfl
 ·rw [if_neg (by simp [h1]),decide_eq_false h1]; rfl
def df4 (m:Msg):Bool:=if m.kind=12 then true else if m.kind=13 then (decide (0 < m.ae) && (ac7 m.seq 2 && (decide (1≤m.hops∧m.hops≤255) && decide (m.id.length=8)))) else false
noncomputable def bL6 (m:Msg):Bool:=ag0 m && (aq2 m.subs && (inB m.ae m.prefix_ m.plen && df4 m))
theorem fa1 (l:Bs):((l.length:Int)==8)=decide (l.length=8):=by rw [Bool.eq_iff_iff]; simp; omega
theorem dC7 {m:Msg} (g:bw4 m):aD0 (m,())=some ((bL6 m,()),()):=by
 have h2:ab1 (m.seq,2,())=some ((ac7 m.seq 2,()),()):=ar3 (k:=2) g.seq (by omega) (by omega)
 have h1:ab1 (m.hops,1,())=some ((ac7 m.hops 1,()),()):=ar3 (k:=1) g.hops (by omega) (by omega)
 rw [dp8,bc6,Option.bind_some,cp3 g.few.fewS,Option.bind_some,eR8 (by have:=g.few.pre; omega) g.plen,Option.bind_some,h1,h2]
 dsimp only
 unfold bL6
 cases ag0 m
 ·rfl
 rw [ah3,Bool.true_and]
 cases aq2 m.subs
 ·rfl
 rw [ah3,Bool.true_and]
 cases inB m.ae m.prefix_ m.plen
 ·rfl
 rw [ah3,Bool.true_and]
 unfold df4
 refine aa9 (fun h=>?_) (fun h=>?_)
 ·rw [if_pos h]
 rw [if_neg h]
 refine aa9 (fun h=>?_) (fun h=>?_)
 ·rw [if_pos h,Option.bind_some,Option.bind_some,fa1]
  by_cases ha:0 < m.ae
  ·rw [ifd ha,decide_eq_true ha,Bool.true_and]
   cases ac7 m.seq 2
   ·rfl
   rw [ift,Bool.true_and]
   by_cases hh:0 < m.hops
   ·rw [ifd hh]
    have:ac7 m.hops 1=decide (1≤m.hops∧m.hops≤255):=by unfold ac7; rw [Bool.eq_iff_iff]; simp; omega
    rw [this]
    cases decide (1≤m.hops∧m.hops≤255) <;> rfl
   ·rw [ifn hh,decide_eq_false (by omega)]; rfl
  ·rw [ifn ha,decide_eq_false ha]; rfl
 rw [if_neg h]
structure au7 (m:Msg):Prop where
 bare:ag0 m=true
 subs:aq2 m.subs=true
 ae:0≤m.ae∧m.ae < 4
 len:(m.prefix_.length:Int)=szA m.ae
 plen:aY3 m.ae≤m.plen∧m.plen≤ay5 m.ae
 clean:ai2 m.prefix_ m.plen=m.prefix_
 link:m.ae=3→aj0 m.prefix_=true
 kind:df4 m=true
theorem df5 {ae plen:Int} {a:Bs}:inB ae a plen=true↔(0≤ae∧ae < 4)∧(a.length:Int)=szA ae∧(aY3 ae≤plen∧plen≤ay5 ae)∧ai2 a plen=a∧(ae=3→aj0 a=true):=by
 unfold inB bh1
 simp only [Bool.and_eq_true,decide_eq_true_eq,beq_iff_eq,Bool.or_eq_true]
 constructor
 ·rintro ⟨a,b,c,d,e⟩; exact ⟨a,b,c,d,fun h=>e.resolve_left (fun h2=>h2 h)⟩
 ·rintro ⟨a,b,c,d,e⟩; exact ⟨a,b,c,d,by by_cases h:ae=3 <;> simp [h,e]⟩
theorem ay6 {m:Msg}:bL6 m=true↔au7 m:=by
 unfold bL6
 simp only [Bool.and_eq_true,df5]
 exact ⟨fun ⟨a,b,⟨c,d,e,f,g⟩,h⟩=>⟨a,b,c,d,e,f,g,h⟩,fun h=>⟨h.1,h.2,⟨h.3,h.4,h.5,h.6,h.7⟩,h.8⟩⟩
theorem au7.kinds {m:Msg} (h:au7 m):m.kind=12∨(m.kind=13∧0 < m.ae∧(0≤m.seq∧m.seq < 65536)∧(1≤m.hops∧m.hops≤255)∧m.id.length=8):=by
 have:=h.kind
 unfold df4 at this
 split at this
 ·exact .inl (by assumption)
 ·split at this
  ·simp only [Bool.and_eq_true,decide_eq_true_eq,cj2] at this
   exact .inr ⟨by assumption,this⟩
  ·cases this
def ac5 (m:Msg):Bs:=(cj1 m.prefix_ m.plen).drop (ag2 m.ae).toNat
theorem el2 (a:Bs) (n:Int):(cj1 a n).length=min (ad9 n).toNat a.length:=by unfold cj1; rw [aY1,List.length_take]
theorem at9 {ae plen:Int} (hae:0≤ae∧ae < 4) (hp:aY3 ae≤plen∧plen≤ay5 ae):0≤ag2 ae∧ag2 ae≤ad9 plen∧ad9 plen≤szA ae∧0≤plen∧plen≤128∧szA ae≤16:=by
 have h8:ad9 plen=if plen < 0 then 0 else (plen+7) / 8:=rfl
 rcases aY4 hae with rfl | rfl | rfl | rfl
 ·have:0≤plen∧plen≤0:=hp
  rw [h8]; show 0≤(0:Int)∧(0:Int)≤_∧_≤(0:Int)∧_∧_∧(0:Int)≤16; rw [if_neg (by omega)]; omega
 ·have:0≤plen∧plen≤32:=hp
  rw [h8]; show 0≤(0:Int)∧(0:Int)≤_∧_≤(4:Int)∧_∧_∧(4:Int)≤16; rw [if_neg (by omega)]; omega
 ·have:0≤plen∧plen≤128:=hp
  rw [h8]; show 0≤(0:Int)∧(0:Int)≤_∧_≤(16:Int)∧_∧_∧(16:Int)≤16; rw [if_neg (by omega)]; omega
 ·have:64≤plen∧plen≤128:=hp
  rw [h8]; show 0≤(8:Int)∧(8:Int)≤_∧_≤(16:Int)∧_∧_∧(16:Int)≤16; rw [if_neg (by omega)]; omega
theorem au7.cut {m:Msg} (h:au7 m):((cj1 m.prefix_ m.plen).length:Int)=ad9 m.plen∧((ac5 m).length:Int)=ad9 m.plen - ag2 m.ae:=by
 obtain ⟨h1,h2,h3,h4,h5,h6⟩:=at9 h.ae h.plen
 have:=h.len
 have hc:((cj1 m.prefix_ m.plen).length:Int)=ad9 m.plen:=by rw [el2]; omega
 exact ⟨hc,by unfold ac5; rw [List.length_drop]; omega⟩
def aC4 (m:Msg):Bs:=if m.kind=13 then aa1 m.ae::aa1 m.plen::(be 2 m.seq++(aa1 m.hops::0::(m.id++ac5 m))) else aa1 m.ae::aa1 m.plen::ac5 m
noncomputable def aG0 (m:Msg):Bs × Bool:=if bL6 m=true then au5 (if m.kind=13 then 10 else 9) (aC4 m++ab5 m.subs) else ([],false)
theorem u8w {n:Int} (h:0≤n):aa1 (IntKind.wrap .u8 n)=aa1 n:=by rw [wu8,aE5 h]
theorem fe6 {n:Int} (h:0≤n∧n < 65536):be 2 n=[aa1 (IntKind.wrap .u8 (ac8 .i64 n 8)),aa1 (IntKind.wrap .u8 n)]:=(be2 h).symm
theorem eB7 {m:Msg} (g:bw4 m):bf6 (m,())=some (((aG0 m).1,(aG0 m).2,()),()):=by
 rw [dJ5,dC7 g,Option.bind_some]
 unfold aG0
 dsimp only
 by_cases h:bL6 m=true
 ·have r:=ay6.1 h
  have hs:=dK4 g.few.fewS (by have:=g.few.subs; omega)
  rw [ee4 r.subs] at hs
  have hz:=bc7 r.subs
  obtain ⟨c1,c2⟩:=r.cut
  obtain ⟨l1,l2,l3,l4,l5,l6⟩:=at9 r.ae r.plen
  have hcut:=en7 (a:=m.prefix_) (n:=m.plen) (by have:=g.few.pre; omega) g.plen (by omega)
  rw [if_neg (by simp [h]),if_pos h,hs,Option.bind_some,hcut,aH5,u8w r.ae.1,u8w l4]
  simp only [Option.bind_some]
  have hd:((cj1 m.prefix_ m.plen).drop (ag2 m.ae).toNat)=ac5 m:=rfl
  have hae:0≤m.ae∧m.ae < 4:=r.ae
  rcases r.kinds with hk | ⟨hk,_,hq,hh,hi⟩
  ·rw [if_neg (show ¬(m.kind==13)=true by simp [hk]),if_pos hae]
   change (if 0≤ag2 m.ae∧ag2 m.ae≤((cj1 m.prefix_ m.plen).length:Int) then (if ag7 ([aa1 m.ae,aa1 m.plen].length+(ac5 m).length)=true then (if af9 (([aa1 m.ae,aa1 m.plen]++ac5 m).length+(ab5 m.subs).length)=true then ((ah4 (9,(([aa1 m.ae,aa1 m.plen]++ac5 m)++ab5 m.subs),())).bind _) else none) else none) else none)=_
   rw [if_pos (by omega),if_pos (ah6 (by simp; omega)),if_pos (af7 (by simp; omega)),bc4,Option.bind_some,if_neg (show ¬m.kind=13 by omega)]
   unfold aC4
   rw [if_neg (show ¬m.kind=13 by omega)]; rfl
  ·rw [if_pos (show (m.kind==13)=true by simp [hk]),if_pos (ah6 (by simp)),if_pos (ah6 (by simp; omega)),if_pos hae,u8w (n:=m.hops) (by omega)]
   change (if 0≤ag2 m.ae∧ag2 m.ae≤((cj1 m.prefix_ m.plen).length:Int) then (if ag7 ((([aa1 m.ae,aa1 m.plen]++[aa1 (IntKind.wrap .u8 (ac8 .i64 m.seq 8)),aa1 (IntKind.wrap .u8 m.seq),aa1 m.hops,0])++m.id).length+(ac5 m).length)=true then (if af9 (((([aa1 m.ae,aa1 m.plen]++[aa1 (IntKind.wrap .u8 (ac8 .i64 m.seq 8)),aa1 (IntKind.wrap .u8 m.seq),aa1 m.hops,0])++m.id)++ac5 m).length+(ab5 m.subs).length)=true then ((ah4 (10,(((([aa1 m.ae,aa1 m.plen]++[aa1 (IntKind.wrap .u8 (ac8 .i64 m.seq 8)),aa1 (IntKind.wrap .u8 m.seq),aa1 m.hops,0])++m.id)++ac5 m)++ab5 m.subs),())).bind _) else none) else none) else none)=_
   rw [if_pos (by omega),if_pos (ah6 (by simp; omega)),if_pos (af7 (by simp; omega)),bc4,Option.bind_some,if_pos hk]
   unfold aC4
   rw [if_pos hk,fe6 hq]
   simp
 ·rw [Bool.not_eq_true] at h
  rw [h,am5,at2]
end Go.VP
