import Derived.Test.YtbjjekbhopgonaaGreatKcFH
import Derived.Test.YtbjjekbhopgonaaGreatKcFQ0
import Derived.Test.YtbjjekbhopgonaaGreatKcFQ2
import Derived.Test.YtbjjekbhopgonaaGreatKcFQ1
import Derived.Test.YtbjjekbhopgonaaGreatKcFQ11
import Derived.Test.YtbjjekbhopgonaaGreatKcFQ7
import Derived.Test.YtbjjekbhopgonaaGreatKcFQ8
import Derived.Test.YtbjjekbhopgonaaGreatKcFQ12
import Derived.Test.YtbjjekbhopgonaaGreatKcFQ3
import Derived.Test.YtbjjekbhopgonaaGreatKcFQ6
import Derived.Test.YtbjjekbhopgonaaGreatKcFQ9
import Derived.Test.YtbjjekbhopgonaaGreatKcFQ5
import Derived.Test.YtbjjekbhopgonaaGreatKcFQ15
import Derived.Test.YtbjjekbhopgonaaGreatKcFGood
import Derived.Test.YtbjjekbhopgonaaGreatKcFQ4
set_option linter.unusedVariables false
set_option linter.unusedSimpArgs false
set_option maxRecDepth 100000
namespace Go.VP
open Go Go.VI
abbrev Bs:=List UInt8
theorem w64 {x:Int} (h : -9223372036854775808≤x) (h':x≤9223372036854775807):IntKind.wrap .i64 x=x:=by
 simp only [IntKind.wrap,IntKind.bits,IntKind.signed]
 simp
 omega
theorem ev4 {x:Int} (h:0≤x) (h':x≤18446744073709551615):IntKind.wrap .u64 x=x:=by
 simp only [IntKind.wrap,IntKind.bits,IntKind.signed]
 simp
 omega
theorem wu8 {x:Int}:IntKind.wrap .u8 x=x % 256:=by
 simp only [IntKind.wrap,IntKind.bits,IntKind.signed]
 simp
theorem am4 (b:UInt8):IntKind.wrap .i64 (b.toNat:Int)=b.toNat:=by
 have:=b.toNat_lt; exact w64 (by omega) (by omega)
theorem a45 {x:Int}:IntKind.has .i64 x↔-9223372036854775808≤x∧x≤9223372036854775807:=by
 simp only [IntKind.has,IntKind.min,IntKind.max,IntKind.bits,IntKind.signed]
 simp
theorem a11 {n:Nat} (h:n≤9223372036854775807):a10 n=true:=Nat.ble_eq_true_of_le h
theorem a89 {n:Nat} (h:n≤35184372088832):a66 n=true:=Nat.ble_eq_true_of_le h
theorem cT7:∃ n,a04=n+1000000000000:=⟨1124899906842624,rfl⟩
theorem a28 {n:Nat} (h:n≤1125899906842623):n < a04:=Nat.lt_succ_of_le h
theorem eI3 {x y:Int} (hx:0≤x∧x < 36028797018963968) (hy:0≤y∧y < 256):a47 .or .i64 (a91 .i64 x 8) y=x * 256+y:=by
 obtain ⟨a,rfl⟩:∃ a:Nat,x=a:=⟨x.toNat,by omega⟩
 obtain ⟨b,rfl⟩:∃ b:Nat,y=b:=⟨y.toNat,by omega⟩
 have e:a91 .i64 (a:Int) 8=((a * 256:Nat):Int):=by
  unfold a91
  rw [Int.mul_comm]
  have:(2:Int) ^ (min (8:Int).toNat IntKind.i64.bits)=256:=by decide
  rw [this,w64 (by omega) (by omega)]
  omega
 rw [e]
 unfold a47
 show IntKind.wrap .i64 (((BitVec.ofInt 64 ((a * 256:Nat):Int) ||| BitVec.ofInt 64 (b:Int)).toNat:Nat):Int)=_
 rw [BitVec.toNat_or,BitVec.ofInt_natCast,BitVec.ofInt_natCast,BitVec.toNat_ofNat,BitVec.toNat_ofNat,Nat.mod_eq_of_lt (by omega),Nat.mod_eq_of_lt (by omega)]
 have:a * 256 ||| b=a * 256+b:=by
  have:=Nat.two_pow_add_eq_or_of_lt (i:=8) (b:=b) (by omega) a
  rw [Nat.mul_comm a 256]
  exact this.symm
 rw [this,w64 (by omega) (by omega)]
 omega
theorem eD7 {a b:Nat} (ha:a < 256) (hb:b < 256):a47 .xor .u8 (a:Int) (b:Int)=((a ^^^ b:Nat):Int):=by
 unfold a47
 show IntKind.wrap .u8 (((BitVec.ofInt 8 (a:Int) ^^^ BitVec.ofInt 8 (b:Int)).toNat:Nat):Int)=_
 have h:a ^^^ b < 256:=Nat.xor_lt_two_pow (n:=8) ha hb
 rw [BitVec.toNat_xor,BitVec.ofInt_natCast,BitVec.ofInt_natCast,BitVec.toNat_ofNat,BitVec.toNat_ofNat,Nat.mod_eq_of_lt ha,Nat.mod_eq_of_lt hb,wu8]
 omega
theorem eD8 {a b:Nat} (ha:a < 256) (hb:b < 256):a47 .and .u8 (a:Int) (b:Int)=((a &&& b:Nat):Int):=by
 unfold a47
 show IntKind.wrap .u8 (((BitVec.ofInt 8 (a:Int) &&& BitVec.ofInt 8 (b:Int)).toNat:Nat):Int)=_
 have h:a &&& b≤a:=Nat.and_le_left
 rw [BitVec.toNat_and,BitVec.ofInt_natCast,BitVec.ofInt_natCast,BitVec.toNat_ofNat,BitVec.toNat_ofNat,Nat.mod_eq_of_lt ha,Nat.mod_eq_of_lt hb,wu8]
 omega
theorem cl1 (n:Int):((a01 n).toNat:Int)=if 0≤n then n % 256 else 0:=by
 unfold a01
 have:(n.toNat.toUInt8).toNat=n.toNat % 256:=by simp
 rw [this]
 split <;> omega
theorem aJ5 (b:UInt8):a01 (b.toNat:Int)=b:=by
 unfold a01; simp
theorem an2 {n:Int} (h:0≤n):a01 (n % 256)=a01 n:=by
 apply UInt8.toNat.inj
 have h1:=cl1 (n % 256); have h2:=cl1 n
 rw [if_pos (by omega)] at h1; rw [if_pos h] at h2; omega
theorem b92 {a b:UInt8} (h:(a.toNat:Int)=b.toNat):a=b:=UInt8.toNat.inj (by omega)
def num (l:Bs):Int:=l.foldl (fun n b=>n * 256+(b.toNat:Int)) 0
theorem eg2:∀ (l:Bs) (x:Int),0≤x→0≤l.foldl (fun n b=>n * 256+(b.toNat:Int)) x∧l.foldl (fun n b=>n * 256+(b.toNat:Int)) x < (x+1) * 256 ^ l.length
 | [],x,h=>by simp; omega
 | b::l,x,h=>by
  have hb:=b.toNat_lt
  obtain ⟨h1,h2⟩:=eg2 l (x * 256+(b.toNat:Int)) (by omega)
  refine ⟨h1,Int.lt_of_lt_of_le h2 ?_⟩
  rw [List.length_cons,Int.pow_succ,Int.mul_comm (256 ^ l.length) 256,← Int.mul_assoc]
  exact Int.mul_le_mul_of_nonneg_right (by omega) (Int.pow_nonneg (by decide))
theorem aF3 (l:Bs):0≤num l∧num l < 256 ^ l.length:=by
 have:=eg2 l 0 (by omega)
 rw [Int.zero_add,Int.one_mul] at this
 exact this
theorem bp4 (a:Bs) (b:UInt8):num (a++[b])=num a * 256+b.toNat:=by simp [num]
def be:Nat→Int→Bs
 | 0,_=>[]
 | k+1,n=>be k (n / 256)++[a01 (n % 256)]
theorem a21:∀ (k:Nat) (n:Int),(be k n).length=k
 | 0,_=>rfl
 | k+1,n=>by simp [be,a21 k]
theorem dZ0:∀ (k:Nat) (l:Bs),l.length=k→be k (num l)=l
 | 0,l,h=>by cases l with | nil=>rfl | cons=>simp at h
 | k+1,l,h=>by
  obtain ⟨a,b,rfl⟩:∃ a b,l=a++[b]:=⟨l.dropLast,l.getLast (by intro h2; subst h2; simp at h),(List.dropLast_concat_getLast _).symm⟩
  have ha:a.length=k:=by simpa using h
  have hb:=b.toNat_lt
  have h1:(num (a++[b])) / 256=num a:=by rw [bp4]; omega
  have h2:(num (a++[b])) % 256=b.toNat:=by rw [bp4]; omega
  rw [be,h1,h2,dZ0 k a ha,aJ5]
def a06 (s:Bs) (p n:Int):Bs:=(s.take (p+n).toNat).drop p.toNat
theorem a61 {s:Bs} {p n:Int} (h:0≤p) (h1:0≤n) (h2:p+n≤s.length):((a06 s p n).length:Int)=n:=by
 simp [a06]; omega
def bt (s:Bs) (i:Nat):Int:=((s[i]?.getD 0).toNat:Int)
theorem a31 (s:Bs) (i:Nat):0≤bt s i∧bt s i < 256:=by unfold bt; have:=(s[i]?.getD 0).toNat_lt; omega
theorem a40 {s:Bs} {i:Nat} (h:i < s.length):s[i]?=some (s[i]?.getD 0):=by simp [h]
theorem a27 {α β:Type} {l:List α} {i:Nat} (h:i < l.length) (f:α→Option β):(l[i]?.bind f)=f (l[i]'h):=by simp [h]
end Go.VP
namespace Go.VP
open Go Go.VI
abbrev cu (s:Bs) (p q:Int) (b:Bool):a34:=⟨s,p,q,b⟩
structure WfC (s:Bs) (p q:Int):Prop where
 lo:0≤p
 hi:p≤q
 top:q≤s.length
 sz:s.length≤1000000000000000
theorem bp5 (s:Bs):ab8 (s,())=some ((cu s 0 s.length false,()),()):=dU6 s
theorem eD9 {s:Bs} {p q n:Int} (w:WfC s p q) (h:0≤n) (h2:p+n≤q):aw4 (cu s p q false,n,())=some ((cu s (p+n) q false,true,()),()):=by
 have:=w.lo; have:=w.hi; have:=w.top; have:=w.sz
 rw [cj6]; dsimp only
 rw [if_neg (by decide),if_neg (by simpa using h),w64 (by omega) (by omega),if_neg (by simp; omega),w64 (by omega) (by omega)]
theorem ev5 {s:Bs} {p q n:Int} {b:Bool} (w:WfC s p q) (h:b=true∨n < 0∨q - p < n):aw4 (cu s p q b,n,())=some ((cu s p q true,false,()),()):=by
 have:=w.lo; have:=w.hi; have:=w.top; have:=w.sz
 rw [cj6]; dsimp only
 rw [w64 (x:=q - p) (by omega) (by omega)]
 simp only [decide_eq_true_eq]
 split
 ·rfl
 ·split
  ·rfl
  ·rw [if_pos]
   simp_all
theorem ev6 {n:Nat} {r:(a34 × Bool × Unit) × Unit} {l:Bs} (hl:l.length≤7):∀ (d i m:Nat) (x:Int),i+d=l.length→d < m→x=num (l.take i)→aX0 n m r x l l.length i=some ((num l,r.1.1,()),())
 | 0,i,m,x,h,hm,hx=>by
  obtain ⟨m,rfl⟩:∃ k,m=k+1:=⟨m - 1,by omega⟩
  rw [bY4,if_neg (by simp; omega),hx,List.take_of_length_le (by omega)]
 | d+1,i,m,x,h,hm,hx=>by
  obtain ⟨m,rfl⟩:∃ k,m=k+1:=⟨m - 1,by omega⟩
  have hi:i < l.length:=by omega
  have hp:=aF3 (l.take i)
  have hp2:(256:Int) ^ (l.take i).length≤256 ^ 6:=by
   have:(l.take i).length≤6:=by simp; omega
   generalize (l.take i).length=z at this
   match z,this with
   | 0,_ | 1,_ | 2,_ | 3,_ | 4,_ | 5,_ | 6,_=>decide
  have hp3:(256:Int) ^ 6=281474976710656:=by decide
  have hb:=(l[i]).toNat_lt
  rw [bY4,if_pos (by simp; omega),if_pos (by omega),Int.toNat_natCast,a27 hi,am4,hx,eI3 (by omega) (by omega),w64 (by omega) (by omega)]
  have:=ev6 (r:=r) (n:=n) hl d (i+1) m (num (l.take i) * 256+(l[i].toNat:Int)) (by omega) (by omega) (by rw [List.take_succ_eq_append_getElem hi,bp4])
  rw [show ((i+1:Nat):Int)=(i:Int)+1 by omega] at this
  exact this
theorem ak9 {s:Bs} {p q n:Int} (w:WfC s p q) (h:1≤n) (h7:n≤7) (h2:p+n≤q):a75 (cu s p q false,n,())=some ((num (a06 s p n),cu s (p+n) q false,()),()):=by
 have:=w.lo; have:=w.hi; have:=w.top; have:=w.sz
 have hl:=a61 (s:=s) (p:=p) (n:=n) (by omega) (by omega) (by omega)
 show bg2 a04 _=_
 rw [ct4,if_neg (by simp; omega),if_neg (by simp; omega),eD9 w (by omega) h2]
 rw [Option.bind_some]; dsimp only
 rw [if_neg (by decide),if_pos (by omega)]
 have:=ev6 (n:=a04) (r:=((cu s (p+n) q false,true,()),())) (l:=a06 s p n) (by omega) (a06 s p n).length 0 a04 0 (by omega) (a28 (by omega)) rfl
 exact this
theorem c35 {s:Bs} {p q n:Int} {b:Bool} (w:WfC s p q) (h:1≤n) (h7:n≤7) (h2:b=true∨q < p+n):a75 (cu s p q b,n,())=some ((0,cu s p q true,()),()):=by
 show bg2 a04 _=_
 rw [ct4,if_neg (by simp; omega),if_neg (by simp; omega),ev5 w (h2.imp id fun h=>.inr (by omega))]
 rfl
theorem ap0 {s:Bs} {p q n:Int} (w:WfC s p q) (h:0≤n) (h2:p+n≤q):a62 (cu s p q false,n,())=some ((a06 s p n,cu s (p+n) q false,()),()):=by
 have:=w.lo; have:=w.hi; have:=w.top; have:=w.sz
 rw [cj7,eD9 w (by omega) h2]
 rw [Option.bind_some]; dsimp only
 rw [if_neg (by decide),if_pos (by omega)]
 rfl
theorem ba8 {s:Bs} {p q n:Int} {b:Bool} (w:WfC s p q) (h:b=true∨n < 0∨q < p+n):a62 (cu s p q b,n,())=some (([],cu s p q true,()),()):=by
 rw [cj7,ev5 w (h.imp id fun h=>h.imp id fun h=>by omega)]
 rfl
theorem do5 {s:Bs} {p q:Int} (w:WfC s p q):ap6 (cu s p q false,())=some ((q - p,()),()):=by
 have:=w.lo; have:=w.hi; have:=w.top; have:=w.sz
 rw [dG7]; dsimp only
 rw [w64 (by omega) (by omega)]
 rfl
theorem WfC.fwd {s:Bs} {p q n:Int} (w:WfC s p q) (h:0≤n) (h2:p+n≤q):WfC s (p+n) q:=⟨by have:=w.lo; omega,h2,w.top,w.sz⟩
theorem WfC.whole {s:Bs} (h:s.length≤1000000000000000):WfC s 0 s.length:=⟨by omega,by omega,by omega,h⟩
theorem cB2 {s:Bs} {p:Nat} (h:p+1≤s.length):num (a06 s p 1)=bt s p:=by
 have e:a06 s p 1=[s[p]]:=by
  unfold a06
  rw [show ((p:Int)+1).toNat=p+1 by omega,Int.toNat_natCast,List.take_succ_eq_append_getElem (by omega),List.drop_append_of_le_length (by simp; omega)]
  simp [List.drop_take]
 rw [e]; simp [num,bt,List.getElem?_eq_getElem (show p < s.length by omega)]
theorem eZ7 {s:Bs} {p n:Nat} (h:p+n+1≤s.length):a06 s p (n+1:Nat)=a06 s p n++[s[p+n]'(by omega)]:=by
 unfold a06
 rw [show ((p:Int)+((n+1:Nat):Int)).toNat=p+n+1 by omega,show ((p:Int)+(n:Int)).toNat=p+n by omega,Int.toNat_natCast,List.take_succ_eq_append_getElem (by omega),List.drop_append_of_le_length (by simp; omega)]
theorem ev7 {s:Bs} {p n:Nat} (h:p+n+1≤s.length):num (a06 s p (n+1:Nat))=num (a06 s p n) * 256+bt s (p+n):=by
 rw [eZ7 h,bp4]
 simp [bt,List.getElem?_eq_getElem (show p+n < s.length by omega)]
theorem fj8 {s:Bs} {p:Nat} (h:p+2≤s.length):num (a06 s p 2)=bt s p * 256+bt s (p+1):=by
 have:=ev7 (s:=s) (p:=p) (n:=1) (by omega)
 rw [show ((1:Nat):Int)=1 from rfl,cB2 (by omega)] at this
 exact this
end Go.VP
namespace Go.VP
open Go Go.VI
theorem ifd {α:Sort _} {p:Prop} [d:Decidable p] {a b:α} (h:p):(if decide p=true then a else b)=a:=if_pos (decide_eq_true h)
theorem ifn {α:Sort _} {p:Prop} [d:Decidable p] {a b:α} (h:¬p):(if decide p=true then a else b)=b:=if_neg (by simpa using h)
theorem ift {α:Sort _} {a b:α}:(if true=true then a else b)=a:=rfl
theorem aa1 {α:Sort _} {a b:α}:(if false=true then a else b)=b:=rfl
theorem a41 {α:Sort _} {a b:α}:(if (!true)=true then a else b)=b:=rfl
theorem a83 {α:Sort _} {a b:α}:(if (!false)=true then a else b)=a:=rfl
def a25 (n:Int) (k:Nat):Bool:=decide (0≤n∧n < 256 ^ k)
theorem fo3 (k:Nat):(2:Int) ^ (8 * k)=256 ^ k:=by rw [Int.pow_mul]; rfl
theorem ak1 {n:Int} {k:Nat} (hn:IntKind.has .i64 n) (h1:1≤k) (h7:k≤7):a24 (n,(k:Int),())=some ((a25 n k,()),()):=by
 rw [a45] at hn
 rw [dU8,ifd (by omega),ifd (by omega)]
 by_cases h0:0≤n
 ·rw [ifd h0,w64 (x:=8 * (k:Int)) (by omega) (by omega),ev4 (by omega) (by omega),if_pos (by omega)]
  have e:a42 .i64 n (8 * (k:Int))=n / 256 ^ k:=by
   unfold a42
   rw [show min (8 * (k:Int)).toNat IntKind.i64.bits=8 * k by simp only [IntKind.bits]; omega,fo3]
   exact Int.fdiv_eq_ediv_of_nonneg _ (Int.pow_nonneg (by decide))
  have hp:(0:Int) < 256 ^ k:=Int.pow_pos (by decide)
  rw [e]
  unfold a25
  by_cases hlt:n < 256 ^ k
  ·rw [Int.ediv_eq_zero_of_lt h0 hlt]; simp [h0,hlt]
  ·have:1≤n / 256 ^ k:=Int.le_ediv_of_mul_le hp (by omega)
   have h2:(n / 256 ^ k==0)=false:=by simp; omega
   rw [h2]; simp [hlt]
 ·rw [ifn h0]; simp [a25,h0]
theorem eI4 {n x i:Int} {k c:Nat} (hk:k≤7):∀ (d:Nat) (m i:Nat),i+d=k→d < m→x=256 ^ i→aY6 c m n k x i=some ((decide (n < 256 ^ k),()),()):=by
 intro d
 induction d generalizing x with
 | zero=>
  intro m i h hm hx
  obtain ⟨m,rfl⟩:∃ k,m=k+1:=⟨m - 1,by omega⟩
  rw [bY8,ifn (by omega),hx,show i=k by omega]
 | succ d ih=>
  intro m i h hm hx
  obtain ⟨m,rfl⟩:∃ k,m=k+1:=⟨m - 1,by omega⟩
  have hp:(256:Int) ^ i≤281474976710656∧0≤(256:Int) ^ i:=by
   have:i≤6:=by omega
   match i,this with
   | 0,_ | 1,_ | 2,_ | 3,_ | 4,_ | 5,_ | 6,_=>decide
  rw [bY8,ifd (by omega),w64 (x:=x * 256) (by omega) (by omega),w64 (by omega) (by omega)]
  have:=ih (x:=x * 256) m (i+1) (by omega) (by omega) (by rw [hx,Int.pow_succ])
  rw [show ((i+1:Nat):Int)=(i:Int)+1 by omega] at this
  exact this
theorem bC6 {n:Int} {k:Nat} (h1:1≤k) (h7:k≤7):a81 (n,(k:Int),())=some ((a25 n k,()),()):=by
 show cb9 a04 _=_
 rw [dV7,ifn (by omega),ifn (by omega)]
 unfold a25
 by_cases h0:n < 0
 ·rw [ifd h0]; simp; omega
 ·have:=eI4 (n:=n) (x:=1) (i:=0) (c:=a04) h7 k a04 0 (by omega) (a28 (by omega)) (by simp)
  rw [ifn h0]
  simp only [Int.natCast_zero] at this
  rw [this]
  simp; omega
def ak5 (n:Int) (k:Nat):Bs × Bool:=if a25 n k=true then (be k n,true) else ([],false)
theorem eQ7 {c k:Nat} (hk:k≤7):∀ (d:Nat) (m i:Nat) (x:Int) (acc:Bs),i+d=k→d < m→0≤x→x≤9223372036854775807→acc.length=i→b84 c m k x acc i=some ((be d x++acc,true,()),()):=by
 intro d
 induction d with
 | zero=>
  intro m i x acc h hm h0 h1 ha
  obtain ⟨m,rfl⟩:∃ k,m=k+1:=⟨m - 1,by omega⟩
  rw [cj9,ifn (by omega)]
  rfl
 | succ d ih=>
  intro m i x acc h hm h0 h1 ha
  obtain ⟨m,rfl⟩:∃ k,m=k+1:=⟨m - 1,by omega⟩
  have e1:Int.tmod x 256=x % 256:=Int.tmod_eq_emod_of_nonneg h0
  have e2:Int.tdiv x 256=x / 256:=Int.tdiv_eq_ediv_of_nonneg h0
  rw [cj9,ifd (by omega),if_pos (a11 (by simp; omega)),e1,e2,w64 (by omega) (by omega),w64 (by omega) (by omega),wu8,Int.emod_emod_of_dvd _ (by decide:(256:Int) ∣ 256)]
  have:=ih m (i+1) (x / 256) ([a01 (x % 256)]++acc) (by omega) (by omega) (by omega) (by omega) (by simp; omega)
  rw [show ((i+1:Nat):Int)=(i:Int)+1 by omega] at this
  rw [this,be]
  simp
theorem c36 {n:Int} {k:Nat} (hn:IntKind.has .i64 n) (h1:1≤k) (h7:k≤7):ah0 (n,(k:Int),())=some (((ak5 n k).1,(ak5 n k).2,()),()):=by
 rw [a45] at hn
 show cz4 a04 _=_
 rw [e82,bC6 h1 h7,Option.bind_some]
 dsimp only
 unfold ak5
 by_cases h:a25 n k=true
 ·have h2:0≤n∧n < 256 ^ k:=by simpa [a25] using h
  have:=eQ7 (c:=a04) h7 k a04 0 n [] (by omega) (a28 (by omega)) h2.1 hn.2 rfl
  rw [show ((0:Nat):Int)=0 from rfl] at this
  rw [h,a41,this,ift]
  simp
 ·rw [Bool.not_eq_true] at h
  rw [h,a83,aa1]
theorem bL4 {n:Int} {k:Nat} (hn:IntKind.has .i64 n) (h1:1≤k) (h7:k≤7):a39 (n,(k:Int),())=some (((ak5 n k).1,()),()):=by
 rw [en4,c36 hn h1 h7]; rfl
theorem dB9 {n:Nat} {l:Bs} (hl:l.length≤7):∀ (d i m:Nat) (x:Int),i+d=l.length→d < m→x=num (l.take i)→aI4 n m l x i=some ((num l,()),())
 | 0,i,m,x,h,hm,hx=>by
  obtain ⟨m,rfl⟩:∃ k,m=k+1:=⟨m - 1,by omega⟩
  rw [bs7,ifn (by omega),hx,List.take_of_length_le (by omega)]
 | d+1,i,m,x,h,hm,hx=>by
  obtain ⟨m,rfl⟩:∃ k,m=k+1:=⟨m - 1,by omega⟩
  have hi:i < l.length:=by omega
  have hp:=aF3 (l.take i)
  have hp2:(256:Int) ^ (l.take i).length≤256 ^ 6:=by
   have:(l.take i).length≤6:=by simp; omega
   generalize (l.take i).length=z at this
   match z,this with
   | 0,_ | 1,_ | 2,_ | 3,_ | 4,_ | 5,_ | 6,_=>decide
  have hp3:(256:Int) ^ 6=281474976710656:=by decide
  have hb:=(l[i]).toNat_lt
  rw [bs7,ifd (by omega),ifd (by omega),if_pos (by omega),Int.toNat_natCast,a27 hi,am4,hx,w64 (x:=num (l.take i) * 256) (by omega) (by omega),w64 (by omega) (by omega),w64 (by omega) (by omega)]
  have:=dB9 (n:=n) hl d (i+1) m (num (l.take i) * 256+(l[i].toNat:Int)) (by omega) (by omega) (by rw [List.take_succ_eq_append_getElem hi,bp4])
  rw [show ((i+1:Nat):Int)=(i:Int)+1 by omega] at this
  exact this
theorem at0 {l:Bs} (hl:l.length≤7):a20 (l,())=some ((num l,()),()):=by
 show bz2 a04 _=_
 rw [ds6]
 exact dB9 (n:=a04) hl l.length 0 a04 0 (by omega) (a28 (by omega)) rfl
end Go.VP
namespace Go.VP
open Go Go.VI
abbrev Tlv:=a18
abbrev Sub:=a08
theorem fd1:aW8≤100:=Nat.le_of_ble_eq_true (by kernel_rfl)
theorem eq2:aG8≤100:=Nat.le_of_ble_eq_true (by kernel_rfl)
theorem aJ6 {a b:Nat} (h:a≤300000000000) (hb:b≤100):a66 (a * b)=true:=by
 refine a89 ?_
 have:a * b≤300000000000 * 100:=Nat.mul_le_mul h hb
 omega
def aw0 (t:Int) (d:Bs):Bs × Bool:=if 1≤t∧t≤255∧d.length≤255 then (a01 t::a01 d.length::d,true) else ([],false)
theorem eg3 (n:Int) (h:0≤n):a01 (n % 256)=a01 n:=by
 apply b92; rw [cl1,cl1,if_pos (by omega),if_pos h]; omega
theorem aN8 (t:Int) (d:Bs):a88 (t,d,())=some (((aw0 t d).1,(aw0 t d).2,()),()):=by
 rw [cN4]
 unfold aw0
 by_cases h1:t < 1
 ·rw [if_pos (by simpa using h1),if_neg (by omega)]
 ·rw [if_neg (by simpa using h1)]
  by_cases h2:255 < t
  ·rw [if_pos (by simpa using h2),if_neg (by omega)]
  ·rw [if_neg (by simpa using h2)]
   by_cases h3:(255:Int) < d.length
   ·rw [if_pos (by simpa using h3),if_neg (by omega)]
   ·have hh:1≤t∧t≤255∧d.length≤255:=by omega
    rw [if_neg (by simpa using h3),if_pos hh,wu8,wu8,eg3 _ (by omega),eg3 _ (by omega),if_pos (a11 (by simp; omega))]
    rfl
theorem au7 (t:Int) (d:Bs):aa3 (t,d,())=some (((aw0 t d).1,(aw0 t d).2,()),()):=by
 rw [e99]
 have:=aN8 t d
 rw [cN4] at this
 exact this
def spl (p:Int) (s:Bs):Except Int (List Tlv):=
 match s with
 | []=>.ok []
 | t::r=>
  if t=0 then (spl (p+1) r).map (⟨0,p,[]⟩::·)
  else match r with
   | []=>.error p
   | n::d=>if d.length < n.toNat then .error p else (spl (p+2+n.toNat) (d.drop n.toNat)).map (⟨t.toNat,p,d.take n.toNat⟩::·)
termination_by s.length
decreasing_by all_goals (simp_wf; try omega)
def aj5 (acc:List Tlv):Except Int (List Tlv)→List Tlv × Int × Int
 | .ok l=>(acc++l,0,0)
 | .error q=>([],q,2)
theorem c17 (acc:List Tlv) (x:Tlv) (r:Except Int (List Tlv)):aj5 acc (r.map (x::·))=aj5 (acc++[x]) r:=by
 cases r <;> simp [aj5,Except.map]
abbrev a35 {α β γ:Type} (x:α × β × γ):α × β × γ × Unit:=(x.1,x.2.1,x.2.2,())
theorem eQ8 {s:Bs} {p:Nat} (w:WfC s p s.length) (h:p < s.length) (hz:s[p]=0):at8 (cu s p s.length false,())=some ((⟨0,p,[]⟩,cu s (p+1) s.length false,()),()):=by
 rw [aS2,ak9 w (by omega) (by omega) (by omega),Option.bind_some]
 have e:num (a06 s p 1)=0:=by rw [cB2 (by omega),bt]; simp [h,hz]
 dsimp only
 rw [e]; rfl
theorem eZ8 {s:Bs} {p:Nat} (w:WfC s p s.length) (h:p+1=s.length) (hz:s[p]≠0):∃ t,at8 (cu s p s.length false,())=some ((t,cu s (p+1) s.length true,()),())∧t.at_=p:=by
 have e:(num (a06 s p 1)==0)=false:=by
  rw [cB2 (by omega),bt,List.getElem?_eq_getElem (by omega),Option.getD_some]
  simp
  intro h2; exact hz (UInt8.toNat.inj h2)
 have e2:((s.length:Nat):Int)=(p:Int)+1:=by omega
 rw [aS2,ak9 w (by omega) (by omega) (by omega),Option.bind_some]
 dsimp only
 rw [e,if_neg (by decide),c35 (w.fwd (by omega) (by omega)) (by omega) (by omega) (.inr (by omega)),Option.bind_some]
 dsimp only
 rw [ba8 (w.fwd (by omega) (by omega)) (.inl rfl),Option.bind_some]
 exact ⟨_,rfl,rfl⟩
theorem eZ9 {s:Bs} {p:Nat} (w:WfC s p s.length) (h:p+1 < s.length) (hz:s[p]≠0) (hb:s.length < p+2+s[p+1].toNat):∃ t,at8 (cu s p s.length false,())=some ((t,cu s (p+2) s.length true,()),())∧t.at_=p:=by
 have e:(num (a06 s p 1)==0)=false:=by
  rw [cB2 (by omega),bt,List.getElem?_eq_getElem (by omega),Option.getD_some]
  simp
  intro h2; exact hz (UInt8.toNat.inj h2)
 have e2:num (a06 s ((p:Int)+1) 1)=s[p+1].toNat:=by
  rw [show ((p:Int)+1)=((p+1:Nat):Int) by omega,cB2 (by omega),bt,List.getElem?_eq_getElem (by omega),Option.getD_some]
 rw [aS2,ak9 w (by omega) (by omega) (by omega),Option.bind_some]
 dsimp only
 rw [e,if_neg (by decide),ak9 (w.fwd (by omega) (by omega)) (by omega) (by omega) (by omega),Option.bind_some]
 dsimp only
 rw [e2,Int.add_assoc,ba8 (w.fwd (by omega) (by omega)) (.inr (.inr (by omega))),Option.bind_some]
 exact ⟨_,rfl,rfl⟩
theorem f00 {s:Bs} {p:Nat} (w:WfC s p s.length) (h:p+1 < s.length) (hz:s[p]≠0) (hb:p+2+s[p+1].toNat≤s.length):at8 (cu s p s.length false,())=some ((⟨s[p].toNat,p,(s.drop (p+2)).take s[p+1].toNat⟩,cu s ((p+2+s[p+1].toNat:Nat):Int) s.length false,()),()):=by
 have e0:num (a06 s p 1)=s[p].toNat:=by
  rw [cB2 (by omega),bt,List.getElem?_eq_getElem (by omega),Option.getD_some]
 have e:(((s[p].toNat:Nat):Int)==0)=false:=by
  simp
  intro h2; exact hz (UInt8.toNat.inj h2)
 have e2:num (a06 s ((p:Int)+1) 1)=s[p+1].toNat:=by
  rw [show ((p:Int)+1)=((p+1:Nat):Int) by omega,cB2 (by omega),bt,List.getElem?_eq_getElem (by omega),Option.getD_some]
 rw [aS2,ak9 w (by omega) (by omega) (by omega),Option.bind_some]
 dsimp only
 rw [e0,e,if_neg (by decide),ak9 (w.fwd (by omega) (by omega)) (by omega) (by omega) (by omega),Option.bind_some]
 dsimp only
 rw [e2,Int.add_assoc,ap0 (w.fwd (by omega) (by omega)) (by omega) (by omega),Option.bind_some]
 have e3:a06 s ((p:Int)+(1+1)) (s[p+1].toNat:Int)=(s.drop (p+2)).take s[p+1].toNat:=by
  unfold a06
  rw [show ((p:Int)+(1+1)+(s[p+1].toNat:Int)).toNat=p+2+s[p+1].toNat by omega,show ((p:Int)+(1+1)).toNat=p+2 by omega,List.take_add,List.drop_append_of_le_length (by simp; omega)]
  simp
 dsimp only
 rw [e3,show ((p:Int)+(1+1)+(s[p+1].toNat:Int))=((p+2+s[p+1].toNat:Nat):Int) by omega]
theorem bd7 (p:Int):spl p []=.ok []:=by rw [spl.eq_def]
theorem bC7 {p:Int} {r:Bs}:spl p (0::r)=(spl (p+1) r).map (⟨0,p,[]⟩::·):=by rw [spl.eq_def]; rfl
theorem c37 {p:Int} {t:UInt8} (h:t≠0):spl p [t]=.error p:=by rw [spl.eq_def]; simp [h]
theorem c38 {p:Int} {t n:UInt8} {d:Bs} (h:t≠0) (h2:d.length < n.toNat):spl p (t::n::d)=.error p:=by rw [spl.eq_def]; simp [h,h2]
theorem c39 {p:Int} {t n:UInt8} {d:Bs} (h:t≠0) (h2:n.toNat≤d.length):spl p (t::n::d)=(spl (p+2+n.toNat) (d.drop n.toNat)).map (⟨t.toNat,p,d.take n.toNat⟩::·):=by
 rw [spl.eq_def]; simp only [h,if_false]; rw [if_neg (by omega)]
theorem eI5 {s:Bs} {p:Nat} (h:p+1 < s.length):s.drop p=s[p]::s[p+1]::s.drop (p+2):=by
 rw [List.drop_eq_getElem_cons (by omega),List.drop_eq_getElem_cons (i:=p+1) (by omega)]
theorem eI6 {s:Bs} {base:Int} {n:Nat} (hs:s.length≤1000000000) (hb:0≤base∧base≤1152921504606846976):∀ (d m p:Nat) (acc:List Tlv),p≤s.length→s.length - p≤d→d < m→acc.length≤p→
  aQ0 n m base acc s p s.length false=some (a35 (aj5 acc (spl (base+p) (s.drop p))),()):=by
 intro d
 induction d with
 | zero=>
  intro m p acc h1 h2 hk ha
  obtain ⟨m,rfl⟩:∃ k,m=k+1:=⟨m - 1,by omega⟩
  have w:WfC s p s.length:=⟨by omega,by omega,by omega,by omega⟩
  rw [bK9,do5 w,Option.bind_some]
  dsimp only
  rw [if_neg (by simp; omega),List.drop_eq_nil_of_le (by omega),bd7]
  simp [aj5,a35]
 | succ d ih=>
  intro m p acc h1 h2 hk ha
  obtain ⟨m,rfl⟩:∃ k,m=k+1:=⟨m - 1,by omega⟩
  have w:WfC s p s.length:=⟨by omega,by omega,by omega,by omega⟩
  rw [bK9,do5 w,Option.bind_some]
  dsimp only
  by_cases hp:p < s.length
  ·rw [if_pos (by simp; omega)]
   have hroom:∀ x:Tlv,a66 ((acc.length + [x].length) * aW8)=true:=fun x=>aJ6 (by simp; omega) fd1
   by_cases hz:s[p]=0
   ·rw [eQ8 w hp hz,Option.bind_some]
    dsimp only
    rw [if_neg (by decide),if_pos (hroom _),w64 (by omega) (by omega),List.drop_eq_getElem_cons hp,hz,bC7,c17]
    have:=ih m (p+1) (acc++[⟨0,base+p,[]⟩]) (by omega) (by omega) (by omega) (by simp; omega)
    rw [show ((p+1:Nat):Int)=(p:Int)+1 by omega] at this
    rw [show (p:Int)+base=base+p by omega,this,Int.add_assoc]
   ·by_cases h3:p+1=s.length
    ·obtain ⟨t,e,et⟩:=eZ8 w h3 hz
     rw [e,Option.bind_some]
     dsimp only
     rw [if_pos rfl,et,w64 (by omega) (by omega),List.drop_eq_getElem_cons hp,List.drop_eq_nil_of_le (by omega),c37 hz]
     simp [aj5,a35]; omega
    ·have h4:p+1 < s.length:=by omega
     by_cases h5:p+2+s[p+1].toNat≤s.length
     ·rw [f00 w h4 hz h5,Option.bind_some]
      dsimp only
      rw [if_neg (by decide),if_pos (hroom _),w64 (by omega) (by omega),eI5 h4,c39 hz (by simp; omega),c17]
      have:=ih m (p+2+s[p+1].toNat) (acc++[⟨s[p].toNat,base+p,(s.drop (p+2)).take s[p+1].toNat⟩]) (by omega) (by omega) (by omega) (by simp; omega)
      rw [show (p:Int)+base=base+p by omega,this,List.drop_drop]
      congr 4
      congr 1
      omega
     ·obtain ⟨t,e,et⟩:=eZ9 w h4 hz (by omega)
      rw [e,Option.bind_some]
      dsimp only
      rw [if_pos rfl,et,w64 (by omega) (by omega),eI5 h4,c38 hz (by simp; omega)]
      simp [aj5,a35]; omega
  ·rw [if_neg (by simp; omega),List.drop_eq_nil_of_le (by omega),bd7]
   simp [aj5,a35]
theorem dL1 {s:Bs} {base:Int} (hs:s.length≤1000000000) (hb:0≤base∧base≤1152921504606846976):ap7 (s,base,())=some (a35 (aj5 [] (spl base s)),()):=by
 show bN8 a04 _=_
 rw [dJ4,bp5,Option.bind_some]
 have:=eI6 (n:=a04) hs hb s.length a04 0 [] (by omega) (by omega) (a28 (by omega)) (by simp)
 simpa using this
theorem eA7 {s:Bs} {base:Int} {n:Nat} (hs:s.length≤1000000000) (hb:0≤base∧base≤1152921504606846976):∀ (d m p:Nat) (acc:List Tlv),p≤s.length→s.length - p≤d→d < m→acc.length≤p→
  ay2 n m s base acc p=some (a35 (aj5 acc (spl (base+p) (s.drop p))),()):=by
 intro d
 induction d with
 | zero=>
  intro m p acc h1 h2 hk ha
  obtain ⟨m,rfl⟩:∃ k,m=k+1:=⟨m - 1,by omega⟩
  rw [bL0,if_neg (by simp; omega),List.drop_eq_nil_of_le (by omega),bd7]
  simp [aj5,a35]
 | succ d ih=>
  intro m p acc h1 h2 hk ha
  obtain ⟨m,rfl⟩:∃ k,m=k+1:=⟨m - 1,by omega⟩
  rw [bL0]
  by_cases hp:p < s.length
  ·have hroom:∀ x:Tlv,a66 ((acc.length + [x].length) * aW8)=true:=fun x=>aJ6 (by simp; omega) fd1
   rw [if_pos (by simp; omega),if_pos (by omega),Int.toNat_natCast,a27 hp]
   by_cases hz:s[p]=0
   ·rw [if_pos (by rw [hz]; rfl),if_pos (hroom _),w64 (x:=base+p) (by omega) (by omega),w64 (x:=(p:Int)+1) (by omega) (by omega),List.drop_eq_getElem_cons hp,hz,bC7,c17]
    have:=ih m (p+1) (acc++[⟨0,base+p,[]⟩]) (by omega) (by omega) (by omega) (by simp; omega)
    rw [show ((p+1:Nat):Int)=(p:Int)+1 by omega] at this
    rw [this,Int.add_assoc]
   ·have hz':¬(((s[p].toNat:Nat):Int)==0)=true:=by
     simp
     intro h2; exact hz (UInt8.toNat.inj h2)
    rw [if_neg hz',w64 (x:=(s.length:Int) - p) (by omega) (by omega),w64 (x:=base+p) (by omega) (by omega),w64 (x:=(p:Int)+1) (by omega) (by omega),w64 (x:=(p:Int)+2) (by omega) (by omega)]
    by_cases h3:p+1=s.length
    ·rw [if_pos (by simp; omega),List.drop_eq_getElem_cons hp,List.drop_eq_nil_of_le (by omega),c37 hz]
     simp [aj5,a35]
    ·have h4:p+1 < s.length:=by omega
     rw [if_neg (by simp; omega),if_pos (by omega),show ((p:Int)+1).toNat=p+1 by omega,a27 h4,a27 h4,a27 hp,am4,am4,w64 (x:=(s.length:Int) - p - 2) (by omega) (by omega),eI5 h4]
     have hn:=s[p+1].toNat_lt
     by_cases h5:p+2+s[p+1].toNat≤s.length
     ·rw [if_neg (by simp; omega),if_pos (by omega),if_pos (by omega),w64 (x:=(p:Int)+2+(s[p+1].toNat:Int)) (by omega) (by omega),if_pos (by omega),if_pos (hroom _),c39 hz (by simp; omega),c17]
      have:=ih m (p+2+s[p+1].toNat) (acc++[⟨s[p].toNat,base+p,(s.drop (p+2)).take s[p+1].toNat⟩]) (by omega) (by omega) (by omega) (by simp; omega)
      rw [List.drop_drop]
      have e3:(s.take ((p:Int)+2+(s[p+1].toNat:Int)).toNat).drop ((p:Int)+2).toNat=(s.drop (p+2)).take s[p+1].toNat:=by
       rw [show ((p:Int)+2+(s[p+1].toNat:Int)).toNat=p+2+s[p+1].toNat by omega,show ((p:Int)+2).toNat=p+2 by omega,List.take_add,List.drop_append_of_le_length (by simp; omega)]
       simp
      rw [e3,show (p:Int)+2+(s[p+1].toNat:Int)=((p+2+s[p+1].toNat:Nat):Int) by omega,this]
      congr 4
      congr 1
      omega
     ·rw [if_pos (by simp; omega),c38 hz (by simp; omega)]
      simp [aj5,a35]
  ·rw [if_neg (by simp; omega),List.drop_eq_nil_of_le (by omega),bd7]
   simp [aj5,a35]
theorem dl6 {s:Bs} {base:Int} (hs:s.length≤1000000000) (hb:0≤base∧base≤1152921504606846976):aq1 (s,base,())=some (a35 (aj5 [] (spl base s)),()):=by
 show bU8 a04 _=_
 rw [dJ8]
 have:=eA7 (n:=a04) hs hb s.length a04 0 [] (by omega) (by omega) (a28 (by omega)) (by simp)
 simpa using this
end Go.VP
namespace Go.VP
open Go Go.VI
def ab5:List Sub→Int
 | []=>0
 | y::l=>2+(y.data.length:Int)+ab5 l
def ai8 (l:List Sub):Prop:=l.length≤1000000000∧∀ y∈l,y.data.length≤300
theorem ai8.tail {y:Sub} {l:List Sub} (h:ai8 (y::l)):ai8 l:=⟨by have:=h.1; simp at this; omega,fun z hz=>h.2 z (List.mem_cons_of_mem _ hz)⟩
theorem ai8.drop {l:List Sub} (h:ai8 l) (i:Nat):ai8 (l.drop i):=⟨by have:=h.1; simp; omega,fun y hy=>h.2 y (List.mem_of_mem_drop hy)⟩
theorem dL2:∀ {l:List Sub},ai8 l→0≤ab5 l∧ab5 l≤302 * l.length
 | [],_=>by simp [ab5]
 | y::l,h=>by
  have:=dL2 h.tail
  have hy:=h.2 y (List.mem_cons_self ..)
  simp only [ab5,List.length_cons]
  omega
theorem eI7 {l:List Sub} {n:Nat} (hl:ai8 l):∀ (d m i:Nat) (acc:Int),i+d=l.length→d < m→0≤acc→acc≤302 * i→
  b55 n m l acc i=some ((acc+ab5 (l.drop i),()),()):=by
 have h1:=hl.1
 intro d
 induction d with
 | zero=>
  intro m i acc hd hm h2 h3
  obtain ⟨m,rfl⟩:∃ k,m=k+1:=⟨m - 1,by omega⟩
  rw [ck6,ifn (by omega),List.drop_eq_nil_of_le (by omega)]
  simp [ab5]
 | succ d ih=>
  intro m i acc hd hm h2 h3
  obtain ⟨m,rfl⟩:∃ k,m=k+1:=⟨m - 1,by omega⟩
  have hlt:i < l.length:=by omega
  have hy:=hl.2 l[i] (List.getElem_mem hlt)
  rw [ck6,ifd (by omega),if_pos (by omega),Int.toNat_natCast,a27 hlt,w64 (x:=2+(l[i].data.length:Int)) (by omega) (by omega),w64 (x:=acc+(2+(l[i].data.length:Int))) (by omega) (by omega),w64 (x:=(i:Int)+1) (by omega) (by omega)]
  have:=ih m (i+1) (acc+(2+(l[i].data.length:Int))) (by omega) (by omega) (by omega) (by omega)
  rw [show ((i+1:Nat):Int)=(i:Int)+1 by omega] at this
  rw [this,List.drop_eq_getElem_cons hlt,ab5,Int.add_assoc]
theorem dL3 {l:List Sub} (hl:ai8 l):aM9 (l,())=some ((ab5 l,()),()):=by
 show cx3 a04 _=_
 have:=hl.1
 rw [ea5]
 have:=eI7 (n:=a04) hl l.length a04 0 0 (by omega) (a28 (by omega)) (by omega) (by omega)
 simpa using this
theorem eA8 {l:List Sub} {n:Nat} (hl:ai8 l):∀ (d m i:Nat) (acc:Int),i+d=l.length→d < m→0≤acc→acc≤302 * i→
  aR0 n m l acc i=some ((acc+ab5 (l.drop i),()),()):=by
 have h1:=hl.1
 intro d
 induction d with
 | zero=>
  intro m i acc hd hm h2 h3
  obtain ⟨m,rfl⟩:∃ k,m=k+1:=⟨m - 1,by omega⟩
  rw [bK6,ifn (by omega),List.drop_eq_nil_of_le (by omega)]
  simp [ab5]
 | succ d ih=>
  intro m i acc hd hm h2 h3
  obtain ⟨m,rfl⟩:∃ k,m=k+1:=⟨m - 1,by omega⟩
  have hlt:i < l.length:=by omega
  have hy:=hl.2 l[i] (List.getElem_mem hlt)
  rw [bK6,ifd (by omega),if_pos (by omega),Int.toNat_natCast,a27 hlt,w64 (x:=acc+2) (by omega) (by omega),w64 (x:=acc+2+(l[i].data.length:Int)) (by omega) (by omega),w64 (x:=(i:Int)+1) (by omega) (by omega)]
  have:=ih m (i+1) (acc+2+(l[i].data.length:Int)) (by omega) (by omega) (by omega) (by omega)
  rw [show ((i+1:Nat):Int)=(i:Int)+1 by omega] at this
  rw [this,List.drop_eq_getElem_cons hlt,ab5,Int.add_assoc,Int.add_assoc,Int.add_assoc]
theorem eg4 {l:List Sub} (hl:ai8 l):aL9 (l,())=some ((ab5 l,()),()):=by
 show bT5 a04 _=_
 have:=hl.1
 rw [dI1]
 have:=eA8 (n:=a04) hl l.length a04 0 0 (by omega) (a28 (by omega)) (by omega) (by omega)
 simpa using this
def am5 (lo hi:Int) (y:Sub):Bool:=decide (lo≤y.type_∧y.type_≤hi∧y.data.length≤255)
theorem eQ9 {l:List Sub} {n:Nat} (h1:l.length≤1000000000) (lo hi:Int):∀ (d m i:Nat),i+d=l.length→d < m→
  bj4 n m lo hi l i=some (((l.drop i).all (am5 lo hi),()),()):=by
 intro d
 induction d with
 | zero=>
  intro m i hd hm
  obtain ⟨m,rfl⟩:∃ k,m=k+1:=⟨m - 1,by omega⟩
  rw [ct7,ifn (by omega),List.drop_eq_nil_of_le (by omega)]
  rfl
 | succ d ih=>
  intro m i hd hm
  obtain ⟨m,rfl⟩:∃ k,m=k+1:=⟨m - 1,by omega⟩
  have hlt:i < l.length:=by omega
  have:=ih m (i+1) (by omega) (by omega)
  rw [show ((i+1:Nat):Int)=(i:Int)+1 by omega] at this
  rw [ct7,ifd (by omega),if_pos (by omega),Int.toNat_natCast,a27 hlt,w64 (x:=(i:Int)+1) (by omega) (by omega),this,List.drop_eq_getElem_cons hlt,List.all_cons]
  by_cases a:l[i].type_ < lo
  ·rw [ifd a,show am5 lo hi l[i]=false by simp [am5]; omega]; rfl
  ·rw [ifn a]
   by_cases b:hi < l[i].type_
   ·rw [ifd b,show am5 lo hi l[i]=false by simp [am5]; omega]; rfl
   ·rw [ifn b]
    by_cases c:(255:Int) < l[i].data.length
    ·rw [ifd c,show am5 lo hi l[i]=false by simp [am5]; omega]; rfl
    ·rw [ifn c,show am5 lo hi l[i]=true by simp [am5]; omega,Bool.true_and]
theorem eE0 {l:List Sub} (h1:l.length≤1000000000) (lo hi:Int):c09 (l,lo,hi,())=some ((l.all (am5 lo hi),()),()):=by
 show cS0 a04 _=_
 rw [eo6]
 exact eQ9 (n:=a04) h1 lo hi l.length a04 0 (by omega) (a28 (by omega))
theorem eI8 {l:List Sub} {n:Nat} (h1:l.length≤1000000000) (lo hi:Int):∀ (d m i:Nat),i+d=l.length→d < m→
  aY7 n m l lo hi i=some (((l.drop i).all (am5 lo hi),()),()):=by
 intro d
 induction d with
 | zero=>
  intro m i hd hm
  obtain ⟨m,rfl⟩:∃ k,m=k+1:=⟨m - 1,by omega⟩
  rw [bY9,ifn (by omega),List.drop_eq_nil_of_le (by omega)]
  rfl
 | succ d ih=>
  intro m i hd hm
  obtain ⟨m,rfl⟩:∃ k,m=k+1:=⟨m - 1,by omega⟩
  have hlt:i < l.length:=by omega
  have:=ih m (i+1) (by omega) (by omega)
  rw [show ((i+1:Nat):Int)=(i:Int)+1 by omega] at this
  have hi':(0:Int)≤i:=by omega
  rw [bY9,ifd (by omega)]
  simp only [hi',if_true,Int.toNat_natCast,a27 hlt]
  rw [w64 (x:=(i:Int)+1) (by omega) (by omega),this,List.drop_eq_getElem_cons hlt,List.all_cons]
  by_cases a:l[i].type_ < lo
  ·rw [ifd a,show am5 lo hi l[i]=false by simp [am5]; omega]; rfl
  ·rw [ifn a]
   by_cases b:hi < l[i].type_
   ·rw [ifd b,show am5 lo hi l[i]=false by simp [am5]; omega]; rfl
   ·rw [ifn b]
    by_cases c:(255:Int) < l[i].data.length
    ·rw [ifd c,show am5 lo hi l[i]=false by simp [am5]; omega]; rfl
    ·rw [ifn c,show am5 lo hi l[i]=true by simp [am5]; omega,Bool.true_and]
theorem ev8 {l:List Sub} (h1:l.length≤1000000000) (lo hi:Int):bl1 (l,lo,hi,())=some ((l.all (am5 lo hi),()),()):=by
 show cc0 a04 _=_
 rw [dV8]
 exact eI8 (n:=a04) h1 lo hi l.length a04 0 (by omega) (a28 (by omega))
def ac8 (l:List Sub):Bool:=l.all (am5 2 127) && decide (ab5 l≤200)
theorem ct9 {l:List Sub} (hl:ai8 l):az9 (l,())=some ((ac8 l,()),()):=by
 rw [eb7,eE0 hl.1,Option.bind_some,dL3 hl]
 unfold ac8
 dsimp only
 cases l.all (am5 2 127) <;> rfl
theorem c18 {l:List Sub} (hl:ai8 l):aq0 (l,())=some ((ac8 l,()),()):=by
 rw [dI2,ev8 hl.1,Option.bind_some,eg4 hl]
 unfold ac8
 dsimp only
 cases l.all (am5 2 127) <;> rfl
def a73:List Sub→Bs
 | []=>[]
 | y::l=>a01 y.type_::a01 y.data.length::(y.data++a73 l)
def bW7 (l:List Sub):Prop:=∀ y∈l,2≤y.type_∧y.type_≤127∧y.data.length≤255
theorem ev9 {l:List Sub}:l.all (am5 2 127)=true↔bW7 l:=by simp [am5,bW7]
theorem eR0 {y:Sub} (h:2≤y.type_∧y.type_≤127∧y.data.length≤255):aw0 y.type_ y.data=(a01 y.type_::a01 y.data.length::y.data,true):=by
 unfold aw0; rw [if_pos (by omega)]
theorem aN9:∀ (l:List Sub),((a73 l).length:Int)=ab5 l
 | []=>rfl
 | y::l=>by have:=aN9 l; simp [a73,ab5]; omega
theorem eR1 {l:List Sub} {n:Nat} (hr:bW7 l) (h1:l.length≤1000000):∀ (d m i:Nat) (acc:Bs),i+d=l.length→d < m→acc.length≤257 * i→
  bF3 n m l acc i=some ((acc++a73 (l.drop i),true,()),()):=by
 intro d
 induction d with
 | zero=>
  intro m i acc hd hm ha
  obtain ⟨m,rfl⟩:∃ k,m=k+1:=⟨m - 1,by omega⟩
  rw [cN5,ifn (by omega),List.drop_eq_nil_of_le (by omega),a73,List.append_nil]
 | succ d ih=>
  intro m i acc hd hm ha
  obtain ⟨m,rfl⟩:∃ k,m=k+1:=⟨m - 1,by omega⟩
  have hlt:i < l.length:=by omega
  have hy:=hr l[i] (List.getElem_mem hlt)
  have:=ih m (i+1) (acc++(a01 l[i].type_::a01 l[i].data.length::l[i].data)) (by omega) (by omega) (by simp; omega)
  rw [show ((i+1:Nat):Int)=(i:Int)+1 by omega] at this
  rw [cN5,ifd (by omega),if_pos (by omega),Int.toNat_natCast,a27 hlt,aN8,eR0 hy,Option.bind_some]
  dsimp only
  rw [if_pos (a89 (by simp; omega)),w64 (by omega) (by omega),this,List.drop_eq_getElem_cons hlt,a73]
  simp
theorem eI9 {l:List Sub} {n:Nat} (hr:bW7 l) (h1:l.length≤1000000):∀ (d m i:Nat) (acc:Bs),i+d=l.length→d < m→acc.length≤257 * i→
  b88 n m l acc i=some ((acc++a73 (l.drop i),true,()),()):=by
 intro d
 induction d with
 | zero=>
  intro m i acc hd hm ha
  obtain ⟨m,rfl⟩:∃ k,m=k+1:=⟨m - 1,by omega⟩
  rw [ck4,ifn (by omega),List.drop_eq_nil_of_le (by omega),a73,List.append_nil]
 | succ d ih=>
  intro m i acc hd hm ha
  obtain ⟨m,rfl⟩:∃ k,m=k+1:=⟨m - 1,by omega⟩
  have hlt:i < l.length:=by omega
  have hy:=hr l[i] (List.getElem_mem hlt)
  have:=ih m (i+1) (acc++(a01 l[i].type_::a01 l[i].data.length::l[i].data)) (by omega) (by omega) (by simp; omega)
  rw [show ((i+1:Nat):Int)=(i:Int)+1 by omega] at this
  rw [ck4,ifd (by omega),if_pos (by omega),Int.toNat_natCast,a27 hlt,if_pos (by omega),a27 hlt,au7,eR0 hy,Option.bind_some]
  dsimp only
  rw [if_pos (a11 (by simp; omega)),w64 (by omega) (by omega),this,List.drop_eq_getElem_cons hlt,a73]
  simp
def dl7 (l:List Sub):Bs × Bool:=if ac8 l=true then (a73 l,true) else ([],false)
theorem aV2 {l:List Sub} (h:ac8 l=true):bW7 l∧ab5 l≤200:=by
 simp only [ac8,Bool.and_eq_true,ev9,decide_eq_true_eq] at h; exact h
theorem ec1 {l:List Sub} (hl:ai8 l) (h1:l.length≤1000000):ak4 (l,())=some (((dl7 l).1,(dl7 l).2,()),()):=by
 show dc8 a04 _=_
 rw [ev1,ct9 hl,Option.bind_some]
 unfold dl7
 dsimp only
 by_cases h:ac8 l=true
 ·have:=eR1 (n:=a04) (aV2 h).1 h1 l.length a04 0 [] (by omega) (a28 (by omega)) (by simp)
  rw [show ((0:Nat):Int)=0 from rfl] at this
  rw [h,a41,this,ift]
  simp
 ·rw [Bool.not_eq_true] at h
  rw [h,a83,aa1]
theorem dL4 {l:List Sub} (hl:ai8 l) (h1:l.length≤1000000):aN7 (l,())=some (((dl7 l).1,(dl7 l).2,()),()):=by
 show cz9 a04 _=_
 rw [ea0,c18 hl,Option.bind_some]
 unfold dl7
 dsimp only
 by_cases h:ac8 l=true
 ·have:=eI9 (n:=a04) (aV2 h).1 h1 l.length a04 0 [] (by omega) (a28 (by omega)) (by simp)
  rw [show ((0:Nat):Int)=0 from rfl] at this
  rw [h,a41,this,ift]
  simp
 ·rw [Bool.not_eq_true] at h
  rw [h,a83,aa1]
def keep:List Tlv→List Sub
 | []=>[]
 | t::l=>if 2≤t.type_∧t.type_≤127 then ⟨t.type_,t.data⟩::keep l else keep l
def cB3 (l:List Tlv):Bool:=l.all fun t=>decide (t.type_≤127)
theorem bd8 (t:Tlv) (l:List Tlv):cB3 (t::l)=(decide (t.type_≤127) && cB3 l):=rfl
theorem dC0:∀ (l:List Tlv),(keep l).length≤l.length
 | []=>Nat.le_refl _
 | t::l=>by have:=dC0 l; simp only [keep]; split <;> simp <;> omega
def cl2 (acc:List Sub) (b:Bool):List Sub × Bool × Int:=if 200 < ab5 acc then ([],false,10) else (acc,b,0)
def dl8 (l:List Tlv):Prop:=∀ t∈l,t.data.length≤255
theorem fe7 {acc:List Sub} {b:Bool} (hl:ai8 acc):(aM9 (acc,())).bind (fun r3=>(if (decide (200 < r3.1.1))=true then some (([],false,10,()),()) else some ((acc,b,0,()),())))=some (a35 (cl2 acc b),()):=by
 rw [dL3 hl,Option.bind_some]
 unfold cl2
 by_cases h:200 < ab5 acc
 ·rw [ifd h,if_pos h]
 ·rw [ifn h,if_neg h]
theorem f01 {acc:List Sub} {b:Bool} (hl:ai8 acc):(aL9 (acc,())).bind (fun r3=>(if (decide (200 < r3.1.1))=true then some (([],false,10,()),()) else some ((acc,b,0,()),())))=some (a35 (cl2 acc b),()):=by
 rw [eg4 hl,Option.bind_some]
 unfold cl2
 by_cases h:200 < ab5 acc
 ·rw [ifd h,if_pos h]
 ·rw [ifn h,if_neg h]
theorem ai8.app {a b:List Sub} (h:∀ y∈a,y.data.length≤300) (h2:∀ y∈b,y.data.length≤300) (h3:a.length+b.length≤1000000000):ai8 (a++b):=
 ⟨by simpa using h3,fun y hy=>(List.mem_append.1 hy).elim (h y) (h2 y)⟩
theorem eR2 {l:List Tlv} {x:Int × Int × Unit} {n:Nat} (hs:dl8 l) (h1:l.length≤1000000):∀ (d m i:Nat) (acc:List Sub) (b:Bool),i+d=l.length→d < m→acc.length≤i→(∀ y∈acc,y.data.length≤300)→
  az4 n m ((l,x),()) acc b i=some (a35 (cl2 (acc++keep (l.drop i)) (b && cB3 (l.drop i))),()):=by
 intro d
 induction d with
 | zero=>
  intro m i acc b hd hm ha hb
  obtain ⟨m,rfl⟩:∃ k,m=k+1:=⟨m - 1,by omega⟩
  rw [cN3]
  dsimp only
  rw [ifn (by omega),List.drop_eq_nil_of_le (by omega),fe7 ⟨by omega,hb⟩]
  simp [keep,cB3]
 | succ d ih=>
  intro m i acc b hd hm ha hb
  obtain ⟨m,rfl⟩:∃ k,m=k+1:=⟨m - 1,by omega⟩
  have hlt:i < l.length:=by omega
  have hy:=hs l[i] (List.getElem_mem hlt)
  have hroom:∀ x:Sub,a66 ((acc.length + [x].length) * aG8)=true:=fun x=>aJ6 (by simp; omega) eq2
  rw [cN3]
  dsimp only
  rw [ifd (by omega),if_pos (by omega),Int.toNat_natCast,a27 hlt,w64 (by omega) (by omega),List.drop_eq_getElem_cons hlt]
  have e:(i:Int)+1=((i+1:Nat):Int):=by omega
  rw [e]
  by_cases c1:128≤l[i].type_
  ·rw [ifd c1,ih m (i+1) acc false (by omega) (by omega) (by omega) hb,keep,if_neg (by omega),bd8,decide_eq_false (by omega)]
   simp
  ·rw [ifn c1]
   have h127:l[i].type_≤127:=by omega
   by_cases c2:2≤l[i].type_
   ·rw [ifd c2,if_pos (hroom _),ih m (i+1) (acc++[⟨l[i].type_,l[i].data⟩]) b (by omega) (by omega) (by simp; omega) (fun y hy'=>(List.mem_append.1 hy').elim (hb y) (fun h=>by simp at h; subst h; dsimp only; omega)),keep,if_pos ⟨c2,h127⟩,bd8,decide_eq_true h127]
    simp
   ·rw [ifn c2,ih m (i+1) acc b (by omega) (by omega) (by omega) hb,keep,if_neg (by omega),bd8,decide_eq_true h127]
    simp
theorem eJ0 {l:List Tlv} {x:Int × Int × Unit} {n:Nat} (hs:dl8 l) (h1:l.length≤1000000):∀ (d m i:Nat) (acc:List Sub) (b:Bool),i+d=l.length→d < m→acc.length≤i→(∀ y∈acc,y.data.length≤300)→
  ab7 n m ((l,x),()) acc b i=some (a35 (cl2 (acc++keep (l.drop i)) (b && cB3 (l.drop i))),()):=by
 intro d
 induction d with
 | zero=>
  intro m i acc b hd hm ha hb
  obtain ⟨m,rfl⟩:∃ k,m=k+1:=⟨m - 1,by omega⟩
  rw [ck9]
  dsimp only
  rw [ifn (by omega),List.drop_eq_nil_of_le (by omega),f01 ⟨by omega,hb⟩]
  simp [keep,cB3]
 | succ d ih=>
  intro m i acc b hd hm ha hb
  obtain ⟨m,rfl⟩:∃ k,m=k+1:=⟨m - 1,by omega⟩
  have hlt:i < l.length:=by omega
  have hy:=hs l[i] (List.getElem_mem hlt)
  have hroom:∀ x:Sub,a66 ((acc.length + [x].length) * aG8)=true:=fun x=>aJ6 (by simp; omega) eq2
  have hi':(0:Int)≤i:=by omega
  rw [ck9]
  dsimp only
  rw [ifd (by omega)]
  simp only [hi',if_true,Int.toNat_natCast,a27 hlt,hroom]
  rw [w64 (by omega) (by omega),List.drop_eq_getElem_cons hlt]
  have e:(i:Int)+1=((i+1:Nat):Int):=by omega
  rw [e]
  have h2:∀ b,ab7 n m ((l,x),()) acc b ((i+1:Nat):Int)=some (a35 (cl2 (acc++keep (l.drop (i+1))) (b && cB3 (l.drop (i+1)))),()):=fun b=>ih m (i+1) acc b (by omega) (by omega) (by omega) hb
  have h3:∀ b,ab7 n m ((l,x),()) (acc++[⟨l[i].type_,l[i].data⟩]) b ((i+1:Nat):Int)=some (a35 (cl2 (acc++[⟨l[i].type_,l[i].data⟩]++keep (l.drop (i+1))) (b && cB3 (l.drop (i+1)))),()):=fun b=>ih m (i+1) _ b (by omega) (by omega) (by simp; omega) (fun y hy'=>(List.mem_append.1 hy').elim (hb y) (fun h=>by simp at h; subst h; dsimp only; omega))
  simp only [h2,h3]
  by_cases c2:2≤l[i].type_
  ·rw [ifd c2]
   by_cases c1:l[i].type_≤127
   ·rw [ifd c1,keep,if_pos (show 2≤l[i].type_∧l[i].type_≤127 from ⟨c2,c1⟩),bd8,decide_eq_true c1]
    cases b <;> simp
   ·rw [ifn c1,keep,if_neg (show ¬(2≤l[i].type_∧l[i].type_≤127) by omega),bd8,decide_eq_false c1]
    cases b <;> simp
  ·have c1:l[i].type_≤127:=by omega
   rw [ifn c2,keep,if_neg (show ¬(2≤l[i].type_∧l[i].type_≤127) by omega),bd8,decide_eq_true c1]
   cases b <;> simp
def ak6 (s:Bs):List Sub × Bool × Int:=
 match spl 0 s with
 | .ok l=>cl2 (keep l) (cB3 l)
 | .error _=>([],false,2)
theorem cO1 (s:Bs):∀ (p:Int) (l:List Tlv),spl p s=.ok l→dl8 l∧l.length≤s.length:=by
 match s with
 | []=>intro p l h; rw [bd7] at h; injection h with h; subst h; exact ⟨fun t h=>by simp at h,Nat.le_refl _⟩
 | t::r=>
  intro p l h
  have go:∀ (q:Int) (x:Tlv) (r':Bs),r'.length < (t::r).length→x.data.length≤255→(spl q r').map (x::·)=.ok l→dl8 l∧l.length≤(t::r).length:=by
   intro q x r' hr hx h
   cases hm:spl q r' with
   | error e=>rw [hm] at h; cases h
   | ok l'=>
    rw [hm] at h
    injection h with h
    subst h
    obtain ⟨a,b⟩:=cO1 r' q l' hm
    exact ⟨fun y hy=>(List.mem_cons.1 hy).elim (fun h=>by subst h; exact hx) (a y),by simp only [List.length_cons] at *; omega⟩
  by_cases ht:t=0
  ·subst ht
   rw [bC7] at h
   exact go _ _ _ (by simp) (by simp) h
  ·match r with
   | []=>rw [c37 ht] at h; cases h
   | n::d=>
    by_cases hn:d.length < n.toNat
    ·rw [c38 ht hn] at h; cases h
    ·rw [c39 ht (by omega)] at h
     have:=n.toNat_lt
     exact go _ _ _ (by simp; omega) (by simp; omega) h
termination_by s.length
theorem c40 {s:Bs} (h:s.length≤1000000):as7 (s,())=some (a35 (ak6 s),()):=by
 show da4 a04 _=_
 rw [ev0,dL1 (by omega) (by omega),Option.bind_some]
 unfold ak6
 cases hm:spl 0 s with
 | error e=>rfl
 | ok l=>
  obtain ⟨h1,h2⟩:=cO1 s 0 l hm
  have:=eR2 (x:=(0,0,())) (n:=a04) h1 (by omega) l.length a04 0 [] true (by omega) (a28 (by omega)) (by simp) (by simp)
  show az4 a04 a04 ((l,0,0,()),()) [] true 0=_
  simpa using this
theorem aV3 {s:Bs} (h:s.length≤1000000):aa2 (s,())=some (a35 (ak6 s),()):=by
 show cz3 a04 _=_
 rw [eb2,dl6 (by omega) (by omega),Option.bind_some]
 unfold ak6
 cases hm:spl 0 s with
 | error e=>rfl
 | ok l=>
  obtain ⟨h1,h2⟩:=cO1 s 0 l hm
  have:=eJ0 (x:=(0,0,())) (n:=a04) h1 (by omega) l.length a04 0 [] true (by omega) (a28 (by omega)) (by simp) (by simp)
  show ab7 a04 a04 ((l,0,0,()),()) [] true 0=_
  simpa using this
end Go.VP
namespace Go.VP
open Go Go.VI
abbrev Msg:=a00
abbrev b22:=a44
theorem a16 {α R:Type} [BEq α] [LawfulBEq α] {x y:α} {f t r:R} (hne:x≠y→f=r) (heq:x=y→t=r):(if (x != y)=true then f else t)=r:=by
 by_cases h:x=y
 ·rw [if_neg (by simp [h])]; exact heq h
 ·rw [if_pos (by simp [h])]; exact hne h
theorem c41 {α R:Type} [BEq α] [LawfulBEq α] {x y:α} {f t r:R} (hne:x≠y→f=r) (heq:x=y→t=r):(if (!(x==y))=true then f else t)=r:=a16 hne heq
open Classical in
noncomputable def eqB {α:Type} (a b:α):Bool:=decide (a=b)
theorem bC8 {α:Type} {a b:α}:eqB a b=true↔a=b:=by simp [eqB]
theorem af8 {α:Type} (a:α):eqB a a=true:=bC8.2 rfl
theorem ao1 {α:Type} {a b:α} (h:a≠b):eqB a b=false:=by simp [eqB,h]
theorem eJ1 {a b:List b22} {n:Nat} (hl:a.length=b.length) (h1:a.length≤1000000000):∀ (d m i:Nat),i+d=a.length→d < m→aQ8 n m a b i=some ((eqB (a.drop i) (b.drop i),()),()):=by
 intro d
 induction d with
 | zero=>
  intro m i hd hm
  obtain ⟨m,rfl⟩:∃ k,m=k+1:=⟨m - 1,by omega⟩
  rw [bK4,ifn (by omega),List.drop_eq_nil_of_le (by omega),List.drop_eq_nil_of_le (by omega),af8]
 | succ d ih=>
  intro m i hd hm
  obtain ⟨m,rfl⟩:∃ k,m=k+1:=⟨m - 1,by omega⟩
  have ha:i < a.length:=by omega
  have hb:i < b.length:=by omega
  have:=ih m (i+1) (by omega) (by omega)
  rw [show ((i+1:Nat):Int)=(i:Int)+1 by omega] at this
  rw [bK4,ifd (by omega),if_pos (by omega),Int.toNat_natCast,a27 ha,if_pos (by omega),a27 hb,w64 (by omega) (by omega),this,List.drop_eq_getElem_cons ha,List.drop_eq_getElem_cons hb]
  generalize a[i]=x
  generalize b[i]=y
  obtain ⟨x1,x2⟩:=x
  obtain ⟨y1,y2⟩:=y
  dsimp only
  by_cases h:x1=y1∧x2=y2
  ·obtain ⟨rfl,rfl⟩:=h
   rw [if_neg (by simp)]
   simp [eqB]
  ·have hx:¬((⟨x1,x2⟩:b22)=⟨y1,y2⟩):=by simpa using h
   have hb:((x1==y1) && (x2==y2))=false:=by rw [Bool.eq_false_iff]; simpa using h
   rw [hb,a83,ao1]
   intro e
   injection e with e _
   exact hx e
theorem f02 {a b:List b22} (h1:a.length≤1000000000):bR4 (a,b,())=some ((eqB a b,()),()):=by
 show bR3 a04 _=_
 rw [dH1]
 refine a16 (fun h=>?_) (fun h=>?_)
 ·rw [ao1]; intro e; subst e; exact h rfl
 ·exact eJ1 (n:=a04) (by omega) h1 a.length a04 0 (by omega) (a28 (by omega))
theorem eJ2 {a b:List Sub} {n:Nat} (hl:a.length=b.length) (h1:a.length≤1000000000):∀ (d m i:Nat),i+d=a.length→d < m→aY4 n m a b i=some ((eqB (a.drop i) (b.drop i),()),()):=by
 intro d
 induction d with
 | zero=>
  intro m i hd hm
  obtain ⟨m,rfl⟩:∃ k,m=k+1:=⟨m - 1,by omega⟩
  rw [bY7,ifn (by omega),List.drop_eq_nil_of_le (by omega),List.drop_eq_nil_of_le (by omega),af8]
 | succ d ih=>
  intro m i hd hm
  obtain ⟨m,rfl⟩:∃ k,m=k+1:=⟨m - 1,by omega⟩
  have ha:i < a.length:=by omega
  have hb:i < b.length:=by omega
  have:=ih m (i+1) (by omega) (by omega)
  rw [show ((i+1:Nat):Int)=(i:Int)+1 by omega] at this
  rw [bY7,ifd (by omega),if_pos (by omega),Int.toNat_natCast,a27 ha,if_pos (by omega),a27 hb,w64 (by omega) (by omega),this,List.drop_eq_getElem_cons ha,List.drop_eq_getElem_cons hb]
  generalize a[i]=x
  generalize b[i]=y
  obtain ⟨x1,x2⟩:=x
  obtain ⟨y1,y2⟩:=y
  dsimp only
  by_cases h:x1=y1∧x2=y2
  ·obtain ⟨rfl,rfl⟩:=h
   rw [if_neg (by simp)]
   simp [eqB]
  ·have hx:¬((⟨x1,x2⟩:Sub)=⟨y1,y2⟩):=by simpa using h
   have hb:((x1==y1) && (x2==y2))=false:=by rw [Bool.eq_false_iff]; simpa using h
   rw [hb,a83,ao1]
   intro e
   injection e with e _
   exact hx e
theorem f03 {a b:List Sub} (h1:a.length≤1000000000):cb4 (a,b,())=some ((eqB a b,()),()):=by
 show cb3 a04 _=_
 rw [dV1]
 refine a16 (fun h=>?_) (fun h=>?_)
 ·rw [ao1]; intro e; subst e; exact h rfl
 ·exact eJ2 (n:=a04) (by omega) h1 a.length a04 0 (by omega) (a28 (by omega))
theorem eE1 {a b:Msg} (h1:a.list.length≤1000000000) (h2:a.subs.length≤1000000000):a76 (a,b,())=some ((eqB a b,()),()):=by
 have hf:a≠b→(some ((false,()),()):Option ((Bool × Unit) × Unit))=some ((eqB a b,()),()):=fun h=>by rw [ao1 h]
 rw [dV2,f02 h1,Option.bind_some,f03 h2,Option.bind_some]
 repeat (first | refine a16 (fun h=>hf (fun e=>h (by rw [e]))) (fun h=>?_) | refine c41 (fun h=>hf (fun e=>h (by rw [e]))) (fun h=>?_))
 dsimp only
 by_cases hl:a.list=b.list
 ·rw [hl,af8,ift]
  by_cases hs:a.subs=b.subs
  ·have:a=b:=by
    cases a; cases b
    simp only at *
    simp [*]
   rw [hs,af8,this,af8]
  ·rw [ao1 hs,ao1]; intro e; exact hs (by rw [e])
 ·rw [ao1 hl,aa1]; exact hf (fun e=>hl (by rw [e]))
structure Few (m:Msg):Prop where
 list:m.list.length≤300
 subs:m.subs.length≤60
 ap:m.auth.length+m.prefix_.length≤200
 ni:m.next.length+m.id.length≤200
 ao:m.addr.length+m.orig.length≤200
 data:m.data.length≤300
 ds:∀ d∈m.list,d.addr.length≤50
 ss:∀ s∈m.subs,s.data.length≤300
structure ec2 (m:Msg):Prop where
 list:m.list.length≤1000
 subs:m.subs.length≤1000
 auth:m.auth.length≤400
 pre:m.prefix_.length≤400
 next:m.next.length≤400
 id:m.id.length≤400
 addr:m.addr.length≤400
 orig:m.orig.length≤400
 data:m.data.length≤400
 ds:∀ d∈m.list,d.addr.length≤50
 ss:∀ s∈m.subs,s.data.length≤300
theorem Few.lite {m:Msg} (h:Few m):ec2 m:=by
 have:=h.list; have:=h.subs; have:=h.ap; have:=h.ni; have:=h.ao; have:=h.data
 exact ⟨by omega,by omega,by omega,by omega,by omega,by omega,by omega,by omega,by omega,h.ds,h.ss⟩
theorem ec2.fewS {m:Msg} (h:ec2 m):ai8 m.subs:=⟨by have:=h.subs; omega,h.ss⟩
def do6 (m:Msg):Prop:=m.auth.length≤140737488351232∧m.prefix_.length≤140737488351232∧m.next.length≤140737488351232∧m.id.length≤140737488351232∧m.addr.length≤140737488351232∧m.orig.length≤140737488351232
theorem eR3 {m0:Msg} {n:Nat} (h1:m0.subs.length≤60):∀ (d m i:Nat),i+d=m0.subs.length→d < m→b51 n m m0 i=some (((m0.subs.drop i).all fun s=>decide (s.data.length≤300),()),()):=by
 intro d
 induction d with
 | zero=>
  intro m i hd hm
  obtain ⟨m,rfl⟩:∃ k,m=k+1:=⟨m - 1,by omega⟩
  rw [cj5,ifn (by omega),List.drop_eq_nil_of_le (by omega)]; rfl
 | succ d ih=>
  intro m i hd hm
  obtain ⟨m,rfl⟩:∃ k,m=k+1:=⟨m - 1,by omega⟩
  have ha:i < m0.subs.length:=by omega
  have:=ih m (i+1) (by omega) (by omega)
  rw [show ((i+1:Nat):Int)=(i:Int)+1 by omega] at this
  rw [cj5,ifd (by omega),if_pos (by omega),Int.toNat_natCast,a27 ha,w64 (by omega) (by omega),this,List.drop_eq_getElem_cons ha,List.all_cons]
  by_cases h:300 < (m0.subs[i].data.length:Int)
  ·rw [ifd h,decide_eq_false (by omega)]; rfl
  ·rw [ifn h,decide_eq_true (by omega),Bool.true_and]
theorem eR4 {m0:Msg} {n:Nat} (h0:m0.list.length≤300) (h1:m0.subs.length≤60) (hn:1000≤n):∀ (d m i:Nat),i+d=m0.list.length→d < m→b50 n m m0 i=some (((m0.list.drop i).all (fun s=>decide (s.addr.length≤50)) && m0.subs.all fun s=>decide (s.data.length≤300),()),()):=by
 intro d
 induction d with
 | zero=>
  intro m i hd hm
  obtain ⟨m,rfl⟩:∃ k,m=k+1:=⟨m - 1,by omega⟩
  have:=eR3 (n:=n) h1 m0.subs.length n 0 (by omega) (by omega)
  rw [show ((0:Nat):Int)=0 from rfl,List.drop_zero] at this
  rw [cj4,ifn (by omega),List.drop_eq_nil_of_le (by omega),this]; rfl
 | succ d ih=>
  intro m i hd hm
  obtain ⟨m,rfl⟩:∃ k,m=k+1:=⟨m - 1,by omega⟩
  have ha:i < m0.list.length:=by omega
  have:=ih m (i+1) (by omega) (by omega)
  rw [show ((i+1:Nat):Int)=(i:Int)+1 by omega] at this
  rw [cj4,ifd (by omega),if_pos (by omega),Int.toNat_natCast,a27 ha,w64 (by omega) (by omega),this,List.drop_eq_getElem_cons ha,List.all_cons]
  by_cases h:50 < (m0.list[i].addr.length:Int)
  ·rw [ifd h,decide_eq_false (by omega)]; rfl
  ·rw [ifn h,decide_eq_true (by omega),Bool.true_and]
theorem fj9 {m:Msg} (g:do6 m):∃ b,cv9 (m,())=some ((b,()),())∧(b=true→Few m):=by
 obtain ⟨g1,g2,g3,g4,g5,g6⟩:=g
 show ∃ b,cv8 a04 _=_∧_
 rw [e70,w64 (by omega) (by omega),w64 (by omega) (by omega),w64 (by omega) (by omega)]
 by_cases c1:(300:Int) < m.list.length
 ·rw [ifd c1]; exact ⟨_,rfl,by simp⟩
 by_cases c2:(60:Int) < m.subs.length
 ·rw [ifn c1,ifd c2]; exact ⟨_,rfl,by simp⟩
 by_cases c3:(200:Int) < m.auth.length+m.prefix_.length
 ·rw [ifn c1,ifn c2,ifd c3]; exact ⟨_,rfl,by simp⟩
 by_cases c4:(200:Int) < m.next.length+m.id.length
 ·rw [ifn c1,ifn c2,ifn c3,ifd c4]; exact ⟨_,rfl,by simp⟩
 by_cases c5:(200:Int) < m.addr.length+m.orig.length
 ·rw [ifn c1,ifn c2,ifn c3,ifn c4,ifd c5]; exact ⟨_,rfl,by simp⟩
 by_cases c6:(300:Int) < m.data.length
 ·rw [ifn c1,ifn c2,ifn c3,ifn c4,ifn c5,ifd c6]; exact ⟨_,rfl,by simp⟩
 have:=eR4 (m0:=m) (n:=a04) (by omega) (by omega) (Nat.le_of_lt (a28 (by omega))) m.list.length a04 0 (by omega) (a28 (by omega))
 rw [show ((0:Nat):Int)=0 from rfl,List.drop_zero] at this
 rw [ifn c1,ifn c2,ifn c3,ifn c4,ifn c5,ifn c6,this]
 refine ⟨_,rfl,fun h=>?_⟩
 simp only [Bool.and_eq_true,List.all_eq_true,decide_eq_true_eq] at h
 exact ⟨by omega,by omega,by omega,by omega,by omega,by omega,h.1,h.2⟩
def ab0 (m:Msg):Option Msg:=
 if m.kind=1 then some ⟨m.kind,m.cmd,m.ver,m.auth,m.family,0,m.prefix_,m.plen,m.tag,m.next,m.metric,[],0,0,0,0,0,0,0,[],[],[],0,[],[]⟩
 else if m.kind=2 then some ⟨m.kind,m.cmd,0,[],0,0,m.prefix_,m.plen,m.tag,m.next,m.metric,[],0,0,0,0,0,0,0,[],[],[],0,[],[]⟩
 else if m.kind=3 then some ⟨m.kind,0,0,[],0,0,[],0,0,[],0,[],m.seq,m.seq2,0,m.flags,m.hops,m.nonce,0,m.addr,m.orig,[],0,[],m.subs⟩
 else if m.kind=4 then some ⟨m.kind,0,0,[],0,0,[],m.plen,0,[],0,[],m.seq,0,m.interval,m.flags,m.hops,0,0,m.addr,m.orig,[],0,[],m.subs⟩
 else if m.kind=5 then some ⟨m.kind,0,0,[],0,0,[],0,0,[],0,[],0,0,0,m.flags,0,0,0,[],[],m.list,0,[],m.subs⟩
 else if m.kind=6 then some ⟨m.kind,0,0,[],0,0,[],0,0,[],0,[],0,0,0,0,0,0,0,[],[],[],0,[],m.subs⟩
 else if m.kind=7 then some ⟨m.kind,0,0,[],0,0,[],0,0,[],0,[],0,0,m.interval,0,0,m.nonce,0,[],[],[],0,[],m.subs⟩
 else if m.kind=8 then some ⟨m.kind,0,0,[],0,0,[],0,0,[],0,[],0,0,0,0,0,m.nonce,0,[],[],[],0,[],m.subs⟩
 else if m.kind=9 then some ⟨m.kind,0,0,[],0,0,[],0,0,[],0,[],m.seq,0,m.interval,m.flags,0,0,0,[],[],[],0,[],m.subs⟩
 else if m.kind=10 then some ⟨m.kind,0,0,[],0,m.ae,[],0,0,[],0,[],0,0,m.interval,0,0,0,m.cost,m.addr,[],[],0,[],m.subs⟩
 else if m.kind=11 then some ⟨m.kind,0,0,[],0,m.ae,m.prefix_,m.plen,0,m.next,m.metric,m.id,m.seq,0,m.interval,0,0,0,0,[],[],[],0,[],m.subs⟩
 else if m.kind=12 then some ⟨m.kind,0,0,[],0,m.ae,m.prefix_,m.plen,0,[],0,[],0,0,0,0,0,0,0,[],[],[],0,[],m.subs⟩
 else if m.kind=13 then some ⟨m.kind,0,0,[],0,m.ae,m.prefix_,m.plen,0,[],0,m.id,m.seq,0,0,0,m.hops,0,0,[],[],[],0,[],m.subs⟩
 else if m.kind=14 then some ⟨m.kind,0,0,[],0,0,[],0,0,[],0,[],0,0,0,0,0,0,0,[],[],[],m.type_,m.data,[]⟩
 else none
noncomputable def a68 (m:Msg):Bool:=match ab0 m with | some x=>eqB x m | none=>false
theorem a09 {R:Type} {x y:Int} {f t r:R} (heq:x=y→t=r) (hne:x≠y→f=r):(if (x==y)=true then t else f)=r:=by
 by_cases h:x=y
 ·rw [if_pos (by simp [h])]; exact heq h
 ·rw [if_neg (by simp [h])]; exact hne h
theorem aJ7 {m:Msg} (h1:m.list.length≤1000000000) (h2:m.subs.length≤1000000000):ac6 (m,())=some ((a68 m,()),()):=by
 have go:∀ x:Msg,x.list.length≤1000000000→x.subs.length≤1000000000→ab0 m=some x→((a76 (x,m,())).bind fun r1=>some ((r1.1.1,()),()))=some ((a68 m,()),()):=by
  intro x h1 h2 hx
  rw [eE1 h1 h2,a68,hx]; rfl
 rw [dV3]
 repeat refine a09 (fun h=>go _ (by first | exact h1 | (show 0≤_; omega)) (by first | exact h2 | (show 0≤_; omega)) (by simp [ab0, *])) (fun h=>?_)
 simp [a68,ab0, *]
theorem fn2 {A B C S:Bool} (h:S=(A && B && C)):(if A=true then (if B=true then (some ((C,()),()):Option ((Bool × Unit) × Unit)) else some ((false,()),())) else some ((false,()),()))=some ((S,()),()):=by
 subst h; cases A <;> cases B <;> rfl
theorem fn3 {A B S:Bool} (h:S=(A && B)):(if A=true then (if B=true then (some ((true,()),()):Option ((Bool × Unit) × Unit)) else some ((false,()),())) else some ((false,()),()))=some ((S,()),()):=by
 subst h; cases A <;> cases B <;> rfl
theorem fn4 {A S:Bool} (h:S=A):(if A=true then (some ((true,()),()):Option ((Bool × Unit) × Unit)) else some ((false,()),()))=some ((S,()),()):=by
 subst h; cases S <;> rfl
theorem eR5 {α:Type} {a b:α}:eqB a b=true↔b=a:=by rw [bC8]; exact eq_comm
theorem cO2 {α:Type} (l:List α):((l.length:Int)=0)↔l=[]:=by cases l <;> simp; omega
theorem b08 {m:Msg}:af3 (m,())=some ((a68 m,()),()):=by
 obtain ⟨kind,cmd,ver,auth,family,ae,pre,plen,tag,next,metric,id,seq,seq2,interval,flags,hops,nonce,cost,addr,orig,list,typ,data,subs⟩:=m
 rw [en3,e72,Option.bind_some]
 dsimp only
 repeat' first | (exfalso; omega) | refine a09 (fun h=>?_) (fun h=>?_)
 all_goals first | refine fn2 ?_ | refine fn3 ?_ | refine fn4 ?_ | skip
 all_goals (try (subst kind))
 all_goals rw [a68,ab0]
 all_goals (try simp only [*,if_true,if_false])
 all_goals first | rfl | skip
 all_goals rw [Bool.eq_iff_iff]
 all_goals simp only [eR5,a00.mk.injEq,Bool.and_eq_true,beq_iff_eq,cO2]
 all_goals (simp only [true_and,and_true,and_self]; first | done | (constructor <;> (intro h; simp only [h,and_self])))
end Go.VP
namespace Go.VP
open Go Go.VI
def cT8 (m:Msg):Prop:=m.list.length≤1000000000∧m.subs.length≤1000000000
theorem f04 (x y:Msg) (p q:List Msg):(if (!(eqB x y))=true then (some ((false,()),()):Option ((Bool × Unit) × Unit)) else some ((eqB p q,()),()))=some ((eqB (x::p) (y::q),()),()):=by
 by_cases he:x=y
 ·subst he
  rw [af8,a41]
  have:eqB p q=eqB (x::p) (x::q):=by simp [eqB]
  rw [this]
 ·rw [ao1 he,a83,ao1]
  intro e; injection e with e _; exact he e
theorem eJ3 {a b:List Msg} {n:Nat} (hab:a.length=b.length) (hl:a.length≤1000000) (hs:∀ m∈a,cT8 m):∀ (d m i:Nat),i+d=a.length→d < m→aB4 n m a b i=some ((eqB (a.drop i) (b.drop i),()),()):=by
 intro d
 induction d with
 | zero=>
  intro m i hd hm
  obtain ⟨m,rfl⟩:∃ k,m=k+1:=⟨m - 1,by omega⟩
  rw [bp0,ifn (by omega),List.drop_eq_nil_of_le (by omega),List.drop_eq_nil_of_le (by omega),af8]
 | succ d ih=>
  intro m i hd hm
  obtain ⟨m,rfl⟩:∃ k,m=k+1:=⟨m - 1,by omega⟩
  have hi:i < a.length:=by omega
  have hib:i < b.length:=by omega
  have:=ih m (i+1) (by omega) (by omega)
  rw [show ((i+1:Nat):Int)=(i:Int)+1 by omega] at this
  have hm':=hs _ (List.getElem_mem hi)
  have hp:0≤(i:Int):=by omega
  rw [bp0,ifd (by omega)]
  simp only [if_pos hp,Int.toNat_natCast,List.getElem?_eq_getElem hi,List.getElem?_eq_getElem hib,Option.bind_some]
  rw [eE1 hm'.1 hm'.2,Option.bind_some,w64 (by omega) (by omega),this,List.drop_eq_getElem_cons hi,List.drop_eq_getElem_cons hib]
  exact f04 _ _ _ _
theorem f05 {a b:List Msg} (hl:a.length≤1000000) (hs:∀ m∈a,cT8 m):aR7 (a,b,())=some ((eqB a b,()),()):=by
 show bo5 a04 (a,b,())=_
 rw [dl0]
 refine a16 (fun h=>?_) (fun h=>?_)
 ·rw [ao1]; intro e; subst e; exact h rfl
 ·exact eJ3 (n:=a04) (by omega) hl hs a.length a04 0 (by omega) (a28 (by omega))
theorem f06 {a:List Msg} (hl:a.length≤1000000) (hs:∀ m∈a,cT8 m):aR7 (a,a,())=some ((true,()),()):=by
 rw [f05 hl hs,af8]
theorem f07 {m:Msg} (g:au6 m):do6 m:=by
 obtain ⟨g1,g2,g3,g4,g5,g6,g7,g8,g9,g10,g11,g12,g13,g14,g15,g16,g17,g18,g19,g20,g21,_⟩:=g
 exact ⟨g4,g7,g10,g12,g20,g21⟩
theorem eR6 {a:List Msg} {n:Nat} (g:∀ m∈a,do6 m) (hl:a.length≤1000):∀ (d m i:Nat),i+d=a.length→d < m→∃ b,aG9 n m a i=some ((b,()),())∧(b=true→∀ m∈a.drop i,Few m):=by
 intro d
 induction d with
 | zero=>
  intro m i hd hm
  obtain ⟨m,rfl⟩:∃ k,m=k+1:=⟨m - 1,by omega⟩
  rw [bs6,ifn (by omega)]
  exact ⟨true,rfl,fun _ m hm=>by rw [List.drop_eq_nil_of_le (by omega)] at hm; cases hm⟩
 | succ d ih=>
  intro m i hd hm
  obtain ⟨m,rfl⟩:∃ k,m=k+1:=⟨m - 1,by omega⟩
  have hi:i < a.length:=by omega
  obtain ⟨b,h1,h2⟩:=ih m (i+1) (by omega) (by omega)
  rw [show ((i+1:Nat):Int)=(i:Int)+1 by omega] at h1
  obtain ⟨c,k1,k2⟩:=fj9 (g _ (List.getElem_mem hi))
  rw [bs6,ifd (by omega),if_pos (by omega),Int.toNat_natCast,a27 hi,k1,Option.bind_some,w64 (by omega) (by omega),h1]
  cases c with
  | false=>exact ⟨false,rfl,fun h=>by cases h⟩
  | true=>
   refine ⟨b,rfl,fun h m hm=>?_⟩
   rw [List.drop_eq_getElem_cons hi] at hm
   rcases List.mem_cons.1 hm with rfl | hm
   ·exact k2 rfl
   ·exact h2 h m hm
theorem fe8 {a:List Msg} {k:Int} (hk:k≤1000) (g:∀ m∈a,do6 m):∃ b,bu0 (a,k,())=some ((b,()),())∧(b=true→a.length≤k∧∀ m∈a,Few m):=by
 show ∃ b,bt9 a04 (a,k,())=_∧_
 rw [dr7]
 by_cases h:k < (a.length:Int)
 ·rw [ifd h]; exact ⟨false,rfl,fun h=>by cases h⟩
 ·rw [ifn h]
  obtain ⟨b,h1,h2⟩:=eR6 (n:=a04) g (by omega) a.length a04 0 (by omega) (a28 (by omega))
  exact ⟨b,h1,fun hb=>⟨by omega,fun m hm=>h2 hb m (by simpa using hm)⟩⟩
end Go.VP
namespace Go.VP
open Go Go.VI
def ah6:Bs:=[254,128,0,0,0,0,0,0]
def a79 (a:Bs):Bool:=decide (a.length=16) && (a.take 8==ah6)
theorem fe9 (a p:Bs):av1 (a,p,())=some ((decide (p.length≤a.length) && (a.take p.length==p),()),()):=by
 rw [cA9,ao9]
 by_cases h:p.length≤a.length
 ·rw [ifd (by omega),if_pos (by omega),Option.bind_some,Int.toNat_natCast,decide_eq_true h]; rfl
 ·rw [ifn (by omega),Option.bind_some,decide_eq_false h]; rfl
theorem cO3 (a:Bs):ai9 (a,())=some ((a79 a,()),()):=by
 rw [e76,fe9,Option.bind_some]
 unfold a79
 by_cases h:a.length=16
 ·rw [if_pos (by simp; omega),decide_eq_true h]
  have:decide (([254,128,0,0,0,0,0,0]:Bs).length≤a.length)=true:=by simp; omega
  rw [this]; rfl
 ·rw [if_neg (by simp; omega),decide_eq_false h]; rfl
theorem bC9 (a:Bs):ag9 (a,())=some ((a79 a,()),()):=by
 rw [dV6,ct5]
 unfold a79
 by_cases h:a.length=16
 ·rw [if_pos (by simp; omega),if_pos (by omega),decide_eq_true h]; rfl
 ·rw [if_neg (by simp; omega),decide_eq_false h]; rfl
theorem ay4 {a:Bs} (h:a79 a=true):a.length=16∧a.take 8=ah6:=by
 simpa [a79] using h
def b46 (a:Bs):Bs × Bool:=if a79 a=true then (a.drop 8,true) else ([],false)
theorem ew0 (a:Bs):aU1 (a,())=some (((b46 a).1,(b46 a).2,()),()):=by
 rw [dX2,cO3,Option.bind_some]
 unfold b46
 dsimp only
 by_cases h:a79 a=true
 ·have:=ay4 h
  rw [h,a41,if_pos (by omega),ift]
 ·rw [Bool.not_eq_true] at h
  rw [h,a83,aa1]
theorem eR7 (a:Bs):b87 (a,())=some (((b46 a).1,(b46 a).2,()),()):=by
 rw [dJ2,bC9,Option.bind_some]
 unfold b46
 dsimp only
 by_cases h:a79 a=true
 ·have:=ay4 h
  rw [h,a41,if_pos (by omega),ift]
 ·rw [Bool.not_eq_true] at h
  rw [h,a83,aa1]
def aj6 (s:Bs):Bs × Bool:=if s.length=8 then (ah6++s,true) else ([],false)
theorem c42 (s:Bs):as8 (s,())=some (((aj6 s).1,(aj6 s).2,()),()):=by
 rw [ea6]
 unfold aj6
 by_cases h:s.length=8
 ·rw [if_neg (by simp; omega),if_pos (a11 (by omega)),if_pos h]; rfl
 ·rw [if_pos (by simp; omega),if_neg h]
theorem dL5 (s:Bs):au4 (s,())=some (((aj6 s).1,(aj6 s).2,()),()):=by
 rw [dX8,ct5,Option.bind_some]
 unfold aj6
 by_cases h:s.length=8
 ·rw [if_neg (by simp; omega)]
  have:a10 ((([254,128,0,0,0,0,0,0]:Bs)).length+s.length)=true:=a11 (by simp; omega)
  dsimp only
  rw [if_pos this,if_pos h]; rfl
 ·rw [if_pos (by simp; omega),if_neg h]
def aP4 (a:Bs):Int:=if a.length=4 then 0 else if a.length=16 then 1 else -1
theorem eR8 (a:Bs):aw6 (a,())=some ((aP4 a,()),()):=by
 rw [dK5]
 unfold aP4
 by_cases h:a.length=4
 ·rw [if_pos (by simp; omega),if_pos h]
 ·rw [if_neg (by simp; omega),if_neg h]
  by_cases h2:a.length=16
  ·rw [if_pos (by simp; omega),if_pos h2]
  ·rw [if_neg (by simp; omega),if_neg h2]
theorem eg5 {s:Bs} (h:s.length=8):a79 (ah6++s)=true:=by
 unfold a79
 have e:(ah6++s).take 8=ah6:=by rw [List.take_append_of_le_length (by decide)]; rfl
 rw [e]
 simp [ah6,h]
end Go.VP
namespace Go.VP
open Go Go.VI
def aS3 (b k:Nat):Nat:=b / 2 ^ (8 - k) * 2 ^ (8 - k)
def aC1 (b:UInt8) (k:Int):UInt8:=UInt8.ofNat (aS3 b.toNat (min k.toNat 8))
theorem f08 (b k:Nat):aS3 b k≤b:=Nat.div_mul_le_self ..
theorem aA6 (b:UInt8) (k:Int):(aC1 b k).toNat=aS3 b.toNat (min k.toNat 8):=by
 have:=f08 b.toNat (min k.toNat 8); have:=b.toNat_lt
 unfold aC1; rw [UInt8.toNat_ofNat']; omega
theorem dl9 {b:UInt8} {k:Int} (h:8≤k):aC1 b k=b:=by
 apply UInt8.toNat.inj
 rw [aA6,show min k.toNat 8=8 by omega]; simp [aS3]
theorem cT9 {b:UInt8} {k:Int} (h:k≤0):aC1 b k=0:=by
 apply UInt8.toNat.inj
 have:=b.toNat_lt
 rw [aA6,show min k.toNat 8=0 by omega]; simp [aS3]; omega
def a71:Bs→Int→Bs
 | [],_=>[]
 | b::r,n=>aC1 b n::a71 r (n - 8)
theorem ac9:∀ (s:Bs) (n:Int),(a71 s n).length=s.length
 | [],_=>rfl
 | b::r,n=>by simp [a71,ac9 r]
theorem bd9:∀ {s:Bs} {n:Int},8 * (s.length:Int)≤n→a71 s n=s
 | [],_,_=>rfl
 | b::r,n,h=>by simp only [List.length_cons] at h; rw [a71,dl9 (by omega),bd9 (by omega)]
theorem bp6:∀ {s:Bs} {n:Int},n≤0→a71 s n=List.replicate s.length 0
 | [],_,_=>rfl
 | b::r,n,h=>by rw [a71,cT9 h,bp6 (by omega),List.length_cons,List.replicate_succ]
theorem cl3:∀ (a b:Bs) (n:Int),a71 (a++b) n=a71 a n++a71 b (n - 8 * a.length)
 | [],b,n=>by simp [a71]
 | x::a,b,n=>by simp only [List.cons_append,a71,cl3 a b,List.length_cons]; congr 3; omega
theorem bL5:∀ (s:Bs) (n:Int) (j:Nat) (h:j < s.length),(a71 s n)[j]'(by rw [ac9]; exact h)=aC1 s[j] (n - 8 * j)
 | b::r,n,0,_=>by simp [a71]
 | b::r,n,j+1,h=>by
  have:=bL5 r (n - 8) j (by simpa using h)
  simp only [a71,List.getElem_cons_succ,this]
  congr 1; omega
theorem eR9 {s:Bs} {n:Int} (h0:0≤n) (h:n < 8 * s.length):a71 s n=s.take (n / 8).toNat++aC1 (s[(n / 8).toNat]'(by omega)) (n % 8)::List.replicate (s.length - (n / 8).toNat - 1) 0:=by
 have hk:(n / 8).toNat < s.length:=by omega
 have e:s=s.take (n / 8).toNat++(s[(n / 8).toNat]::s.drop ((n / 8).toNat+1)):=by rw [← List.drop_eq_getElem_cons hk,List.take_append_drop]
 have hl:(s.take (n / 8).toNat).length=(n / 8).toNat:=by rw [List.length_take]; omega
 have:=congrArg (fun x=>a71 x n) e
 rw [this,cl3,hl,bd9 (by omega),a71,bp6 (by omega),List.length_drop]
 congr 3
 all_goals omega
theorem eJ4:∀ y:Fin 256,∀ j:Fin 8,(a01 (a47 .andNot .u8 (y.val:Int) (a42 .u8 255 (j.val:Int)))).toNat=aS3 y.val j.val:=by decide +kernel
theorem eS0 {n:Int} (h0:0≤n) (h:n≤9223372036854775807):a47 .and .i64 n 7=n % 8:=by
 obtain ⟨a,rfl⟩:∃ a:Nat,n=a:=⟨n.toNat,by omega⟩
 unfold a47
 show IntKind.wrap .i64 (((BitVec.ofInt 64 (a:Int) &&& BitVec.ofInt 64 ((7:Nat):Int)).toNat:Nat):Int)=_
 have e:a &&& 7=a % 8:=Nat.and_two_pow_sub_one_eq_mod a 3
 rw [BitVec.toNat_and,BitVec.ofInt_natCast,BitVec.ofInt_natCast,BitVec.toNat_ofNat,BitVec.toNat_ofNat,Nat.mod_eq_of_lt (by omega),Nat.mod_eq_of_lt (by omega),e,w64 (by omega) (by omega)]
 omega
theorem eJ5 {n:Int} (h0:0≤n):a42 .i64 n 3=n / 8:=by
 unfold a42
 rw [show ((2:Int) ^ min (3:Int).toNat IntKind.i64.bits)=8 by decide]
 exact Int.fdiv_eq_ediv_of_nonneg _ (by decide)
theorem be0 {s:Bs} {n:Int} (hs:s.length≤1000000000) (hn:IntKind.has .i64 n):ag7 (s,n,())=some ((a71 s n,()),()):=by
 rw [a45] at hn
 rw [e78,w64 (x:=8 * (s.length:Int)) (by omega) (by omega)]
 by_cases h1:8 * (s.length:Int)≤n
 ·rw [ifd h1,bd9 h1]
 ·rw [ifn h1,if_pos (show 0≤(s.length:Int)∧(s.length:Int)≤a98 by unfold a98; omega)]
  by_cases h2:n≤0
  ·rw [ifd h2,bp6 h2,Int.toNat_natCast]
  ·rw [ifn h2,eJ5 (by omega),eS0 (by omega) (by omega),ev4 (by omega) (by omega),if_pos (show 0≤n / 8∧n / 8≤(s.length:Int) by omega),if_pos (show 0≤n / 8 by omega)]
   have hk:(n / 8).toNat < s.length:=by omega
   have hl:((s.take (n / 8).toNat).take ((List.replicate (s.length:Int).toNat (0:UInt8)).length)++(List.replicate (s.length:Int).toNat (0:UInt8)).drop (s.take (n / 8).toNat).length).length=s.length:=by
    simp; omega
   rw [a27 hk,if_pos (show 0≤n % 8 by omega),hl,if_pos (show 0≤n / 8∧n / 8 < (s.length:Int) by omega),if_pos hk,eR9 (by omega) (by omega)]
   have e1:a01 (a47 .andNot .u8 ((s[(n / 8).toNat].toNat:Nat):Int) (a42 .u8 255 (n % 8)))=aC1 s[(n / 8).toNat] (n % 8):=by
    apply UInt8.toNat.inj
    have:=eJ4 ⟨s[(n / 8).toNat].toNat,s[(n / 8).toNat].toNat_lt⟩ ⟨(n % 8).toNat,by omega⟩
    dsimp only at this
    rw [show (((n % 8).toNat:Nat):Int)=n % 8 by omega] at this
    rw [this,aA6,show min (n % 8).toNat 8=(n % 8).toNat by omega]
   have e2:(s.take (n / 8).toNat).length=(n / 8).toNat:=by rw [List.length_take]; omega
   have e3:(s.take (n / 8).toNat).take ((List.replicate (s.length:Int).toNat (0:UInt8)).length)=s.take (n / 8).toNat:=List.take_of_length_le (by simp; omega)
   have e4:(List.replicate (s.length:Int).toNat (0:UInt8)).drop (n / 8).toNat=0::List.replicate (s.length - (n / 8).toNat - 1) 0:=by
    rw [List.drop_replicate,Int.toNat_natCast,show s.length - (n / 8).toNat=(s.length - (n / 8).toNat - 1)+1 by omega,List.replicate_succ]
    simp
   rw [e1,e3,e2,e4,List.set_append_right _ _ (by omega),e2,Nat.sub_self,List.set_cons_zero]
theorem eS1:∀ b:Fin 256,∀ r:Fin 8,aS3 b.val (r.val+1)=aS3 b.val r.val+b.val / 2 ^ (7 - r.val) % 2 * 2 ^ (7 - r.val):=by decide +kernel
theorem ff0:∀ r:Fin 8,a91 .u8 1 (r.val:Int)=2 ^ r.val:=by decide +kernel
theorem fk0 {s:Bs} {i:Nat} (hs:s.length≤1000000000) (h:i < 8 * s.length):bF4 (s,(i:Int),())=some ((decide ((s[i / 8]'(by omega)).toNat / 2 ^ (7 - i % 8) % 2=1),()),()):=by
 have hk:i / 8 < s.length:=by omega
 have e1:Int.tdiv (i:Int) 8=((i / 8:Nat):Int):=by rw [Int.tdiv_eq_ediv_of_nonneg (by omega)]; omega
 have e2:Int.tmod (i:Int) 8=((i % 8:Nat):Int):=by rw [Int.tmod_eq_emod_of_nonneg (by omega)]; omega
 rw [e84,ifd (by omega),w64 (x:=8 * (s.length:Int)) (by omega) (by omega),ifd (by omega),e1,e2,w64 (x:=((i / 8:Nat):Int)) (by omega) (by omega),if_pos (by omega),Int.toNat_natCast,a27 hk,w64 (x:=7 - ((i % 8:Nat):Int)) (by omega) (by omega),ev4 (by omega) (by omega),if_pos (by omega),am4]
 have e3:a42 .i64 ((s[i / 8].toNat:Nat):Int) (7 - ((i % 8:Nat):Int))=((s[i / 8].toNat / 2 ^ (7 - i % 8):Nat):Int):=by
  unfold a42
  rw [show min (7 - ((i % 8:Nat):Int)).toNat IntKind.i64.bits=7 - i % 8 by simp only [IntKind.bits]; omega,Int.fdiv_eq_ediv_of_nonneg _ (Int.pow_nonneg (by decide))]
  simp
 rw [e3]
 have e4:∀ m:Nat,(Int.tmod (m:Int) 2==1)=decide (m % 2=1):=fun m=>by
  rw [Int.tmod_eq_emod_of_nonneg (by omega),Bool.eq_iff_iff]; simp; omega
 rw [e4]
theorem eJ6 {s:Bs} {i:Nat} (h:i < 8 * s.length):a71 s (i+1:Nat)=(if (s[i / 8]'(by omega)).toNat / 2 ^ (7 - i % 8) % 2=1 then (a71 s i).set (i / 8) (UInt8.ofNat (((a71 s i)[i / 8]'(by rw [ac9]; omega)).toNat+2 ^ (7 - i % 8))) else a71 s i):=by
 have hk:i / 8 < s.length:=by omega
 have far:∀ j (hj:j < s.length),j≠i / 8→aC1 (s[j]'hj) (((i+1:Nat):Int) - 8 * j)=aC1 (s[j]'hj) ((i:Int) - 8 * j):=by
  intro j hj hne
  by_cases hlt:j < i / 8
  ·rw [dl9 (by omega),dl9 (by omega)]
  ·rw [cT9 (by omega),cT9 (by omega)]
 have st:=eS1 ⟨s[i / 8].toNat,s[i / 8].toNat_lt⟩ ⟨i % 8,by omega⟩
 dsimp only at st
 have m1:(aC1 s[i / 8] (((i+1:Nat):Int) - 8 * ((i / 8:Nat):Int))).toNat=aS3 s[i / 8].toNat (i % 8+1):=by rw [aA6]; congr 1; omega
 have m0:(aC1 s[i / 8] ((i:Int) - 8 * ((i / 8:Nat):Int))).toNat=aS3 s[i / 8].toNat (i % 8):=by rw [aA6]; congr 1; omega
 apply List.ext_getElem
 ·split <;> simp [ac9]
 ·intro j h1 h2
  have hj:j < s.length:=by rw [ac9] at h1; exact h1
  rw [bL5 s _ j hj]
  split
  ·rename_i hb
   rw [List.getElem_set]
   split
   ·rename_i he
    subst he
    apply UInt8.toNat.inj
    have lt:=(aC1 s[i / 8] (((i+1:Nat):Int) - 8 * ((i / 8:Nat):Int))).toNat_lt
    rw [m1] at lt
    rw [m1,bL5 s _ _ hk,m0,UInt8.toNat_ofNat',st,hb,Nat.one_mul]
    rw [st,hb,Nat.one_mul] at lt
    exact (Nat.mod_eq_of_lt lt).symm
   ·rw [bL5 s _ j hj]; exact far j hj (by omega)
  ·rename_i hb
   rw [bL5 s _ j hj]
   by_cases he:j=i / 8
   ·subst he
    apply UInt8.toNat.inj
    have:s[i / 8].toNat / 2 ^ (7 - i % 8) % 2=0:=by omega
    rw [m1,m0,st,this]; simp
   ·exact far j hj he
theorem eJ7 {s:Bs} {n:Int} {c:Nat} (hs:s.length≤1000000000):∀ (d m i:Nat),8 * s.length - i=d→i≤8 * s.length→(i:Int)≤n→d < m→aE6 c m s n i (a71 s i)=some ((a71 s n,()),()):=by
 intro d
 induction d with
 | zero=>
  intro m i hd hi hn hm
  obtain ⟨m,rfl⟩:∃ k,m=k+1:=⟨m - 1,by omega⟩
  rw [b21,w64 (x:=8 * (s.length:Int)) (by omega) (by omega),ifn (by omega),bd9 (by omega),bd9 (by omega)]
 | succ d ih=>
  intro m i hd hi hn hm
  obtain ⟨m,rfl⟩:∃ k,m=k+1:=⟨m - 1,by omega⟩
  rw [b21,w64 (x:=8 * (s.length:Int)) (by omega) (by omega),ifd (by omega)]
  by_cases h:(i:Int) < n
  ·have hi':i < 8 * s.length:=by omega
   have e1:Int.tdiv (i:Int) 8=((i / 8:Nat):Int):=by rw [Int.tdiv_eq_ediv_of_nonneg (by omega)]; omega
   have e2:Int.tmod (i:Int) 8=((i % 8:Nat):Int):=by rw [Int.tmod_eq_emod_of_nonneg (by omega)]; omega
   have next:=ih m (i+1) (by omega) (by omega) (by omega) (by omega)
   rw [eJ6 hi',show ((i+1:Nat):Int)=(i:Int)+1 by omega] at next
   rw [ifd h,fk0 hs hi',Option.bind_some,e1,e2,w64 (x:=((i / 8:Nat):Int)) (by omega) (by omega),w64 (x:=7 - ((i % 8:Nat):Int)) (by omega) (by omega),ev4 (by omega) (by omega),w64 (x:=(i:Int)+1) (by omega) (by omega),Int.toNat_natCast,ac9]
   dsimp only
   by_cases hb:(s[i / 8]'(by omega)).toNat / 2 ^ (7 - i % 8) % 2=1
   ·rw [if_pos hb] at next
    have hk:i / 8 < (a71 s i).length:=by rw [ac9]; omega
    rw [ifd hb,if_pos (by omega),a27 hk,if_pos (by omega),if_pos (by omega),if_pos (by omega)]
    have e5:a01 (IntKind.wrap .u8 ((((a71 s i)[i / 8]).toNat:Int)+a91 .u8 1 (7 - ((i % 8:Nat):Int))))=UInt8.ofNat (((a71 s i)[i / 8]).toNat+2 ^ (7 - i % 8)):=by
     have:=ff0 ⟨7 - i % 8,by omega⟩
     dsimp only at this
     rw [show ((7 - i % 8:Nat):Int)=7 - ((i % 8:Nat):Int) by omega] at this
     rw [this,wu8]
     apply UInt8.toNat.inj
     have h1:=cl1 ((((a71 s i)[i / 8]).toNat:Int)+2 ^ (7 - i % 8))
     rw [an2 (by have:(0:Int)≤2 ^ (7 - i % 8):=Int.pow_nonneg (by decide); omega)]
     have:((((a71 s i)[i / 8]).toNat:Int)+2 ^ (7 - i % 8))=(((((a71 s i)[i / 8]).toNat+2 ^ (7 - i % 8):Nat)):Int):=by simp
     rw [this]
     unfold a01
     rw [Int.toNat_natCast]
    rw [e5]
    exact next
   ·rw [if_neg hb] at next
    rw [ifn hb]
    exact next
  ·have:n=i:=by omega
   rw [ifn h,this]
theorem bD0 {s:Bs} {n:Int} (hs:s.length≤1000000000):an9 (s,n,())=some ((a71 s n,()),()):=by
 show cb7 a04 _=_
 rw [dV4,if_pos (by unfold a98; omega),Int.toNat_natCast]
 by_cases h:0≤n
 ·have:=eJ7 (n:=n) (c:=a04) hs (8 * s.length) a04 0 (by omega) (by omega) (by omega) (a28 (by omega))
  rw [bp6 (n:=((0:Nat):Int)) (by omega)] at this
  exact this
 ·obtain ⟨c,hc⟩:=cT7
  have:a04=(c+999999999999)+1:=by omega
  rw [bp6 (by omega),this,b21,w64 (x:=8 * (s.length:Int)) (by omega) (by omega),ifn (show ¬(0:Int) < n by omega)]
  split <;> rfl
def ah1 (s:Bs) (n:Int):Bool:=a71 s n==s
theorem dL6 {s:Bs} {n:Int} (hs:s.length≤1000000000) (hn:IntKind.has .i64 n):aD0 (s,n,())=some ((ah1 s n,()),()):=by
 rw [dU9,be0 hs hn]; rfl
theorem eg6 {s:Bs} {n:Int} (hs:s.length≤1000000000):aL3 (s,n,())=some ((ah1 s n,()),()):=by
 rw [dH2,bD0 hs]; rfl
def a87 (n:Int):Int:=if n < 0 then 0 else (n+7) / 8
theorem ew1 {n:Int} (h:n≤9000000000000000000):aD6 (n,())=some ((a87 n,()),()):=by
 rw [dt1]
 unfold a87
 by_cases h0:n < 0
 ·rw [if_pos (show 0 > n from h0),if_pos h0]; rfl
 ·rw [if_neg (show ¬0 > n from h0),if_neg h0,w64 (by omega) (by omega),eJ5 (by omega)]
theorem cu0 {n:Int} (h:n≤9000000000000000000):aq2 (n,())=some ((a87 n,()),()):=by
 rw [dK1]
 unfold a87
 by_cases h0:n < 0
 ·rw [ifd h0,if_pos h0]
 ·rw [ifn h0,if_neg h0,w64 (x:=n+7) (by omega) (by omega),Int.tdiv_eq_ediv_of_nonneg (by omega),w64 (by omega) (by omega)]
def as0 (s:Bs) (n:Int):Bs:=s++List.replicate (n.toNat - s.length) 0
theorem cO4 {s:Bs} {n:Int} (h:n≤1000000000):ah3 (s,n,())=some ((as0 s n,()),()):=by
 rw [dJ5]
 unfold as0
 by_cases h0:n≤(s.length:Int)
 ·rw [ifd h0,show n.toNat - s.length=0 by omega]; simp
 ·rw [ifn h0,if_pos (by unfold a98; omega),List.length_replicate,List.take_of_length_le (by omega),List.drop_replicate]
theorem eJ8 {n:Int} {c:Nat} (h:n≤1000000000):∀ (d m:Nat) (s:Bs),n.toNat - s.length=d→d < m→aZ5 c m n s=some ((as0 s n,()),()):=by
 intro d
 induction d with
 | zero=>
  intro m s hd hm
  obtain ⟨m,rfl⟩:∃ k,m=k+1:=⟨m - 1,by omega⟩
  rw [bZ3,ifn (by omega),as0,hd]; simp
 | succ d ih=>
  intro m s hd hm
  obtain ⟨m,rfl⟩:∃ k,m=k+1:=⟨m - 1,by omega⟩
  rw [bZ3,ifd (by omega),if_pos (a11 (by omega)),ih m (s++[0]) (by simp; omega) (by omega),as0,as0,hd]
  have:n.toNat - (s++[0]).length=d:=by simp; omega
  rw [this,List.replicate_succ]
  simp
theorem dL7 {s:Bs} {n:Int} (h:n≤1000000000):aU7 (s,n,())=some ((as0 s n,()),()):=by
 show ce3 a04 _=_
 rw [dY1]
 exact eJ8 (c:=a04) h _ a04 s rfl (a28 (by omega))
def cl4 (a:Bs) (n:Int):Bs:=a71 (a.take (a87 n).toNat) n
theorem eg7 (n:Int):0≤a87 n:=by unfold a87; split <;> omega
theorem eg8 (a:Bs) (n:Int) (h:0≤n):0≤(if (a.length:Int) < n then (a.length:Int) else n)∧(if (a.length:Int) < n then (a.length:Int) else n)≤(a.length:Int)∧a.take (if (a.length:Int) < n then (a.length:Int) else n).toNat=a.take n.toNat:=by
 split
 ·refine ⟨by omega,by omega,?_⟩
  rw [Int.toNat_natCast,List.take_length,List.take_of_length_le (by omega)]
 ·exact ⟨by omega,by omega,rfl⟩
theorem eE2 {a:Bs} {n:Int} (ha:a.length≤1000000000) (hn:IntKind.has .i64 n) (h:n≤9000000000000000000):aE2 (a,n,())=some ((cl4 a n,()),()):=by
 obtain ⟨m1,m2,m3⟩:=eg8 a (a87 n) (eg7 n)
 rw [dX1,ew1 h,Option.bind_some]
 dsimp only
 rw [if_pos ⟨m1,m2⟩,m3,be0 (by rw [List.length_take]; omega) hn]; rfl
theorem eJ9 (a:Bs) (n:Int):∀ k:Nat,(a71 a n).take k=a71 (a.take k) n:=by
 intro k
 induction a generalizing n k with
 | nil=>simp [a71]
 | cons b r ih=>
  cases k with
  | zero=>simp [a71]
  | succ k=>simp [a71,ih]
theorem eE3 {a:Bs} {n:Int} (ha:a.length≤1000000000) (h:n≤9000000000000000000):bH1 (a,n,())=some ((cl4 a n,()),()):=by
 obtain ⟨m1,m2,m3⟩:=eg8 a (a87 n) (eg7 n)
 rw [ea2,bD0 ha,Option.bind_some,cu0 h,Option.bind_some]
 dsimp only
 rw [if_pos (by rw [ac9]; exact ⟨m1,m2⟩),eJ9,m3]; rfl
end Go.VP
namespace Go.VP
open Go Go.VI
def b09 (ae:Int) (a:Bs):Bool:=if ae=0 then a==[] else if ae=1 then decide (a.length=4) else if ae=2 then decide (a.length=16) else if ae=3 then a79 a else false
theorem ff1 (ae:Int) (a:Bs):ay0 (ae,a,())=some ((b09 ae a,()),()):=by
 rw [dl5,eR8,cO3]
 unfold b09
 refine a09 (fun h=>?_) (fun h=>?_)
 ·rw [if_pos h]
 rw [if_neg h]
 refine a09 (fun h=>?_) (fun h=>?_)
 ·rw [if_pos h,Option.bind_some]
  unfold aP4; split
  ·simp [*]
  ·split <;> simp [*]
 rw [if_neg h]
 refine a09 (fun h=>?_) (fun h=>?_)
 ·rw [if_pos h,Option.bind_some]
  unfold aP4; split
  ·simp [*]
  ·split <;> simp [*]
 rw [if_neg h]
 refine a09 (fun h=>?_) (fun h=>?_)
 ·rw [if_pos h,Option.bind_some]
 rw [if_neg h]
theorem f09 (ae:Int) (a:Bs):aU5 (ae,a,())=some ((b09 ae a,()),()):=by
 rw [dV9,bC9]
 unfold b09
 refine a09 (fun h=>?_) (fun h=>?_)
 ·rw [if_pos h]
 rw [if_neg h]
 refine a09 (fun h=>?_) (fun h=>?_)
 ·rw [if_pos h]
  have:((a.length:Int)==4)=decide (a.length=4):=by rw [Bool.eq_iff_iff]; simp; omega
  rw [this]
 rw [if_neg h]
 refine a09 (fun h=>?_) (fun h=>?_)
 ·rw [if_pos h]
  have:((a.length:Int)==16)=decide (a.length=16):=by rw [Bool.eq_iff_iff]; simp; omega
  rw [this]
 rw [if_neg h]
 refine a09 (fun h=>?_) (fun h=>?_)
 ·rw [if_pos h,Option.bind_some]
 rw [if_neg h]
def cU0 (m:Msg):Bool:=if m.kind=7 then true else if m.kind=8 then true else if m.kind=9 then (m.flags==0 || m.flags==1) else if m.kind=10 then b09 m.ae m.addr else false
noncomputable def ao2 (m:Msg):Bool:=a25 m.nonce 2 && (a25 m.interval 2 && (a25 m.seq 2 && (a25 m.cost 2 && (a68 m && (ac8 m.subs && cU0 m)))))
structure aC2 (m:Msg):Prop where
 few:ec2 m
 nonce:IntKind.has .i64 m.nonce
 interval:IntKind.has .i64 m.interval
 seq:IntKind.has .i64 m.seq
 cost:IntKind.has .i64 m.cost
 kind:IntKind.has .i64 m.kind
 flags:IntKind.has .i64 m.flags
 ae:IntKind.has .i64 m.ae
 plen:IntKind.has .i64 m.plen
 hops:IntKind.has .i64 m.hops
theorem ew2 {m:Msg} {c:Option ((Bool × Unit) × Unit)} (hc:c=some ((b09 m.ae m.addr,()),())) :
 (if (m.kind==7)=true then (if (m.kind==7)=true then some ((true,()),()) else (if (m.kind==9)=true then (if (m.flags==0)=true then some ((true,()),()) else some (((m.flags==1),()),())) else (if (m.kind==10)=true then (c.bind fun r5=>some ((r5.1.1,()),())) else some ((false,()),())))) else (if (m.kind==8)=true then some ((true,()),()) else (if (m.kind==9)=true then (if (m.flags==0)=true then some ((true,()),()) else some (((m.flags==1),()),())) else (if (m.kind==10)=true then (c.bind fun r6=>some ((r6.1.1,()),())) else some ((false,()),())))))=some ((cU0 m,()),()):=by
 subst hc
 unfold cU0
 refine a09 (fun h=>?_) (fun h=>?_)
 ·rw [if_pos h,if_pos (by simp [h])]
 rw [if_neg h]
 refine a09 (fun h=>?_) (fun h=>?_)
 ·rw [if_pos h]
 rw [if_neg h]
 refine a09 (fun h=>?_) (fun h=>?_)
 ·rw [if_pos h]
  refine a09 (fun h2=>?_) (fun h2=>?_)
  ·simp [h2]
  ·have:(m.flags==0)=false:=by simpa using h2
   rw [this,Bool.false_or]
 rw [if_neg h]
 refine a09 (fun h=>?_) (fun h=>?_)
 ·rw [if_pos h,Option.bind_some]
 rw [if_neg h]
theorem ew3 {m:Msg} (g:aC2 m):aL0 (m,())=some ((ao2 m,()),()):=by
 have f2:∀ {n:Int},IntKind.has .i64 n→a24 (n,2,())=some ((a25 n 2,()),()):=fun h=>ak1 (k:=2) h (by omega) (by omega)
 obtain ⟨c,hc⟩:=cT7
 show bQ2 a04 _=_
 rw [dK7,show ([m.nonce,m.interval,m.seq,m.cost]:List Int).length=4 from rfl]
 have e0:a04=(c+999999999995)+5:=by omega
 have st:∀ (k:Nat) (i:Nat) (x:Int),[m.nonce,m.interval,m.seq,m.cost][i]?=some x→i < 4→IntKind.has .i64 x→ao5 a04 (k+1) m [m.nonce,m.interval,m.seq,m.cost] ((4:Nat):Int) i=(if (!a25 x 2)=true then some ((false,()),()) else ao5 a04 k m [m.nonce,m.interval,m.seq,m.cost] ((4:Nat):Int) ((i+1:Nat):Int)):=by
  intro k i x hx hi hh
  rw [bL2,ifd (by omega),if_pos (by omega),Int.toNat_natCast,hx,Option.bind_some,f2 hh,Option.bind_some,w64 (by omega) (by omega)]
  rfl
 have last:∀ k,ao5 a04 (k+1) m [m.nonce,m.interval,m.seq,m.cost] ((4:Nat):Int) ((4:Nat):Int)=some ((a68 m && (ac8 m.subs && cU0 m),()),()):=by
  intro k
  rw [bL2,ifn (by omega),b08,Option.bind_some,ct9 g.few.fewS,Option.bind_some]
  dsimp only
  rw [ew2 (ff1 _ _)]
  cases a68 m
  ·rfl
  ·cases ac8 m.subs <;> rfl
 have:=st (c+999999999999) 0 m.nonce rfl (by omega) g.nonce
 rw [show c+999999999999+1=a04 by omega] at this
 rw [show (0:Int)=((0:Nat):Int) from rfl,this]
 have:=st (c+999999999998) 1 m.interval rfl (by omega) g.interval
 rw [this]
 have:=st (c+999999999997) 2 m.seq rfl (by omega) g.seq
 rw [this]
 have:=st (c+999999999996) 3 m.cost rfl (by omega) g.cost
 rw [this]
 have:=last (c+999999999995)
 rw [this]
 unfold ao2
 cases a25 m.nonce 2
 ·rfl
 ·cases a25 m.interval 2
  ·rfl
  ·cases a25 m.seq 2
   ·rfl
   ·cases a25 m.cost 2 <;> rfl
theorem ff2 (n:Int):aA1 (n,())=some ((a25 n 2,()),()):=by
 have:=bC6 (n:=n) (k:=2) (by omega) (by omega)
 rw [e85,show (2:Int)=((2:Nat):Int) from rfl,this]; rfl
theorem eg9 {m:Msg} (g:aC2 m):aM1 (m,())=some ((ao2 m,()),()):=by
 have:=g.few.list; have:=g.few.subs
 rw [dI3,aJ7 (by omega) (by omega),Option.bind_some,c18 g.few.fewS,Option.bind_some]
 simp only [ff2,Option.bind_some]
 rw [ew2 (f09 _ _)]
 unfold ao2
 cases a68 m
 ·simp
 ·cases ac8 m.subs
  ·simp
  ·cases a25 m.nonce 2
   ·rfl
   ·cases a25 m.interval 2
    ·rfl
    ·cases a25 m.seq 2
     ·rfl
     ·cases a25 m.cost 2 <;> rfl
def a85 (m:Msg):Bs:=
 if m.kind=7 then be 2 0++(be 2 m.nonce++be 2 m.interval)
 else if m.kind=8 then be 2 m.nonce
 else if m.kind=9 then be 2 (32768 * m.flags)++(be 2 m.seq++be 2 m.interval)
 else be 2 (256 * m.ae)++(be 2 m.cost++(be 2 m.interval++(if m.ae=3 then m.addr.drop 8 else m.addr)))
noncomputable def aq4 (m:Msg):Bs × Bool:=if ao2 m=true then aw0 (m.kind - 5) (a85 m++a73 m.subs) else ([],false)
theorem be2 {n:Int} (h:0≤n∧n < 65536):[a01 (IntKind.wrap .u8 (a42 .i64 n 8)),a01 (IntKind.wrap .u8 n)]=be 2 n:=by
 have e:a42 .i64 n 8=n / 256:=by
  unfold a42
  rw [show ((2:Int) ^ min (8:Int).toNat IntKind.i64.bits)=256 by decide]
  exact Int.fdiv_eq_ediv_of_nonneg _ (by decide)
 rw [e,wu8,wu8]; rfl
theorem f10 {l:List Int} {n:Nat} (hl:l.length≤10) (hr:∀ x∈l,0≤x∧x < 65536):∀ (d m i:Nat) (b:Bs),i+d=l.length→d < m→b.length≤1000+2 * i→
  ar7 n m l i b=some ((),(⟨b++(l.drop i).flatMap (be 2)⟩,())):=by
 intro d
 induction d with
 | zero=>
  intro m i b hd hm hb
  obtain ⟨m,rfl⟩:∃ k,m=k+1:=⟨m - 1,by omega⟩
  rw [b16,ifn (by omega),List.drop_eq_nil_of_le (by omega)]
  simp
 | succ d ih=>
  intro m i b hd hm hb
  obtain ⟨m,rfl⟩:∃ k,m=k+1:=⟨m - 1,by omega⟩
  have hi:i < l.length:=by omega
  have:=ih m (i+1) (b++be 2 l[i]) (by omega) (by omega) (by simp [a21]; omega)
  rw [show ((i+1:Nat):Int)=(i:Int)+1 by omega] at this
  rw [b16,ifd (by omega),if_pos (by omega),Int.toNat_natCast,a27 hi,if_pos (a89 (by simp; omega)),be2 (hr _ (List.getElem_mem hi)),w64 (by omega) (by omega),this,List.drop_eq_getElem_cons hi]
  simp only [List.flatMap_cons,List.append_assoc]
theorem dZ1 {l:List Int} {b:Bs} (hl:l.length≤10) (hr:∀ x∈l,0≤x∧x < 65536) (hb:b.length≤1000):ai4 (⟨b⟩,l,())=some ((),(⟨b++l.flatMap (be 2)⟩,())):=by
 show aU0 a04 _=_
 rw [cN6]
 exact f10 (n:=a04) hl hr l.length a04 0 b (by omega) (a28 (by omega)) (by omega)
structure ay5 (m:Msg):Prop where
 nonce:0≤m.nonce∧m.nonce < 65536
 interval:0≤m.interval∧m.interval < 65536
 seq:0≤m.seq∧m.seq < 65536
 cost:0≤m.cost∧m.cost < 65536
 bare:a68 m=true
 subs:ac8 m.subs=true
 kind:cU0 m=true
theorem b47 {n:Int}:a25 n 2=true↔0≤n∧n < 65536:=by simp [a25]
theorem aj7 {m:Msg}:ao2 m=true↔ay5 m:=by
 unfold ao2
 simp only [Bool.and_eq_true,b47]
 exact ⟨fun ⟨a,b,c,d,e,f,g⟩=>⟨a,b,c,d,e,f,g⟩,fun h=>⟨h.1,h.2,h.3,h.4,h.5,h.6,h.7⟩⟩
theorem ay5.kinds {m:Msg} (h:ay5 m):m.kind=7∨m.kind=8∨(m.kind=9∧(m.flags=0∨m.flags=1))∨(m.kind=10∧b09 m.ae m.addr=true):=by
 have:=h.kind
 unfold cU0 at this
 split at this
 ·omega
 ·split at this
  ·omega
  ·split at this
   ·simp at this; exact .inr (.inr (.inl ⟨by assumption,this⟩))
   ·split at this
    ·exact .inr (.inr (.inr ⟨by assumption,this⟩))
    ·cases this
theorem cB4 {ae:Int} {a:Bs} (h:b09 ae a=true):(ae=0∧a=[])∨(ae=1∧a.length=4)∨(ae=2∧a.length=16)∨(ae=3∧a79 a=true):=by
 unfold b09 at h
 split at h
 ·simp at h; exact .inl ⟨by assumption,h⟩
 ·split at h
  ·simp at h; exact .inr (.inl ⟨by assumption,h⟩)
  ·split at h
   ·simp at h; exact .inr (.inr (.inl ⟨by assumption,h⟩))
   ·split at h
    ·exact .inr (.inr (.inr ⟨by assumption,h⟩))
    ·cases h
theorem ec3 {x:Int} {k:Nat} (hx:0≤x∧x < 65536) (hk:k≤15):a91 .i64 x k=2 ^ k * x:=by
 unfold a91
 rw [Int.mul_comm]
 have e:min (k:Int).toNat IntKind.i64.bits=k:=by simp only [IntKind.bits]; omega
 rw [e]
 have hp:(2:Int) ^ k≤32768∧1≤(2:Int) ^ k:=by
  match k,hk with
  | 0,_ | 1,_ | 2,_ | 3,_ | 4,_ | 5,_ | 6,_ | 7,_ | 8,_ | 9,_ | 10,_ | 11,_ | 12,_ | 13,_ | 14,_ | 15,_=>decide
 have h1:x * 2 ^ k≤65536 * 32768:=Int.mul_le_mul (by omega) hp.1 (by omega) (by omega)
 have h0:0≤x * 2 ^ k:=Int.mul_nonneg hx.1 (by omega)
 rw [w64 (by omega) (by omega),Int.mul_comm]
theorem cO5 {l:List Sub} (h:ac8 l=true):dl7 l=(a73 l,true):=by unfold dl7; rw [if_pos h]
theorem ay6 {l:List Sub} (h:ac8 l=true):(a73 l).length≤200:=by
 have:=(aV2 h).2; have:=aN9 l; omega
theorem fk1 {m:Msg} (g:aC2 m):b36 (m,())=some (((aq4 m).1,(aq4 m).2,()),()):=by
 rw [ea8,ew3 g,Option.bind_some]
 unfold aq4
 dsimp only
 by_cases h:ao2 m=true
 ·have r:=aj7.1 h
  have hs:=ec1 g.few.fewS (by have:=g.few.subs; omega)
  rw [cO5 r.subs] at hs
  have hz:=ay6 r.subs
  rw [if_neg (by simp [h]),if_pos h,hs]
  simp only [Option.bind_some]
  rcases r.kinds with hk | hk | ⟨hk,hf⟩ | ⟨hk,ha⟩
  ·rw [if_pos (by simp [hk]),dZ1 (by simp) (by have:=r.nonce; have:=r.interval; simp; omega) (by simp),Option.bind_some]
   dsimp only
   rw [if_pos (a11 (by simp [a21]; omega)),aN8,w64 (x:=m.kind - 7) (by omega) (by omega),w64 (by omega) (by omega)]
   simp [a85,hk]
  ·rw [if_neg (by simp [hk]),if_pos (by simp [hk]),dZ1 (by simp) (by have:=r.nonce; simp; omega) (by simp),Option.bind_some]
   dsimp only
   rw [if_pos (a11 (by simp [a21]; omega)),aN8,w64 (x:=m.kind - 7) (by omega) (by omega),w64 (by omega) (by omega)]
   simp [a85,hk]
  ·rw [if_neg (by simp [hk]),if_neg (by simp [hk]),if_pos (by simp [hk]),show (15:Int)=((15:Nat):Int) from rfl,ec3 (by omega) (by omega),dZ1 (by simp) (by have:=r.seq; have:=r.interval; simp; omega) (by simp),Option.bind_some]
   dsimp only
   rw [if_pos (a11 (by simp [a21]; omega)),aN8,w64 (x:=m.kind - 7) (by omega) (by omega),w64 (by omega) (by omega)]
   simp [a85,hk]
  ·have hc:=cB4 ha
   have hl:m.addr.length≤16:=by rcases hc with ⟨_,h⟩ | ⟨_,h⟩ | ⟨_,h⟩ | ⟨_,h⟩ <;> first | (rw [h]; simp; done) | omega | (have:=ay4 h; omega)
   rw [if_neg (by simp [hk]),if_neg (by simp [hk]),if_neg (by simp [hk]),if_pos (by simp [hk]),show (8:Int)=((8:Nat):Int) from rfl,ec3 (by omega) (by omega),dZ1 (by simp) (by have:=r.cost; have:=r.interval; simp; omega) (by simp),Option.bind_some,ew0,Option.bind_some]
   dsimp only
   have fin:∀ a:Bs,a.length≤16→a85 m=be 2 (256 * m.ae)++(be 2 m.cost++(be 2 m.interval++a))→(if a66 (([]++[2 ^ 8 * m.ae,m.cost,m.interval].flatMap (be 2)).length+a.length)=true then (if a10 ((([]++[2 ^ 8 * m.ae,m.cost,m.interval].flatMap (be 2))++a).length+(a73 m.subs).length)=true then ((a88 ((IntKind.wrap .i64 ((IntKind.wrap .i64 (m.kind - 7))+2)),((([]++[2 ^ 8 * m.ae,m.cost,m.interval].flatMap (be 2))++a)++a73 m.subs),())).bind fun r14=>some ((r14.1.1,r14.1.2.1,()),())) else none) else none)=some (((aw0 (m.kind - 5) (a85 m++a73 m.subs)).1,(aw0 (m.kind - 5) (a85 m++a73 m.subs)).2,()),()):=by
    intro a ha he
    rw [if_pos (a89 (by simp [a21]; omega)),if_pos (a11 (by simp [a21]; omega)),aN8,w64 (x:=m.kind - 7) (by omega) (by omega),w64 (by omega) (by omega),he]
    simp [hk]
   unfold b46
   by_cases hb:a79 m.addr=true
   ·rw [hb,ift,ift]
    dsimp only
    refine a09 (fun h3=>?_) (fun h3=>?_)
    ·exact fin _ (by simp; omega) (by simp [a85,hk,h3])
    ·exact fin _ hl (by simp [a85,hk,h3])
   ·have h3:m.ae≠3:=fun h3=>by rcases hc with ⟨h,_⟩ | ⟨h,_⟩ | ⟨h,_⟩ | ⟨_,h⟩ <;> first | omega | exact hb h
    rw [Bool.not_eq_true] at hb
    rw [hb,aa1,aa1]
    exact fin _ hl (by simp [a85,hk,h3])
 ·rw [Bool.not_eq_true] at h
  rw [h,a83,aa1]
theorem ec4 {n:Int} {k:Nat} (h:a25 n k=true):(ak5 n k).1=be k n:=by unfold ak5; rw [if_pos h]
theorem dL8 {n:Int} (h:0≤n∧n < 65536):a39 (n,2,())=some ((be 2 n,()),()):=by
 have:=bL4 (n:=n) (k:=2) (a45.2 ⟨by omega,by omega⟩) (by omega) (by omega)
 rw [ec4 (b47.2 h)] at this
 exact this
theorem fo4 {n:Int} (h:0≤n∧n < 256):a39 (n,1,())=some ((be 1 n,()),()):=by
 have:=bL4 (n:=n) (k:=1) (a45.2 ⟨by omega,by omega⟩) (by omega) (by omega)
 rw [ec4 (by simp [a25]; omega)] at this
 exact this
theorem eE4 {n:Int} (h:0≤n∧n < 256):be 2 (256 * n)=be 1 n++[0]:=by
 show ([]++[a01 ((256 * n / 256) % 256)])++[a01 ((256 * n) % 256)]=([]++[a01 (n % 256)])++[0]
 rw [show 256 * n / 256=n by omega,show 256 * n % 256=0 by omega]; rfl
theorem eK0 {m:Msg} (r:ay5 m) (hl:m.addr.length≤400):aZ8 (m,())=some ((m.kind - 5,a85 m,()),()):=by
 rw [dt0,dL8 r.interval,Option.bind_some]
 dsimp only
 rcases r.kinds with hk | hk | ⟨hk,hf⟩ | ⟨hk,ha⟩
 ·rw [if_pos (by simp [hk]),dL8 r.nonce,Option.bind_some,if_pos (a11 (by simp [a21])),if_pos (a11 (by simp [a21]))]
  simp [a85,hk]; rfl
 ·rw [if_neg (by simp [hk]),if_pos (by simp [hk]),dL8 r.nonce,Option.bind_some]
  simp [a85,hk]
 ·rw [if_neg (by simp [hk]),if_neg (by simp [hk]),if_pos (by simp [hk]),w64 (by omega) (by omega),dL8 (by omega),Option.bind_some,dL8 r.seq,Option.bind_some,if_pos (a11 (by simp [a21])),if_pos (a11 (by simp [a21]))]
  simp [a85,hk]
 ·have hc:=cB4 ha
  have hae:0≤m.ae∧m.ae < 256:=by rcases hc with ⟨h,_⟩ | ⟨h,_⟩ | ⟨h,_⟩ | ⟨h,_⟩ <;> omega
  have hd:(m.addr.drop 8).length≤400:=by simp; omega
  rw [if_neg (by simp [hk]),if_neg (by simp [hk]),if_neg (by simp [hk]),fo4 hae,dL8 r.cost,eR7]
  simp only [Option.bind_some]
  by_cases h3:m.ae=3
  ·have hb:a79 m.addr=true:=by rcases hc with ⟨h,_⟩ | ⟨h,_⟩ | ⟨h,_⟩ | ⟨_,h⟩ <;> first | omega | exact h
   have hs:(b46 m.addr).1=m.addr.drop 8:=by unfold b46; rw [if_pos hb]
   rw [if_pos (by simp [h3]),hs,if_pos (a11 (by simp [a21])),if_pos (a11 (by simp [a21])),if_pos (a11 (by simp [a21])),if_pos (a11 (by simp [a21]; omega))]
   simp [a85,hk,h3,eE4 (show (0:Int)≤3∧(3:Int) < 256 by omega)]
   rfl
  ·rw [if_neg (by simp [h3]),if_pos (a11 (by simp [a21])),if_pos (a11 (by simp [a21])),if_pos (a11 (by simp [a21])),if_pos (a11 (by simp [a21]; omega))]
   simp [a85,hk,h3,eE4 hae]
theorem eA9 {m:Msg} (hl:m.addr.length≤400):(a85 m).length≤406:=by
 unfold a85; split
 ·simp [a21]
 ·split
  ·simp [a21]
  ·split
   ·simp [a21]
   ·split <;> simp [a21] <;> omega
theorem eS2 {m:Msg} (g:aC2 m):bH0 (m,())=some (((aq4 m).1,(aq4 m).2,()),()):=by
 rw [ea1,eg9 g,Option.bind_some]
 unfold aq4
 dsimp only
 by_cases h:ao2 m=true
 ·have r:=aj7.1 h
  have hs:=dL4 g.few.fewS (by have:=g.few.subs; omega)
  rw [cO5 r.subs] at hs
  have hz:=ay6 r.subs
  have hl:=eA9 (m:=m) (by have:=g.few.addr; omega)
  rw [if_neg (by simp [h]),if_pos h,hs,eK0 r (by have:=g.few.addr; omega)]
  simp only [Option.bind_some]
  rw [if_pos (a11 (by omega)),au7]; rfl
 ·rw [Bool.not_eq_true] at h
  rw [h,a83,aa1]
end Go.VP
namespace Go.VP
open Go Go.VI
abbrev aP5:Msg:=⟨0,0,0,[],0,0,[],0,0,[],0,[],0,0,0,0,0,0,0,[],[],[],0,[],[]⟩
def cU1 (F:List Sub→Msg) (x:List Sub × Bool × Int):Msg × Bool × Int:=if (x.2.2 != 0)=true then (aP5,false,x.2.2) else if (!x.2.1)=true then (aP5,false,x.2.2) else (F x.1,true,0)
theorem ay7 (F:List Sub→Msg) (x:List Sub × Bool × Int):(if (x.2.2 != 0)=true then (some ((aP5,false,x.2.2,()),()):Option ((Msg × Bool × Int × Unit) × Unit)) else (if (!x.2.1)=true then some ((aP5,false,x.2.2,()),()) else some ((F x.1,true,0,()),())))=some (a35 (cU1 F x),()):=by
 unfold cU1 a35
 by_cases h:(x.2.2 != 0)=true
 ·rw [if_pos h,if_pos h]
 ·rw [if_neg h,if_neg h]
  by_cases h2:(!x.2.1)=true
  ·rw [if_pos h2,if_pos h2]
  ·rw [if_neg h2,if_neg h2]
abbrev frd (d:Bs) (p:Int) (b:Bool):a77:=⟨d,p,d.length,b⟩
theorem fk2 {d:Bs} {p q:Int} (h:d.length≤1000000) (h0:0≤p) (hq:q=p+2) (h2:q≤d.length):a30 (frd d p false,())=some ((num (a06 d p 2),()),(frd d q false,())):=by
 subst hq
 have w:WfC d p d.length:=⟨h0,by omega,by omega,by omega⟩
 rw [bd6,ak9 w (by omega) (by omega) h2]; rfl
theorem ff3 {d:Bs} {p:Int} {b:Bool} (h:d.length≤1000000) (h0:0≤p) (h1:p≤d.length) (h2:b=true∨(d.length:Int) < p+2):a30 (frd d p b,())=some ((0,()),(frd d p true,())):=by
 have w:WfC d p d.length:=⟨h0,by omega,by omega,by omega⟩
 rw [bd6,c35 w (by omega) (by omega) h2]; rfl
def ae3 (ae:Int):Int:=if ae=0 then 0 else if ae=1 then 4 else if ae=2 then 16 else 8
theorem f11 (ae:Int):0≤ae3 ae∧ae3 ae≤16:=by unfold ae3; split <;> (try split) <;> (try split) <;> omega
theorem eS3 {ae:Int} (ha:0≤ae∧ae≤3):ae3 ae=8↔ae=3:=by
 have:ae=0∨ae=1∨ae=2∨ae=3:=by omega
 rcases this with rfl | rfl | rfl | rfl <;> decide
theorem f12 {d:Bs} {p ae:Int} (h:d.length≤1000000) (h0:0≤p) (ha:0≤ae∧ae≤3) (h2:p+ae3 ae≤d.length):ak8 (frd d p false,ae,())=some ((if ae=3 then ah6++a06 d p 8 else a06 d p (ae3 ae),()),(frd d (p+ae3 ae) false,())):=by
 have hn:=f11 ae
 rw [b45,if_pos (by omega)]
 change ((a62 (a34.mk d p d.length false,ae3 ae,())).bind _)=_
 rw [ap0 (show WfC d p d.length from ⟨h0,by omega,by omega,by omega⟩) hn.1 h2,Option.bind_some,c42,Option.bind_some]
 have hl:=a61 (s:=d) (p:=p) (n:=ae3 ae) h0 hn.1 h2
 dsimp only
 by_cases h3:ae=3
 ·have h8:=(eS3 ha).2 h3
  have:aj6 (a06 d p (ae3 ae))=(ah6++a06 d p (ae3 ae),true):=by unfold aj6; rw [if_pos (by omega)]
  rw [this,ift,if_pos (by simp [h3]),if_pos h3,h8]
 ·have h8:ae3 ae≠8:=fun h=>h3 ((eS3 ha).1 h)
  have:(aj6 (a06 d p (ae3 ae))).2=false:=by unfold aj6; rw [if_neg (by omega)]
  rw [this,aa1,if_neg h3]
theorem eh0 {d:Bs} {p ae:Int} {b:Bool} (h:d.length≤1000000) (h0:0≤p) (h1:p≤d.length) (ha:0≤ae∧ae≤3) (h2:b=true∨d.length < p+ae3 ae):∃ s,ak8 (frd d p b,ae,())=some ((s,()),(frd d p true,())):=by
 rw [b45,if_pos (by omega)]
 change ∃ s,((a62 (a34.mk d p d.length b,ae3 ae,())).bind _)=_
 rw [ba8 (show WfC d p d.length from ⟨h0,by omega,by omega,by omega⟩) (h2.imp id .inr),Option.bind_some,c42,Option.bind_some]
 exact ⟨_,rfl⟩
def bp7 (ty:Int) (d:Bs):Msg × Bool × Int:=
 if ty=2 then (if d.length < 6 then (aP5,false,2) else cU1 (fun l=>⟨7,0,0,[],0,0,[],0,0,[],0,[],0,0,num (a06 d 4 2),0,0,num (a06 d 2 2),0,[],[],[],0,[],l⟩) (ak6 (d.drop 6)))
 else if ty=3 then (if d.length < 2 then (aP5,false,2) else cU1 (fun l=>⟨8,0,0,[],0,0,[],0,0,[],0,[],0,0,0,0,0,num (a06 d 0 2),0,[],[],[],0,[],l⟩) (ak6 (d.drop 2)))
 else if ty=4 then (if d.length < 6 then (aP5,false,2) else cU1 (fun l=>⟨9,0,0,[],0,0,[],0,0,[],0,[],num (a06 d 2 2),0,num (a06 d 4 2),bt d 0 / 128,0,0,0,[],[],[],0,[],l⟩) (ak6 (d.drop 6)))
 else if d.length < 6 then (aP5,false,2)
 else if 3 < bt d 0 then (aP5,false,0)
 else if (d.length:Int) < 6+ae3 (bt d 0) then (aP5,false,2)
 else cU1 (fun l=>⟨10,0,0,[],0,bt d 0,[],0,0,[],0,[],0,0,num (a06 d 4 2),0,0,0,num (a06 d 2 2),if bt d 0=3 then ah6++a06 d 6 8 else a06 d 6 (ae3 (bt d 0)),[],[],0,[],l⟩) (ak6 (d.drop (6+ae3 (bt d 0)).toNat))
theorem fd2 {n:Int} (k:Nat) (hk:k≤63):a42 .i64 n k=n / 2 ^ k:=by
 unfold a42
 rw [show min (k:Int).toNat IntKind.i64.bits=k by simp only [IntKind.bits]; omega]
 exact Int.fdiv_eq_ediv_of_nonneg _ (Int.pow_nonneg (by decide))
theorem fd3 (d:Bs) (h:2≤d.length):num (a06 d 0 2)=bt d 0 * 256+bt d 1:=fj8 (p:=0) (by omega)
theorem fk3 (d:Bs) (h:2≤d.length):num (a06 d 0 2) / 256=bt d 0:=by
 have:=a31 d 0; have:=a31 d 1; rw [fd3 d h]; omega
theorem fk4 (d:Bs) (h:2≤d.length):num (a06 d 0 2) / 32768=bt d 0 / 128:=by
 have:=a31 d 0; have:=a31 d 1; rw [fd3 d h]; omega
theorem do7 {ty at_:Int} {d:Bs} (hd:d.length≤1000) (ht:2≤ty∧ty≤5):az7 (⟨ty,at_,d⟩,())=some (a35 (bp7 ty d),()):=by
 have nw:=bp5 d
 have ok:=fun p q (a:0≤p) (b:q=p+2) c=>fk2 (d:=d) (p:=p) (q:=q) (by omega) a b c
 have bad:=fun p b (a:0≤p) (c:p≤(d.length:Int)) e=>ff3 (d:=d) (p:=p) (b:=b) (by omega) a c e
 rw [eb9]
 dsimp only
 rw [nw,Option.bind_some]
 dsimp only
 unfold bp7
 have hcase:ty=2∨ty=3∨ty=4∨ty=5:=by omega
 rcases hcase with rfl | rfl | rfl | rfl
 ·rw [if_pos (by decide),if_pos rfl]
  by_cases h:d.length < 6
  ·rw [if_pos h]
   have fin:∃ n x,a30 (frd d 0 false,())=some ((n,()),(x,()))∧∃ n' y,a30 (x,())=some ((n',()),(y,()))∧∃ n'' z,a30 (y,())=some ((n'',()),(z,()))∧z.c_Bad=true:=by
    by_cases h2:d.length < 2
    ·exact ⟨_,_,bad 0 false (by omega) (by omega) (.inr (by omega)),_,_,bad 0 true (by omega) (by omega) (.inl rfl),_,_,bad 0 true (by omega) (by omega) (.inl rfl),rfl⟩
    ·by_cases h4:d.length < 4
     ·exact ⟨_,_,ok 0 2 (by omega) rfl (by omega),_,_,bad 2 false (by omega) (by omega) (.inr (by omega)),_,_,bad 2 true (by omega) (by omega) (.inl rfl),rfl⟩
     ·exact ⟨_,_,ok 0 2 (by omega) rfl (by omega),_,_,ok 2 4 (by omega) rfl (by omega),_,_,bad 4 false (by omega) (by omega) (.inr (by omega)),rfl⟩
   obtain ⟨n,x,e1,n',y,e2,n'',z,e3,e4⟩:=fin
   rw [e1,Option.bind_some]; dsimp only
   rw [e2,Option.bind_some]; dsimp only
   rw [e3,Option.bind_some]; dsimp only
   rw [if_pos e4]
  ·rw [if_neg h,ok 0 2 (by omega) rfl (by omega),Option.bind_some]; dsimp only
   rw [ok 2 4 (by omega) rfl (by omega),Option.bind_some]; dsimp only
   rw [ok 4 6 (by omega) rfl (by omega),Option.bind_some]; dsimp only
   rw [if_neg (by decide),if_pos (by omega),show ((6:Int)).toNat=6 from rfl,c40 (by simp; omega),Option.bind_some]
   exact ay7 _ _
 ·rw [if_neg (by decide),if_pos (by decide),if_neg (by decide),if_pos rfl]
  by_cases h:d.length < 2
  ·rw [if_pos h,bad 0 false (by omega) (by omega) (.inr (by omega)),Option.bind_some]; rfl
  ·rw [if_neg h,ok 0 2 (by omega) rfl (by omega),Option.bind_some]; dsimp only
   rw [if_neg (by decide),if_pos (by omega),show ((2:Int)).toNat=2 from rfl,c40 (by simp; omega),Option.bind_some]
   exact ay7 _ _
 ·rw [if_neg (by decide),if_neg (by decide),if_pos (by decide),if_neg (by decide),if_neg (by decide),if_pos rfl]
  by_cases h:d.length < 6
  ·rw [if_pos h]
   have fin:∃ n x,a30 (frd d 0 false,())=some ((n,()),(x,()))∧∃ n' y,a30 (x,())=some ((n',()),(y,()))∧∃ n'' z,a30 (y,())=some ((n'',()),(z,()))∧z.c_Bad=true:=by
    by_cases h2:d.length < 2
    ·exact ⟨_,_,bad 0 false (by omega) (by omega) (.inr (by omega)),_,_,bad 0 true (by omega) (by omega) (.inl rfl),_,_,bad 0 true (by omega) (by omega) (.inl rfl),rfl⟩
    ·by_cases h4:d.length < 4
     ·exact ⟨_,_,ok 0 2 (by omega) rfl (by omega),_,_,bad 2 false (by omega) (by omega) (.inr (by omega)),_,_,bad 2 true (by omega) (by omega) (.inl rfl),rfl⟩
     ·exact ⟨_,_,ok 0 2 (by omega) rfl (by omega),_,_,ok 2 4 (by omega) rfl (by omega),_,_,bad 4 false (by omega) (by omega) (.inr (by omega)),rfl⟩
   obtain ⟨n,x,e1,n',y,e2,n'',z,e3,e4⟩:=fin
   rw [e1,Option.bind_some]; dsimp only
   rw [e2,Option.bind_some]; dsimp only
   rw [e3,Option.bind_some]; dsimp only
   rw [if_pos e4]
  ·rw [if_neg h,ok 0 2 (by omega) rfl (by omega),Option.bind_some]; dsimp only
   rw [ok 2 4 (by omega) rfl (by omega),Option.bind_some]; dsimp only
   rw [ok 4 6 (by omega) rfl (by omega),Option.bind_some]; dsimp only
   rw [if_neg (by decide),if_pos (by omega),show ((6:Int)).toNat=6 from rfl,c40 (by simp; omega),Option.bind_some,show (15:Int)=((15:Nat):Int) from rfl,fd2 15 (by omega),show (2:Int) ^ 15=32768 from by decide,fk4 d (by omega)]
   exact ay7 _ _
 ·rw [if_neg (by decide),if_neg (by decide),if_neg (by decide),if_pos (by decide),if_neg (by decide),if_neg (by decide),if_neg (by decide)]
  have sh:∀ n:Int,a42 .i64 n 8=n / 256:=fun n=>by
   rw [show (8:Int)=((8:Nat):Int) from rfl,fd2 8 (by omega)]; rfl
  have hb:=a31 d 0
  by_cases h:d.length < 6
  ·rw [if_pos h]
   have fin:∃ n x,a30 (frd d 0 false,())=some ((n,()),(x,()))∧0≤n∧∃ n' y,a30 (x,())=some ((n',()),(y,()))∧∃ n'' p,a30 (y,())=some ((n'',()),(frd d p true,()))∧0≤p∧p≤d.length:=by
    by_cases h2:d.length < 2
    ·exact ⟨_,_,bad 0 false (by omega) (by omega) (.inr (by omega)),by omega,_,_,bad 0 true (by omega) (by omega) (.inl rfl),_,_,bad 0 true (by omega) (by omega) (.inl rfl),by omega,by omega⟩
    ·by_cases h4:d.length < 4
     ·exact ⟨_,_,ok 0 2 (by omega) rfl (by omega),(aF3 _).1,_,_,bad 2 false (by omega) (by omega) (.inr (by omega)),_,_,bad 2 true (by omega) (by omega) (.inl rfl),by omega,by omega⟩
     ·exact ⟨_,_,ok 0 2 (by omega) rfl (by omega),(aF3 _).1,_,_,ok 2 4 (by omega) rfl (by omega),_,_,bad 4 false (by omega) (by omega) (.inr (by omega)),by omega,by omega⟩
   obtain ⟨n,x,e1,e0,n',y,e2,n'',p,e3,e4,e5⟩:=fin
   rw [e1,Option.bind_some]; dsimp only
   rw [e2,Option.bind_some]; dsimp only
   rw [e3,Option.bind_some]; dsimp only
   rw [sh]
   by_cases ha:n / 256≤3
   ·obtain ⟨s,e6⟩:=eh0 (d:=d) (p:=p) (ae:=n / 256) (b:=true) (by omega) e4 e5 ⟨by omega,ha⟩ (.inl rfl)
    rw [ifd ha,e6,Option.bind_some]; rfl
   ·rw [ifn ha,if_pos rfl]
  ·rw [if_neg h,ok 0 2 (by omega) rfl (by omega),Option.bind_some]; dsimp only
   rw [ok 2 4 (by omega) rfl (by omega),Option.bind_some]; dsimp only
   rw [ok 4 6 (by omega) rfl (by omega),Option.bind_some]; dsimp only
   rw [sh,fk3 d (by omega)]
   by_cases ha:3 < bt d 0
   ·rw [if_pos ha,ifn (by omega),if_neg (by decide),ifd ha]
   ·rw [if_neg ha,ifd (by omega)]
    by_cases hl:(d.length:Int) < 6+ae3 (bt d 0)
    ·obtain ⟨s,e6⟩:=eh0 (d:=d) (p:=6) (ae:=bt d 0) (b:=false) (by omega) (by omega) (by omega) ⟨by omega,by omega⟩ (.inr hl)
     rw [if_pos hl,e6,Option.bind_some]; rfl
    ·have hn:0≤ae3 (bt d 0):=by unfold ae3; split <;> (try split) <;> (try split) <;> omega
     rw [if_neg hl,f12 (by omega) (by omega) ⟨by omega,by omega⟩ (by omega),Option.bind_some]; dsimp only
     rw [if_neg (by decide),ifn ha,if_pos (by omega),c40 (by simp; omega),Option.bind_some]
     exact ay7 _ _
theorem ff4 {ae:Int} (h:0≤ae∧ae≤3):au3 (ae,())=some ((ae3 ae,()),()):=by
 rw [ct6]
 have:ae=0∨ae=1∨ae=2∨ae=3:=by omega
 rcases this with rfl | rfl | rfl | rfl <;> rfl
theorem aV4 {d:Bs} {p n q:Nat} (h:q=p+n):(d.take q).drop p=a06 d p n:=by
 subst h; unfold a06
 rw [show ((p:Int)+(n:Int)).toNat=p+n by omega,Int.toNat_natCast]
theorem cU2 {ty at_:Int} {d:Bs} (hd:d.length≤1000) (ht:2≤ty∧ty≤5):aA3 (⟨ty,at_,d⟩,())=some (a35 (bp7 ty d),()):=by
 have cl:∀ p n:Nat,p+n≤d.length→n≤7→a20 (a06 d p n,())=some ((num (a06 d p n),()),()):=fun p n h h7=>by
  have:=a61 (s:=d) (p:=p) (n:=n) (by omega) (by omega) (by omega)
  exact at0 (by omega)
 have n02:2≤d.length→a20 (a06 d 0 2,())=some ((num (a06 d 0 2),()),()):=fun h=>cl 0 2 h (by omega)
 have n22:4≤d.length→a20 (a06 d 2 2,())=some ((num (a06 d 2 2),()),()):=fun h=>cl 2 2 h (by omega)
 have n42:6≤d.length→a20 (a06 d 4 2,())=some ((num (a06 d 4 2),()),()):=fun h=>cl 4 2 h (by omega)
 have c02:d.take 2=a06 d 0 2:=aV4 (p:=0) (n:=2) (q:=2) rfl
 have c24:(d.take 4).drop 2=a06 d 2 2:=aV4 (p:=2) (n:=2) (q:=4) rfl
 have c46:(d.take 6).drop 4=a06 d 4 2:=aV4 (p:=4) (n:=2) (q:=6) rfl
 rw [e79]
 dsimp only
 unfold bp7
 have hb:=a31 d 0
 have hcase:ty=2∨ty=3∨ty=4∨ty=5:=by omega
 rcases hcase with rfl | rfl | rfl | rfl
 ·rw [if_neg (show ¬((2:Int)==3)=true by decide),if_pos (show (2:Int)=2 from rfl)]
  by_cases h:d.length < 6
  ·rw [ifd (by omega),if_pos h]
  ·rw [ifn (by omega),if_neg h,if_pos (by decide),if_pos (by omega),c24,n22 (by omega),Option.bind_some,if_pos (by omega),c46,n42 (by omega),Option.bind_some,if_pos (by omega),aV3 (by simp; omega),Option.bind_some]
   exact ay7 _ _
 ·rw [if_pos (show ((3:Int)==3)=true from rfl),if_neg (show ¬((3:Int)=2) by decide),if_pos (show (3:Int)=3 from rfl)]
  by_cases h:d.length < 2
  ·rw [ifd (by omega),if_pos h]
  ·rw [ifn (by omega),if_neg h,if_neg (by decide),if_pos (by decide),if_pos (by omega),c02,n02 (by omega),Option.bind_some,if_pos (by omega),aV3 (by simp; omega),Option.bind_some]
   exact ay7 _ _
 ·rw [if_neg (show ¬((4:Int)==3)=true by decide),if_neg (show ¬((4:Int)=2) by decide),if_neg (show ¬((4:Int)=3) by decide),if_pos (show (4:Int)=4 from rfl)]
  by_cases h:d.length < 6
  ·rw [ifd (by omega),if_pos h]
  ·have e:(IntKind.wrap .i64 ((IntKind.wrap .i64 (((d[0]'(by omega)).toNat:Nat):Int)).tdiv 128))=bt d 0 / 128:=by
    have h0:(((d[0]'(by omega)).toNat:Nat):Int)=bt d 0:=by simp [bt,List.getElem?_eq_getElem (show 0 < d.length by omega)]
    rw [h0,w64 (x:=bt d 0) (by omega) (by omega),Int.tdiv_eq_ediv_of_nonneg hb.1,w64 (by omega) (by omega)]
   rw [ifn (by omega),if_neg h,if_neg (by decide),if_neg (by decide),if_pos (by decide),a27 (show 0 < d.length by omega),if_pos (by omega),c24,n22 (by omega),Option.bind_some,if_pos (by omega),c46,n42 (by omega),Option.bind_some,if_pos (by omega),aV3 (by simp; omega),Option.bind_some,e]
   exact ay7 _ _
 ·rw [if_neg (show ¬((5:Int)==3)=true by decide),if_neg (show ¬((5:Int)=2) by decide),if_neg (show ¬((5:Int)=3) by decide),if_neg (show ¬((5:Int)=4) by decide)]
  by_cases h:d.length < 6
  ·rw [ifd (by omega),if_pos h]
  ·have e:IntKind.wrap .i64 (((d[0]'(by omega)).toNat:Nat):Int)=bt d 0:=by
    have h0:(((d[0]'(by omega)).toNat:Nat):Int)=bt d 0:=by simp [bt,List.getElem?_eq_getElem (show 0 < d.length by omega)]
    rw [h0,w64 (x:=bt d 0) (by omega) (by omega)]
   rw [ifn (by omega),if_neg h,if_neg (by decide),if_neg (by decide),if_neg (by decide),a27 (show 0 < d.length by omega),if_pos (by omega),c24,n22 (by omega),Option.bind_some,if_pos (by omega),c46,n42 (by omega),Option.bind_some,e]
   by_cases ha:3 < bt d 0
   ·rw [ifd ha,if_pos ha]
   ·have hn:0≤ae3 (bt d 0)∧ae3 (bt d 0)≤16:=by unfold ae3; split <;> (try split) <;> (try split) <;> omega
    rw [ifn ha,if_neg ha,ff4 ⟨hb.1,by omega⟩,Option.bind_some]
    dsimp only
    rw [w64 (x:=6+ae3 (bt d 0)) (by omega) (by omega)]
    by_cases hl:(d.length:Int) < 6+ae3 (bt d 0)
    ·rw [ifd hl,if_pos hl]
    ·have ec:(d.take (6+ae3 (bt d 0)).toNat).drop 6=a06 d 6 (ae3 (bt d 0)):=rfl
     rw [ifn hl,if_neg hl,if_pos (by omega),ec,aV3 (by simp; omega)]
     by_cases h3:bt d 0=3
     ·have h8:ae3 (bt d 0)=8:=by rw [h3]; rfl
      have:aj6 (a06 d 6 8)=(ah6++a06 d 6 8,true):=by unfold aj6; have:=a61 (s:=d) (p:=6) (n:=8) (by omega) (by omega) (by omega); rw [if_pos (by omega)]
      rw [if_pos (show (bt d 0==3)=true by simp [h3]),if_pos h3,h8,dL5,this,Option.bind_some,Option.bind_some,if_pos (by omega)]
      exact ay7 _ _
     ·rw [if_neg (show ¬(bt d 0==3)=true by simp [h3]),if_neg h3,Option.bind_some,if_pos (by omega)]
      exact ay7 _ _
end Go.VP
namespace Go.VP
open Go Go.VI
theorem eh1:∀ {l:List Tlv},dl8 l→bW7 (keep l)
 | [],_=>fun y hy=>by simp [keep] at hy
 | t::l,h=>by
  have ih:=eh1 (l:=l) (fun z hz=>h z (List.mem_cons_of_mem _ hz))
  intro y hy
  simp only [keep] at hy
  split at hy
  ·rcases List.mem_cons.1 hy with rfl | hy
   ·have:=h t (List.mem_cons_self ..); dsimp only; omega
   ·exact ih y hy
  ·exact ih y hy
theorem eE5 (s:Bs):∀ (p:Int) (l:List Tlv),spl p s=.ok l→ab5 (keep l)≤s.length:=by
 match s with
 | []=>intro p l h; rw [bd7] at h; injection h with h; subst h; simp [keep,ab5]
 | t::r=>
  intro p l h
  have go:∀ (q:Int) (x:Tlv) (r':Bs),r'.length < (t::r).length→(x.type_=0∨r'.length+2+x.data.length≤(t::r).length)→(spl q r').map (x::·)=.ok l→ab5 (keep l)≤((t::r).length:Nat):=by
   intro q x r' hr hx h
   cases hm:spl q r' with
   | error e=>rw [hm] at h; cases h
   | ok l'=>
    rw [hm] at h
    injection h with h
    subst h
    have:=eE5 r' q l' hm
    simp only [keep]
    split
    ·simp only [ab5]; omega
    ·omega
  by_cases ht:t=0
  ·subst ht
   rw [bC7] at h
   exact go _ _ _ (by simp) (.inl rfl) h
  ·match r with
   | []=>rw [c37 ht] at h; cases h
   | n::d=>
    by_cases hn:d.length < n.toNat
    ·rw [c38 ht hn] at h; cases h
    ·rw [c39 ht (by omega)] at h
     exact go _ _ _ (by simp; omega) (.inr (by simp; omega)) h
termination_by s.length
theorem cU3 (s:Bs):(∃ l,ak6 s=(l,true,0)∧bW7 l∧ab5 l≤200∧ab5 l≤s.length∧l.length≤s.length)∨(∃ l,ak6 s=(l,false,0))∨(∃ e,ak6 s=([],false,e)∧e≠0):=by
 unfold ak6
 cases h:spl 0 s with
 | error e=>exact .inr (.inr ⟨2,rfl,by decide⟩)
 | ok l=>
  obtain ⟨h1,h2⟩:=cO1 s 0 l h
  have h3:=eE5 s 0 l h
  have h4:=dC0 l
  dsimp only
  unfold cl2
  split
  ·exact .inr (.inr ⟨10,rfl,by decide⟩)
  ·cases hb:cB3 l with
   | true=>exact .inl ⟨_,rfl,eh1 h1,by omega,h3,by omega⟩
   | false=>exact .inr (.inl ⟨_,rfl⟩)
theorem c19 (F:List Sub→Msg) (s:Bs):(∃ l,cU1 F (ak6 s)=(F l,true,0)∧bW7 l∧ab5 l≤200∧ab5 l≤s.length∧l.length≤s.length)∨(∃ e,cU1 F (ak6 s)=(aP5,false,e)):=by
 rcases cU3 s with ⟨l,h,h2⟩ | ⟨l,h⟩ | ⟨e,h,h2⟩
 ·rw [h]; exact .inl ⟨l,rfl,h2⟩
 ·rw [h]; exact .inr ⟨_,rfl⟩
 ·rw [h]; refine .inr ⟨e,?_⟩
  unfold cU1
  rw [if_pos (by simpa using h2)]
theorem aV5 {l:List Sub} (h:bW7 l) (h2:ab5 l≤200):ac8 l=true:=by
 unfold ac8; rw [ev9.2 h,decide_eq_true h2]; rfl
theorem bW7.few {l:List Sub} (h:bW7 l):∀ y∈l,y.data.length≤300:=fun y hy=>by have:=h y hy; omega
theorem aj0 {d:Bs} {p:Int} (h:0≤p) (h2:p+2≤d.length):0≤num (a06 d p 2)∧num (a06 d p 2) < 65536:=by
 have hl:=a61 (s:=d) (p:=p) (n:=2) h (by omega) h2
 have:=aF3 (a06 d p 2)
 rw [show (a06 d p 2).length=2 by omega] at this
 exact this
theorem dZ2 {l:List Sub}:(a73 l).length=ab5 l:=aN9 l
theorem b10:∀ {l:List Sub},(l.length:Int) * 2≤ab5 l
 | []=>by simp [ab5]
 | y::l=>by have:=b10 (l:=l); simp only [ab5,List.length_cons]; omega
theorem ew4 {ty:Int} {d:Bs} (ht:2≤ty∧ty≤5) (hd:d.length≤300) :
  (∃ m,bp7 ty d=(m,true,0)∧ay5 m∧aC2 m∧(a85 m++a73 m.subs).length≤d.length)∨(∃ e,bp7 ty d=(aP5,false,e)):=by
 have hb:=a31 d 0
 unfold bp7
 have good:∀ m:Msg,ec2 m→ay5 m→(0≤m.kind∧m.kind < 100)→(0≤m.flags∧m.flags < 100)→(0≤m.ae∧m.ae < 100)→(0≤m.plen∧m.plen < 100)→(0≤m.hops∧m.hops < 100)→aC2 m:=fun m hf r a b c d e=>⟨hf,a45.2 (by have:=r.nonce; omega),a45.2 (by have:=r.interval; omega),a45.2 (by have:=r.seq; omega),a45.2 (by have:=r.cost; omega),a45.2 (by omega),a45.2 (by omega),a45.2 (by omega),a45.2 (by omega),a45.2 (by omega)⟩
 have w0:(0:Int)≤0∧(0:Int) < 65536:=by decide
 have z0:(0:Int)≤0∧(0:Int) < 100:=by decide
 have z7:(0:Int)≤7∧(7:Int) < 100:=by decide
 have z8:(0:Int)≤8∧(8:Int) < 100:=by decide
 have z9:(0:Int)≤9∧(9:Int) < 100:=by decide
 have z10:(0:Int)≤10∧(10:Int) < 100:=by decide
 have n300:([]:List b22).length≤1000:=by decide
 have c58:∀ {m:Msg} {x:Msg × Bool × Int},x=(m,true,0)→ay5 m→(ay5 m→aC2 m)→(a85 m++a73 m.subs).length≤d.length→∃ m,x=(m,true,0)∧ay5 m∧aC2 m∧(a85 m++a73 m.subs).length≤d.length:=fun h r g l=>⟨_,h,r,g r,l⟩
 have bare:∀ m:Msg,ab0 m=some m→a68 m=true:=fun m h=>by rw [a68,h]; exact af8 m
 split
 ·split
  ·exact .inr ⟨_,rfl⟩
  ·have n2:=aj0 (d:=d) (p:=2) (by omega) (by omega)
   have n4:=aj0 (d:=d) (p:=4) (by omega) (by omega)
   refine (c19 _ _).imp (fun ⟨l,h,h1,h2,h3,h4⟩=>c58 h ⟨n2,n4,w0,w0,bare _ rfl,aV5 h1 h2,rfl⟩ (fun r=>good _ ⟨n300,?_,by simp,by simp,by simp,by simp,by simp,by simp,by simp,by simp,h1.few⟩ r z7 z0 z0 z0 z0) ?_) id
   ·have:=b10 (l:=l); simp at h4; dsimp only; omega
   ·have:=dZ2 (l:=l); simp [a85,a21] at h3 ⊢; omega
 ·split
  ·split
   ·exact .inr ⟨_,rfl⟩
   ·have n0:=aj0 (d:=d) (p:=0) (by omega) (by omega)
    refine (c19 _ _).imp (fun ⟨l,h,h1,h2,h3,h4⟩=>c58 h ⟨n0,w0,w0,w0,bare _ rfl,aV5 h1 h2,rfl⟩ (fun r=>good _ ⟨n300,?_,by simp,by simp,by simp,by simp,by simp,by simp,by simp,by simp,h1.few⟩ r z8 z0 z0 z0 z0) ?_) id
    ·have:=b10 (l:=l); simp at h4; dsimp only; omega
    ·have:=dZ2 (l:=l); simp [a85,a21] at h3 ⊢; omega
  ·split
   ·split
    ·exact .inr ⟨_,rfl⟩
    ·have n2:=aj0 (d:=d) (p:=2) (by omega) (by omega)
     have n4:=aj0 (d:=d) (p:=4) (by omega) (by omega)
     have hf:bt d 0 / 128=0∨bt d 0 / 128=1:=by omega
     refine (c19 _ _).imp (fun ⟨l,h,h1,h2,h3,h4⟩=>c58 h ⟨w0,n4,n2,w0,bare _ rfl,aV5 h1 h2,?_⟩ (fun r=>good _ ⟨n300,?_,by simp,by simp,by simp,by simp,by simp,by simp,by simp,by simp,h1.few⟩ r z9 (show 0≤bt d 0 / 128∧bt d 0 / 128 < 100 by omega) z0 z0 z0) ?_) id
     ·simp only [cU0]; rcases hf with e | e <;> rw [e] <;> rfl
     ·have:=b10 (l:=l); simp at h4; dsimp only; omega
     ·have:=dZ2 (l:=l); simp [a85,a21] at h3 ⊢; omega
   ·split
    ·exact .inr ⟨_,rfl⟩
    ·split
     ·exact .inr ⟨_,rfl⟩
     ·split
      ·exact .inr ⟨_,rfl⟩
      ·rename_i hx hl
       have n2:=aj0 (d:=d) (p:=2) (by omega) (by omega)
       have n4:=aj0 (d:=d) (p:=4) (by omega) (by omega)
       have hae:bt d 0=0∨bt d 0=1∨bt d 0=2∨bt d 0=3:=by omega
       have hA:∀ a,a=(if bt d 0=3 then ah6++a06 d 6 8 else a06 d 6 (ae3 (bt d 0)))→b09 (bt d 0) a=true∧a.length≤16∧(((if bt d 0=3 then a.drop 8 else a).length:Nat):Int)=ae3 (bt d 0):=by
        intro a ha
        have hc:∀ n:Int,0≤n→n=ae3 (bt d 0)→((a06 d 6 n).length:Int)=n:=fun n h0 hn=>a61 (by omega) h0 (by omega)
        rcases hae with e | e | e | e
        ·rw [e] at ha hc ⊢
         have:=hc 0 (by omega) rfl
         have e0:a=[]:=List.length_eq_zero_iff.1 (by rw [ha]; exact (by omega:(a06 d 6 0).length=0))
         rw [e0]; exact ⟨rfl,by simp,rfl⟩
        ·rw [e] at ha hc ⊢
         have:=hc 4 (by omega) rfl
         have e0:(a.length:Int)=4:=by rw [ha]; exact this
         exact ⟨by simp [b09]; omega,by omega,e0⟩
        ·rw [e] at ha hc ⊢
         have:=hc 16 (by omega) rfl
         have e0:(a.length:Int)=16:=by rw [ha]; exact this
         exact ⟨by simp [b09]; omega,by omega,e0⟩
        ·rw [e] at ha hc ⊢
         have:=hc 8 (by omega) rfl
         rw [if_pos rfl] at ha
         have e1:a79 a=true:=by rw [ha]; exact eg5 (by omega)
         have e0:=(ay4 e1).1
         rw [if_pos rfl]
         exact ⟨by simp [b09,e1],by omega,by simp [e0,ae3]⟩
       obtain ⟨A1,A2,A3⟩:=hA _ rfl
       refine (c19 _ _).imp (fun ⟨l,h,h1,h2,h3,h4⟩=>c58 h ⟨w0,n4,w0,n2,bare _ rfl,aV5 h1 h2,A1⟩ (fun r=>good _ ⟨n300,?_,by simp,by simp,by simp,by simp,?_,by simp,by simp,by simp,h1.few⟩ r z10 z0 (show 0≤bt d 0∧bt d 0 < 100 by omega) z0 z0) ?_) id
       ·have:=b10 (l:=l); simp at h4; dsimp only; omega
       ·dsimp only; omega
       ·have:=dZ2 (l:=l)
        have hn:0≤ae3 (bt d 0):=by unfold ae3; split <;> (try split) <;> (try split) <;> omega
        generalize hq:(if bt d 0=3 then ah6++a06 d 6 8 else a06 d 6 (ae3 (bt d 0)))=a at A3 ⊢
        simp only [List.length_drop] at h3
        simp only [a85,List.length_append,a21]
        rw [if_neg (by decide),if_neg (by decide),if_neg (by decide)]
        simp only [List.length_append,a21]
        omega
theorem ay5.small {m:Msg} (r:ay5 m):(a85 m).length≤22:=by
 unfold a85; split
 ·simp [a21]
 ·split
  ·simp [a21]
  ·split
   ·simp [a21]
   ·rcases r.kinds with hk | hk | ⟨hk,_⟩ | ⟨hk,ha⟩ <;> first | omega | skip
    rcases cB4 ha with ⟨h,h2⟩ | ⟨h,h2⟩ | ⟨h,h2⟩ | ⟨h,h2⟩
    ·simp [a21,h,h2]
    ·simp [a21,h,h2]
    ·simp [a21,h,h2]
    ·have:=(ay4 h2).1
     simp [a21,h,this]
theorem eB0 {m:Msg} (r:ay5 m):aq4 m=(a01 (m.kind - 5)::a01 (a85 m++a73 m.subs).length::(a85 m++a73 m.subs),true)∧(a85 m++a73 m.subs).length≤255∧2≤m.kind - 5∧m.kind - 5≤5:=by
 have h1:=r.small
 have h2:=ay6 r.subs
 have hk:2≤m.kind - 5∧m.kind - 5≤5:=by rcases r.kinds with h | h | ⟨h,_⟩ | ⟨h,_⟩ <;> omega
 have hl:(a85 m++a73 m.subs).length≤255:=by simp; omega
 refine ⟨?_,hl,hk⟩
 unfold aq4
 rw [if_pos (aj7.2 r),aw0,if_pos ⟨by omega,by omega,hl⟩]
end Go.VP
