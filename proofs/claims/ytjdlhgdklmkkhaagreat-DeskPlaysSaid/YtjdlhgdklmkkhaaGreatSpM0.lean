import Derived.Test.YtjdlhgdklmkkhaaGreatSpFH
import Derived.Test.YtjdlhgdklmkkhaaGreatSpFQ11
import Derived.Test.YtjdlhgdklmkkhaaGreatSpFQ12
import Derived.Test.YtjdlhgdklmkkhaaGreatSpFQ0
import Derived.Test.YtjdlhgdklmkkhaaGreatSpFQ1
import Derived.Test.YtjdlhgdklmkkhaaGreatSpFQ4
import Derived.Test.YtjdlhgdklmkkhaaGreatSpFQ9
import Derived.Test.YtjdlhgdklmkkhaaGreatSpFQ15
import Derived.Test.YtjdlhgdklmkkhaaGreatSpFQ10
import Derived.Test.YtjdlhgdklmkkhaaGreatSpFQ13
import Derived.Test.YtjdlhgdklmkkhaaGreatSpFQ5
import Derived.Test.YtjdlhgdklmkkhaaGreatSpFQ8
import Derived.Test.YtjdlhgdklmkkhaaGreatSpFQ14
import Derived.Test.YtjdlhgdklmkkhaaGreatSpFGood
import Derived.Test.YtjdlhgdklmkkhaaGreatSpFQ7
set_option linter.unusedVariables false
set_option linter.unusedSimpArgs false
set_option maxRecDepth 100000
noncomputable section
namespace Go.VP
open Go Go.VI
abbrev Bs:=at1
theorem bL {x:Int} (h : -9223372036854775808<=x) (h':x<=9223372036854775807):IntKind.wrap .i64 x=x:=by
 simp only [IntKind.wrap,IntKind.bits,IntKind.signed];simp;omega
theorem uU {x:Int} (h:0<=x) (h':x<=18446744073709551615):IntKind.wrap .u64 x=x:=by
 simp only [IntKind.wrap,IntKind.bits,IntKind.signed];simp;omega
theorem f8 {x:Int}:IntKind.wrap .u8 x=x % 256:=by
 simp only [IntKind.wrap,IntKind.bits,IntKind.signed];simp
theorem eO (b:UInt8):IntKind.wrap .i64 (b.toNat:Int)=b.toNat:=by
 have:=b.toNat_lt; exact bL (by omega) (by omega)
theorem cx {x:Int}:IntKind.has .i64 x↔-9223372036854775808<=x/\x<=9223372036854775807:=by
 simp only [IntKind.has,IntKind.min,IntKind.max,IntKind.bits,IntKind.signed];simp
theorem bW {n:Nat} (h:n<=9223372036854775807):bM n=true:=Nat.ble_eq_true_of_le h
theorem d7 {n:Nat} (h:n<=35184372088832):cE n=true:=Nat.ble_eq_true_of_le h
theorem xq:∃ n,fuel=n+1000000000000:=⟨1124899906842624,rfl⟩
theorem cn {n:Nat} (h:n<=1125899906842623):n < fuel:=Nat.lt_succ_of_le h
theorem Dd {x y:Int} (hx:0<=x/\x < 36028797018963968) (hy:0<=y/\y < 256):cB .or .i64 (cY .i64 x 8) y=x * 256+y:=by
 obtain ⟨a,rfl⟩:∃ a:Nat,x=a:=⟨x.toNat,by omega⟩;obtain ⟨b,rfl⟩:∃ b:Nat,y=b:=⟨y.toNat,by omega⟩;have e:cY .i64 (a:Int) 8=((a * 256:Nat):Int):=by
  unfold cY;rw [Int.mul_comm];have:(2:Int) ^ (min (8:Int).toNat IntKind.i64.bits)=256:=by decide
  rw [this,bL (by omega) (by omega)];omega
 rw [e];unfold cB;show IntKind.wrap .i64 (((BitVec.ofInt 64 ((a * 256:Nat):Int) ||| BitVec.ofInt 64 (b:Int)).toNat:Nat):Int)=_;rw [BitVec.toNat_or,BitVec.ofInt_natCast,BitVec.ofInt_natCast,BitVec.toNat_ofNat,BitVec.toNat_ofNat,Nat.mod_eq_of_lt (by omega),Nat.mod_eq_of_lt (by omega)];have:a * 256 ||| b=a * 256+b:=by
  have:=Nat.two_pow_add_eq_or_of_lt (i:=8) (b:=b) (by omega) a;rw [Nat.mul_comm a 256];exact this.symm
 rw [this,bL (by omega) (by omega)];omega
theorem W0 {a b:Nat} (ha:a < 256) (hb:b < 256):cB .xor .u8 (a:Int) (b:Int)=((a ^^^ b:Nat):Int):=by
 unfold cB;show IntKind.wrap .u8 (((BitVec.ofInt 8 (a:Int) ^^^ BitVec.ofInt 8 (b:Int)).toNat:Nat):Int)=_;have h:a ^^^ b < 256:=Nat.xor_lt_two_pow (n:=8) ha hb;rw [BitVec.toNat_xor,BitVec.ofInt_natCast,BitVec.ofInt_natCast,BitVec.toNat_ofNat,BitVec.toNat_ofNat,Nat.mod_eq_of_lt ha,Nat.mod_eq_of_lt hb,f8];omega
theorem LV {a b:Nat} (ha:a < 256) (hb:b < 256):cB .and .u8 (a:Int) (b:Int)=((a &&& b:Nat):Int):=by
 unfold cB;show IntKind.wrap .u8 (((BitVec.ofInt 8 (a:Int) &&& BitVec.ofInt 8 (b:Int)).toNat:Nat):Int)=_;have h:a &&& b<=a:=Nat.and_le_left;rw [BitVec.toNat_and,BitVec.ofInt_natCast,BitVec.ofInt_natCast,BitVec.toNat_ofNat,BitVec.toNat_ofNat,Nat.mod_eq_of_lt ha,Nat.mod_eq_of_lt hb,f8];omega
theorem fD (n:Int):((bF n).toNat:Int)=if 0<=n then n % 256 else 0:=by
 unfold bF;have:(n.toNat.toUInt8).toNat=n.toNat % 256:=by simp
 rw [this];split <;> omega
theorem mA (b:UInt8):bF (b.toNat:Int)=b:=by
 unfold bF; simp
theorem lm {n:Int} (h:0<=n):bF (n % 256)=bF n:=by
 apply UInt8.toNat.inj;have h1:=fD (n % 256); have h2:=fD n;rw [ab (by omega)] at h1; rw [ab h] at h2; omega
theorem kq {a b:UInt8} (h:(a.toNat:Int)=b.toNat):a=b:=UInt8.toNat.inj (by omega)
def b5 (l:Bs):Int:=l.foldl (fun n b=>n * 256+(b.toNat:Int)) 0
theorem KJ:∀ (l:Bs) (x:Int),0<=x->0<=l.foldl (fun n b=>n * 256+(b.toNat:Int)) x/\l.foldl (fun n b=>n * 256+(b.toNat:Int)) x < (x+1) * 256 ^ l.length
 | [],x,h=>by simp; omega
 | b::l,x,h=>by
  have hb:=b.toNat_lt;obtain ⟨h1,h2⟩:=KJ l (x * 256+(b.toNat:Int)) (by omega);refine ⟨h1,Int.lt_of_lt_of_le h2 ?_⟩;rw [List.length_cons,Int.pow_succ,Int.mul_comm (256 ^ l.length) 256,<- Int.mul_assoc];exact Int.mul_le_mul_of_nonneg_right (by omega) (Int.pow_nonneg (by decide))
theorem kC (l:Bs):0<=b5 l/\b5 l < 256 ^ l.length:=by
 have:=KJ l 0 (by omega);rw [Int.zero_add,Int.one_mul] at this;exact this
theorem qY (a:Bs) (b:UInt8):b5 (a++[b])=b5 a * 256+b.toNat:=by simp [b5]
def be:Nat->Int->Bs
 | 0,_=>[]
 | k+1,n=>be k (n / 256)++[bF (n % 256)]
theorem cm:∀ (k:Nat) (n:Int),(be k n).length=k
 | 0,_=>rfl
 | k+1,n=>by simp [be,cm k]
theorem oM:∀ (k:Nat) (n:Int),0<=n->n < 256 ^ k->b5 (be k n)=n
 | 0,n,h,h2=>by simp at h2; simp [be,b5]; omega
 | k+1,n,h,h2=>by
  rw [be,qY,oM k (n / 256) (by omega) (by rw [Int.pow_succ] at h2; omega),fD];omega
theorem Ay:∀ (k:Nat) (l:Bs),l.length=k->be k (b5 l)=l
 | 0,l,h=>by cases l with | nil=>rfl | cons=>simp at h
 | k+1,l,h=>by
  obtain ⟨a,b,rfl⟩:∃ a b,l=a++[b]:=⟨l.dropLast,l.getLast (by intro h2; subst h2; simp at h),(List.dropLast_concat_getLast _).symm⟩;have ha:a.length=k:=by simpa using h
  have hb:=b.toNat_lt;have h1:(b5 (a++[b])) / 256=b5 a:=by rw [qY]; omega
  have h2:(b5 (a++[b])) % 256=b.toNat:=by rw [qY]; omega
  rw [be,h1,h2,Ay k a ha,mA]
def bH (s:Bs) (p n:Int):Bs:=(s.take (p+n).toNat).drop p.toNat
theorem ew {s:Bs} {p n:Int} (h:0<=p) (h1:0<=n) (h2:p+n<=s.length):((bH s p n).length:Int)=n:=by
 simp [bH]; omega
def bt (s:Bs) (i:Nat):Int:=((s[i]?.getD 0).toNat:Int)
theorem cw (s:Bs) (i:Nat):0<=bt s i/\bt s i < 256:=by unfold bt; have:=(s[i]?.getD 0).toNat_lt; omega
theorem cN {s:Bs} {i:Nat} (h:i < s.length):s[i]?=some (s[i]?.getD 0):=by simp [h]
theorem ck {α β:Type} {l:List α} {i:Nat} (h:i < l.length) (f:α->Option β):(l[i]?.bind f)=f (l[i]'h):=by simp [h]
end Go.VP
namespace Go.VP
open Go Go.VI
abbrev cu (s:Bs) (p q:Int) (b:Bool):du:=⟨s,p,q,b⟩
structure dQ (s:Bs) (p q:Int):Prop where
 lo:0<=p
 hi:p<=q
 top:q<=s.length
 sz:s.length<=1000000000000000
theorem mf (s:Bs):jC (s,())=some ((cu s 0 s.length false,()),()):=Yu s
theorem RE {s:Bs} {p q n:Int} (w:dQ s p q) (h:0<=n) (h2:p+n<=q):qT (cu s p q false,n,())=some ((cu s (p+n) q false,true,()),()):=by
 have:=w.lo; have:=w.hi; have:=w.top; have:=w.sz;rw [S9]; dsimp only;rw [ac (by decide),ac (by simpa using h),bL (by omega) (by omega),ac (by simp; omega),bL (by omega) (by omega)]
theorem WX {s:Bs} {p q n:Int} {b:Bool} (w:dQ s p q) (h:b=true\/n < 0\/q - p < n):qT (cu s p q b,n,())=some ((cu s p q true,false,()),()):=by
 have:=w.lo; have:=w.hi; have:=w.top; have:=w.sz;rw [S9]; dsimp only;rw [bL (x:=q - p) (by omega) (by omega)];simp only [decide_eq_true_eq];split
 ·rfl
 ·split
  ·rfl
  ·rw [ab]
   simp_all
theorem Rs {n:Nat} {r:(du × Bool × Unit) × Unit} {l:Bs} (hl:l.length<=7):∀ (d i m:Nat) (x:Int),i+d=l.length->d < m->x=b5 (l.take i)->vI n m r x l l.length i=some ((b5 l,r.1.1,()),())
 | 0,i,m,x,h,hm,hx=>by
  obtain ⟨m,rfl⟩:∃ k,m=k+1:=⟨m - 1,by omega⟩;rw [KI,ac (by simp; omega),hx,List.take_of_length_le (by omega)]
 | d+1,i,m,x,h,hm,hx=>by
  obtain ⟨m,rfl⟩:∃ k,m=k+1:=⟨m - 1,by omega⟩;have hi:i < l.length:=by omega
  have hp:=kC (l.take i);have hp2:(256:Int) ^ (l.take i).length<=256 ^ 6:=by
   have:(l.take i).length<=6:=by simp; omega
   generalize (l.take i).length=z at this
   match z,this with
   | 0,_ | 1,_ | 2,_ | 3,_ | 4,_ | 5,_ | 6,_=>decide
  have hp3:(256:Int) ^ 6=281474976710656:=by decide
  have hb:=(l[i]).toNat_lt;rw [KI,ab (by simp; omega),ab (by omega),Int.toNat_natCast,ck hi,eO,hx,Dd (by omega) (by omega),bL (by omega) (by omega)];have:=Rs (r:=r) (n:=n) hl d (i+1) m (b5 (l.take i) * 256+(l[i].toNat:Int)) (by omega) (by omega) (by rw [List.take_succ_eq_append_getElem hi,qY]);rw [show ((i+1:Nat):Int)=(i:Int)+1 by omega] at this;exact this
theorem gG {s:Bs} {p q n:Int} (w:dQ s p q) (h:1<=n) (h7:n<=7) (h2:p+n<=q):gz (cu s p q false,n,())=some ((b5 (bH s p n),cu s (p+n) q false,()),()):=by
 have:=w.lo; have:=w.hi; have:=w.top; have:=w.sz;have hl:=ew (s:=s) (p:=p) (n:=n) (by omega) (by omega) (by omega);show zN fuel _=_;rw [Q0,ac (by simp; omega),ac (by simp; omega),RE w (by omega) h2];rw [aa]; dsimp only;rw [ac (by decide),ab (by omega)];have:=Rs (n:=fuel) (r:=((cu s (p+n) q false,true,()),())) (l:=bH s p n) (by omega) (bH s p n).length 0 fuel 0 (by omega) (cn (by omega)) rfl;exact this
theorem ry {s:Bs} {p q n:Int} {b:Bool} (w:dQ s p q) (h:1<=n) (h7:n<=7) (h2:b=true\/q < p+n):gz (cu s p q b,n,())=some ((0,cu s p q true,()),()):=by
 show zN fuel _=_;rw [Q0,ac (by simp; omega),ac (by simp; omega),WX w (h2.imp id fun h=>.inr (by omega))]
 rfl
theorem iV {s:Bs} {p q n:Int} (w:dQ s p q) (h:0<=n) (h2:p+n<=q):fF (cu s p q false,n,())=some ((bH s p n,cu s (p+n) q false,()),()):=by
 have:=w.lo; have:=w.hi; have:=w.top; have:=w.sz;rw [Lo,RE w (by omega) h2];rw [aa]; dsimp only;rw [ac (by decide),ab (by omega)]
 rfl
theorem oG {s:Bs} {p q n:Int} {b:Bool} (w:dQ s p q) (h:b=true\/n < 0\/q < p+n):fF (cu s p q b,n,())=some (([],cu s p q true,()),()):=by
 rw [Lo,WX w (h.imp id fun h=>h.imp id fun h=>by omega)]
 rfl
theorem wt {s:Bs} {p q:Int} (w:dQ s p q):oA (cu s p q false,())=some ((q - p,()),()):=by
 have:=w.lo; have:=w.hi; have:=w.top; have:=w.sz;rw [e27]; dsimp only;rw [bL (by omega) (by omega)]
 rfl
theorem dQ.fwd {s:Bs} {p q n:Int} (w:dQ s p q) (h:0<=n) (h2:p+n<=q):dQ s (p+n) q:=⟨by have:=w.lo; omega,h2,w.top,w.sz⟩
theorem dQ.whole {s:Bs} (h:s.length<=1000000000000000):dQ s 0 s.length:=⟨by omega,by omega,by omega,h⟩
theorem lJ {s:Bs} {p:Nat} (h:p+1<=s.length):b5 (bH s p 1)=bt s p:=by
 have e:bH s p 1=[s[p]]:=by
  unfold bH;rw [show ((p:Int)+1).toNat=p+1 by omega,Int.toNat_natCast,List.take_succ_eq_append_getElem (by omega),List.drop_append_of_le_length (by simp; omega)];simp [List.drop_take]
 rw [e]; simp [b5,bt,List.getElem?_eq_getElem (show p < s.length by omega)]
theorem fI2 {s:Bs} {p n:Nat} (h:p+n+1<=s.length):bH s p (n+1:Nat)=bH s p n++[s[p+n]'(by omega)]:=by
 unfold bH;rw [show ((p:Int)+((n+1:Nat):Int)).toNat=p+n+1 by omega,show ((p:Int)+(n:Int)).toNat=p+n by omega,Int.toNat_natCast,List.take_succ_eq_append_getElem (by omega),List.drop_append_of_le_length (by simp; omega)]
theorem f04 {s:Bs} {p n:Nat} (h:p+n+1<=s.length):b5 (bH s p (n+1:Nat))=b5 (bH s p n) * 256+bt s (p+n):=by
 rw [fI2 h,qY];simp [bt,List.getElem?_eq_getElem (show p+n < s.length by omega)]
theorem Cq {s:Bs} {p:Nat} (h:p+2<=s.length):b5 (bH s p 2)=bt s p * 256+bt s (p+1):=by
 have:=f04 (s:=s) (p:=p) (n:=1) (by omega);rw [show ((1:Nat):Int)=1 from rfl,lJ (by omega)] at this;exact this
end Go.VP
namespace Go.VP
open Go Go.VI
theorem bP {α:Sort _} {p:Prop} [d:Decidable p] {a b:α} (h:p):(if decide p=true then a else b)=a:=ab (decide_eq_true h)
theorem bN {α:Sort _} {p:Prop} [d:Decidable p] {a b:α} (h:¬p):(if decide p=true then a else b)=b:=ac (by simpa using h)
theorem cQ {α:Sort _} {a b:α}:(if true then a else b)=a:=rfl
theorem cV {α:Sort _} {a b:α}:(if false then a else b)=b:=rfl
theorem b7 {α:Sort _} {a b:α}:(if !true then a else b)=b:=rfl
theorem cK {α:Sort _} {a b:α}:(if !false then a else b)=a:=rfl
def b6 (n:Int) (k:Nat):Bool:=decide (0<=n/\n < 256 ^ k)
theorem g52 (k:Nat):(2:Int) ^ (8 * k)=256 ^ k:=by rw [Int.pow_mul]; rfl
theorem ip {n:Int} {k:Nat} (hn:IntKind.has .i64 n) (h1:1<=k) (h7:k<=7):dp (n,(k:Int),())=some ((b6 n k,()),()):=by
 rw [cx] at hn;rw [ek2,bP (by omega),bP (by omega)];by_cases h0:0<=n
 ·rw [bP h0,bL (x:=8 * (k:Int)) (by omega) (by omega),uU (by omega) (by omega),ab (by omega)];have e:cb .i64 n (8 * (k:Int))=n / 256 ^ k:=by
   unfold cb;rw [show min (8 * (k:Int)).toNat IntKind.i64.bits=8 * k by simp only [IntKind.bits]; omega,g52];exact Int.fdiv_eq_ediv_of_nonneg _ (Int.pow_nonneg (by decide))
  have hp:(0:Int) < 256 ^ k:=Int.pow_pos (by decide);rw [e];unfold b6;by_cases hlt:n < 256 ^ k
  ·rw [Int.ediv_eq_zero_of_lt h0 hlt]; simp [h0,hlt]
  ·have:1<=n / 256 ^ k:=Int.le_ediv_of_mul_le hp (by omega);have h2:(n / 256 ^ k==0)=false:=by simp; omega
   rw [h2]; simp [hlt]
 ·rw [bN h0]; simp [b6,h0]
theorem fn7 {n x i:Int} {k c:Nat} (hk:k<=7):∀ (d:Nat) (m i:Nat),i+d=k->d < m->x=256 ^ i->xj c m n k x i=some ((decide (n < 256 ^ k),()),()):=by
 intro d
 induction d generalizing x with
 | zero=>
  intro m i h hm hx;obtain ⟨m,rfl⟩:∃ k,m=k+1:=⟨m - 1,by omega⟩;rw [M6,bN (by omega),hx,show i=k by omega]
 | succ d ih=>
  intro m i h hm hx;obtain ⟨m,rfl⟩:∃ k,m=k+1:=⟨m - 1,by omega⟩;have hp:(256:Int) ^ i<=281474976710656/\0<=(256:Int) ^ i:=by
   have:i<=6:=by omega
   match i,this with
   | 0,_ | 1,_ | 2,_ | 3,_ | 4,_ | 5,_ | 6,_=>decide
  rw [M6,bP (by omega),bL (x:=x * 256) (by omega) (by omega),bL (by omega) (by omega)];have:=ih (x:=x * 256) m (i+1) (by omega) (by omega) (by rw [hx,Int.pow_succ]);rw [show ((i+1:Nat):Int)=(i:Int)+1 by omega] at this;exact this
theorem rC {n:Int} {k:Nat} (h1:1<=k) (h7:k<=7):gI (n,(k:Int),())=some ((b6 n k,()),()):=by
 show In fuel _=_;rw [ZK,bN (by omega),bN (by omega)];unfold b6;by_cases h0:n < 0
 ·rw [bP h0]; simp; omega
 ·have:=fn7 (n:=n) (x:=1) (i:=0) (c:=fuel) h7 k fuel 0 (by omega) (cn (by omega)) (by simp);rw [bN h0];simp only [Int.natCast_zero] at this;rw [this];simp; omega
def eJ (n:Int) (k:Nat):Bs × Bool:=if b6 n k=true then (be k n,true) else ([],false)
theorem fw8 {c k:Nat} (hk:k<=7):∀ (d:Nat) (m i:Nat) (x:Int) (acc:Bs),i+d=k->d < m->0<=x->x<=9223372036854775807->acc.length=i->zK c m k x acc i=some ((be d x++acc,true,()),()):=by
 intro d
 induction d with
 | zero=>
  intro m i x acc h hm h0 h1 ha;obtain ⟨m,rfl⟩:∃ k,m=k+1:=⟨m - 1,by omega⟩;rw [TX,bN (by omega)]
  rfl
 | succ d ih=>
  intro m i x acc h hm h0 h1 ha;obtain ⟨m,rfl⟩:∃ k,m=k+1:=⟨m - 1,by omega⟩;have e1:Int.tmod x 256=x % 256:=Int.tmod_eq_emod_of_nonneg h0;have e2:Int.tdiv x 256=x / 256:=Int.tdiv_eq_ediv_of_nonneg h0;rw [TX,bP (by omega),ab (bW (by simp; omega)),e1,e2,bL (by omega) (by omega),bL (by omega) (by omega),f8,Int.emod_emod_of_dvd _ (by decide:(256:Int) ∣ 256)];have:=ih m (i+1) (x / 256) ([bF (x % 256)]++acc) (by omega) (by omega) (by omega) (by omega) (by simp; omega);rw [show ((i+1:Nat):Int)=(i:Int)+1 by omega] at this;rw [this,be];simp
theorem sU {n:Int} {k:Nat} (hn:IntKind.has .i64 n) (h1:1<=k) (h7:k<=7):kV (n,(k:Int),())=some (((eJ n k).1,(eJ n k).2,()),()):=by
 rw [cx] at hn;show Dk fuel _=_;rw [ew5,rC h1 h7,aa];dsimp only;unfold eJ;by_cases h:b6 n k=true
 ·have h2:0<=n/\n < 256 ^ k:=by simpa [b6] using h
  have:=fw8 (c:=fuel) h7 k fuel 0 n [] (by omega) (cn (by omega)) h2.1 hn.2 rfl;rw [show ((0:Nat):Int)=0 from rfl] at this;rw [h,b7,this,cQ];simp
 ·rw [Bool.not_eq_true] at h;rw [h,cK,cV]
theorem nX {n:Int} {k:Nat} (hn:IntKind.has .i64 n) (h1:1<=k) (h7:k<=7):dK (n,(k:Int),())=some (((eJ n k).1,()),()):=by
 rw [YR,sU hn h1 h7]; rfl
theorem L2 {n:Nat} {l:Bs} (hl:l.length<=7):∀ (d i m:Nat) (x:Int),i+d=l.length->d < m->x=b5 (l.take i)->xE n m l x i=some ((b5 l,()),())
 | 0,i,m,x,h,hm,hx=>by
  obtain ⟨m,rfl⟩:∃ k,m=k+1:=⟨m - 1,by omega⟩;rw [Qd,bN (by omega),hx,List.take_of_length_le (by omega)]
 | d+1,i,m,x,h,hm,hx=>by
  obtain ⟨m,rfl⟩:∃ k,m=k+1:=⟨m - 1,by omega⟩;have hi:i < l.length:=by omega
  have hp:=kC (l.take i);have hp2:(256:Int) ^ (l.take i).length<=256 ^ 6:=by
   have:(l.take i).length<=6:=by simp; omega
   generalize (l.take i).length=z at this
   match z,this with
   | 0,_ | 1,_ | 2,_ | 3,_ | 4,_ | 5,_ | 6,_=>decide
  have hp3:(256:Int) ^ 6=281474976710656:=by decide
  have hb:=(l[i]).toNat_lt;rw [Qd,bP (by omega),bP (by omega),ab (by omega),Int.toNat_natCast,ck hi,eO,hx,bL (x:=b5 (l.take i) * 256) (by omega) (by omega),bL (by omega) (by omega),bL (by omega) (by omega)];have:=L2 (n:=n) hl d (i+1) m (b5 (l.take i) * 256+(l[i].toNat:Int)) (by omega) (by omega) (by rw [List.take_succ_eq_append_getElem hi,qY]);rw [show ((i+1:Nat):Int)=(i:Int)+1 by omega] at this;exact this
theorem lj {l:Bs} (hl:l.length<=7):dh (l,())=some ((b5 l,()),()):=by
 show G7 fuel _=_;rw [Zz];exact L2 (n:=fuel) hl l.length 0 fuel 0 (by omega) (cn (by omega)) rfl
end Go.VP
namespace Go.VP
open Go Go.VI
def Au:List at1:=[[],[114,105,112],[110,103],[114,114,101,113],[114,114,101,112],[114,101,114,114],[114,114,101,112,97,99,107],[97,99,107,114,101,113],[97,99,107],[104,101,108,108,111],[105,104,117],[117,112,100,97,116,101],[114,111,117,116,101,114,101,113],[115,101,113,110,111,114,101,113],[111,112,97,113,117,101]]
def wordM (k:Int):at1:=if 1<=k/\k<=14 then Au.getD k.toNat [] else []
def uJ (s:at1):Nat->Nat->Int
 | 0,_=>0
 | r+1,k=>if wordM (k:Int)=s then (k:Int) else uJ s r (k+1)
def kindW (s:at1):Int:=uJ s 14 1
theorem kword_is (k:Int):B9 (k,())=some ((wordM k,()),()):=by
 rw [ez1];unfold wordM;by_cases h0:k < 1
 ·rw [bP h0,ac (by omega)]
 ·rw [bN h0];by_cases h1:14 < k
  ·rw [bP h1,ac (by omega)]
  ·rw [bN h1,el1,aa,ab (show 0<=k/\k < 15 by omega),ab (show 1<=k/\k<=14 by omega)];have:k=1\/k=2\/k=3\/k=4\/k=5\/k=6\/k=7\/k=8\/k=9\/k=10\/k=11\/k=12\/k=13\/k=14:=by omega
   rcases this with rfl | rfl | rfl | rfl | rfl | rfl | rfl | rfl | rfl | rfl | rfl | rfl | rfl | rfl <;> rfl
theorem C6 (s:at1):∀ (r k:Nat),k+r=15->0 < k->(∃ j:Nat,k<=j/\j<=14/\wordM (j:Int)=s/\uJ s r k=(j:Int))\/((∀ j:Nat,k<=j->j<=14->wordM (j:Int)≠s)/\uJ s r k=0)
 | 0,k,h,_=>.inr ⟨fun j h1 h2=>by omega,rfl⟩
 | r+1,k,h,h0=>by
  unfold uJ;by_cases hw:wordM (k:Int)=s
  ·rw [ab hw]; exact .inl ⟨k,Nat.le_refl _,by omega,hw,rfl⟩
  ·rw [ac hw];rcases C6 s r (k+1) (by omega) (by omega) with ⟨j,h1,h2,h3,h4⟩ | ⟨h1,h2⟩
   ·exact .inl ⟨j,by omega,h2,h3,h4⟩
   ·refine .inr ⟨fun j h3 h4=>?_,h2⟩;by_cases hj:j=k
    ·subst hj; exact hw
    ·exact h1 j (by omega) h4
theorem YA:∀ i:Fin 15,∀ j:Fin 15,Au.getD i.1 []=Au.getD j.1 []->i=j:=by decide
theorem fe8 {i j:Nat} (hi:1<=i/\i<=14) (hj:1<=j/\j<=14) (h:wordM (i:Int)=wordM (j:Int)):i=j:=by
 unfold wordM at h;rw [ab (by omega),ab (by omega)] at h;have:=YA ⟨i,by omega⟩ ⟨j,by omega⟩ h;exact congrArg Fin.val this
theorem fn8:∀ i:Fin 15,(Au.getD i.1 []).length<=9:=by decide
theorem wordM_len (k:Int):(wordM k).length<=9:=by
 unfold wordM;split
 ·have:=fn8 ⟨k.toNat,by omega⟩; exact this
 ·simp
def kindT (s:at1):Nat->Int
 | 0=>0
 | n+1=>if wordM ((n+1:Nat):Int)=s then ((n+1:Nat):Int) else kindT s n
theorem KT (s:at1):∀ n:Nat,n<=14->(∃ j:Nat,1<=j/\j<=n/\wordM (j:Int)=s/\kindT s n=(j:Int))\/((∀ j:Nat,1<=j->j<=n->wordM (j:Int)≠s)/\kindT s n=0)
 | 0,_=>.inr ⟨fun j h1 h2=>by omega,rfl⟩
 | n+1,h=>by
  unfold kindT;by_cases hw:wordM ((n+1:Nat):Int)=s
  ·rw [ab hw]; exact .inl ⟨n+1,by omega,Nat.le_refl _,hw,rfl⟩
  ·rw [ac hw];rcases KT s n (by omega) with ⟨j,h1,h2,h3,h4⟩ | ⟨h1,h2⟩
   ·exact .inl ⟨j,h1,by omega,h3,h4⟩
   ·refine .inr ⟨fun j h3 h4=>?_,h2⟩;by_cases hj:j=n+1
    ·subst hj; exact hw
    ·exact h1 j h3 (by omega)
theorem kindT_W (s:at1):kindT s 14=kindW s:=by
 unfold kindW;rcases KT s 14 (Nat.le_refl _) with ⟨j,h1,h2,h3,h4⟩ | ⟨h1,h2⟩
 ·rcases C6 s 14 1 rfl (by omega) with ⟨i,k1,k2,k3,k4⟩ | ⟨k1,k2⟩
  ·rw [h4,k4,fe8 ⟨h1,h2⟩ ⟨k1,k2⟩ (h3.trans k3.symm)]
  ·exact absurd h3 (k1 j h1 h2)
 ·rcases C6 s 14 1 rfl (by omega) with ⟨i,k1,k2,k3,k4⟩ | ⟨k1,k2⟩
  ·exact absurd k3 (h1 i k1 k2)
  ·rw [h2,k2]
end Go.VP
namespace Go.VP
open Go Go.VI
abbrev dc:=cy
abbrev cj:=b8
theorem WL:qw<=100:=Nat.le_of_ble_eq_true (by kernel_rfl)
theorem vF:oi<=100:=Nat.le_of_ble_eq_true (by kernel_rfl)
theorem ml {a b:Nat} (h:a<=300000000000) (hb:b<=100):cE (a * b)=true:=by
 refine d7 ?_;have:a * b<=300000000000 * 100:=Nat.mul_le_mul h hb;omega
def eF (t:Int) (d:Bs):Bs × Bool:=if 1<=t/\t<=255/\d.length<=255 then (bF t::bF d.length::d,true) else ([],false)
theorem TE (n:Int) (h:0<=n):bF (n % 256)=bF n:=by
 apply kq; rw [fD,fD,ab (by omega),ab h]; omega
theorem lP (t:Int) (d:Bs):gv (t,d,())=some (((eF t d).1,(eF t d).2,()),()):=by
 rw [Rl];unfold eF;by_cases h1:t < 1
 ·rw [ab (by simpa using h1),ac (by omega)]
 ·rw [ac (by simpa using h1)];by_cases h2:255 < t
  ·rw [ab (by simpa using h2),ac (by omega)]
  ·rw [ac (by simpa using h2)];by_cases h3:(255:Int) < d.length
   ·rw [ab (by simpa using h3),ac (by omega)]
   ·have hh:1<=t/\t<=255/\d.length<=255:=by omega
    rw [ac (by simpa using h3),ab hh,f8,f8,TE _ (by omega),TE _ (by omega),ab (bW (by simp; omega))]
    rfl
theorem kK (t:Int) (d:Bs):il (t,d,())=some (((eF t d).1,(eF t d).2,()),()):=by
 rw [Y3];have:=lP t d;rw [Rl] at this;exact this
def cP (p:Int) (s:Bs):Except Int (List dc):=
 match s with
 | []=>.ok []
 | t::r=>
  if t=0 then (cP (p+1) r).map (⟨0,p,[]⟩::·)
  else match r with
   | []=>.error p
   | n::d=>if d.length < n.toNat then .error p else (cP (p+2+n.toNat) (d.drop n.toNat)).map (⟨t.toNat,p,d.take n.toNat⟩::·)
termination_by s.length
decreasing_by all_goals (simp_wf; try omega)
def gw (acc:List dc):Except Int (List dc)->List dc × Int × Int
 | .ok l=>(acc++l,0,0)
 | .error q=>([],q,2)
theorem vB (acc:List dc) (x:dc) (r:Except Int (List dc)):gw acc (r.map (x::·))=gw (acc++[x]) r:=by
 cases r <;> simp [gw,Except.map]
abbrev bY {α β γ:Type} (x:α × β × γ):α × β × γ × Unit:=(x.1,x.2.1,x.2.2,())
theorem fw9 {s:Bs} {p:Nat} (w:dQ s p s.length) (h:p < s.length) (hz:s[p]=0):pE (cu s p s.length false,())=some ((⟨0,p,[]⟩,cu s (p+1) s.length false,()),()):=by
 rw [BQ,gG w (by omega) (by omega) (by omega),aa];have e:b5 (bH s p 1)=0:=by rw [lJ (by omega),bt]; simp [h,hz]
 dsimp only;rw [e]; rfl
theorem fI4 {s:Bs} {p:Nat} (w:dQ s p s.length) (h:p+1=s.length) (hz:s[p]≠0):∃ t,pE (cu s p s.length false,())=some ((t,cu s (p+1) s.length true,()),())/\t.at_=p:=by
 have e:(b5 (bH s p 1)==0)=false:=by
  rw [lJ (by omega),bt,List.getElem?_eq_getElem (by omega),Option.getD_some];simp;intro h2; exact hz (UInt8.toNat.inj h2)
 have e2:((s.length:Nat):Int)=(p:Int)+1:=by omega
 rw [BQ,gG w (by omega) (by omega) (by omega),aa];dsimp only;rw [e,ac (by decide),ry (w.fwd (by omega) (by omega)) (by omega) (by omega) (.inr (by omega)),aa];dsimp only;rw [oG (w.fwd (by omega) (by omega)) (.inl rfl),aa];exact ⟨_,rfl,rfl⟩
theorem fI5 {s:Bs} {p:Nat} (w:dQ s p s.length) (h:p+1 < s.length) (hz:s[p]≠0) (hb:s.length < p+2+s[p+1].toNat):∃ t,pE (cu s p s.length false,())=some ((t,cu s (p+2) s.length true,()),())/\t.at_=p:=by
 have e:(b5 (bH s p 1)==0)=false:=by
  rw [lJ (by omega),bt,List.getElem?_eq_getElem (by omega),Option.getD_some];simp;intro h2; exact hz (UInt8.toNat.inj h2)
 have e2:b5 (bH s ((p:Int)+1) 1)=s[p+1].toNat:=by
  rw [show ((p:Int)+1)=((p+1:Nat):Int) by omega,lJ (by omega),bt,List.getElem?_eq_getElem (by omega),Option.getD_some]
 rw [BQ,gG w (by omega) (by omega) (by omega),aa];dsimp only;rw [e,ac (by decide),gG (w.fwd (by omega) (by omega)) (by omega) (by omega) (by omega),aa];dsimp only;rw [e2,Int.add_assoc,oG (w.fwd (by omega) (by omega)) (.inr (.inr (by omega))),aa];exact ⟨_,rfl,rfl⟩
theorem fI6 {s:Bs} {p:Nat} (w:dQ s p s.length) (h:p+1 < s.length) (hz:s[p]≠0) (hb:p+2+s[p+1].toNat<=s.length):pE (cu s p s.length false,())=some ((⟨s[p].toNat,p,(s.drop (p+2)).take s[p+1].toNat⟩,cu s ((p+2+s[p+1].toNat:Nat):Int) s.length false,()),()):=by
 have e0:b5 (bH s p 1)=s[p].toNat:=by
  rw [lJ (by omega),bt,List.getElem?_eq_getElem (by omega),Option.getD_some]
 have e:(((s[p].toNat:Nat):Int)==0)=false:=by
  simp;intro h2; exact hz (UInt8.toNat.inj h2)
 have e2:b5 (bH s ((p:Int)+1) 1)=s[p+1].toNat:=by
  rw [show ((p:Int)+1)=((p+1:Nat):Int) by omega,lJ (by omega),bt,List.getElem?_eq_getElem (by omega),Option.getD_some]
 rw [BQ,gG w (by omega) (by omega) (by omega),aa];dsimp only;rw [e0,e,ac (by decide),gG (w.fwd (by omega) (by omega)) (by omega) (by omega) (by omega),aa];dsimp only;rw [e2,Int.add_assoc,iV (w.fwd (by omega) (by omega)) (by omega) (by omega),aa];have e3:bH s ((p:Int)+(1+1)) (s[p+1].toNat:Int)=(s.drop (p+2)).take s[p+1].toNat:=by
  unfold bH;rw [show ((p:Int)+(1+1)+(s[p+1].toNat:Int)).toNat=p+2+s[p+1].toNat by omega,show ((p:Int)+(1+1)).toNat=p+2 by omega,List.take_add,List.drop_append_of_le_length (by simp; omega)];simp
 dsimp only;rw [e3,show ((p:Int)+(1+1)+(s[p+1].toNat:Int))=((p+2+s[p+1].toNat:Nat):Int) by omega]
theorem iY (p:Int):cP p []=.ok []:=by rw [cP.eq_def]
theorem nu {p:Int} {r:Bs}:cP p (0::r)=(cP (p+1) r).map (⟨0,p,[]⟩::·):=by rw [cP.eq_def]; rfl
theorem ot {p:Int} {t:UInt8} (h:t≠0):cP p [t]=.error p:=by rw [cP.eq_def]; simp [h]
theorem pd {p:Int} {t n:UInt8} {d:Bs} (h:t≠0) (h2:d.length < n.toNat):cP p (t::n::d)=.error p:=by rw [cP.eq_def]; simp [h,h2]
theorem lT {p:Int} {t n:UInt8} {d:Bs} (h:t≠0) (h2:n.toNat<=d.length):cP p (t::n::d)=(cP (p+2+n.toNat) (d.drop n.toNat)).map (⟨t.toNat,p,d.take n.toNat⟩::·):=by
 rw [cP.eq_def]; simp only [h,if_false]; rw [ac (by omega)]
theorem GN {s:Bs} {p:Nat} (h:p+1 < s.length):s.drop p=s[p]::s[p+1]::s.drop (p+2):=by
 rw [List.drop_eq_getElem_cons (by omega),List.drop_eq_getElem_cons (i:=p+1) (by omega)]
theorem ZB {s:Bs} {base:Int} {n:Nat} (hs:s.length<=1000000000) (hb:0<=base/\base<=1152921504606846976):∀ (d m p:Nat) (acc:List dc),p<=s.length->s.length - p<=d->d < m->acc.length<=p->
  Ba n m base acc s p s.length false=some (bY (gw acc (cP (base+p) (s.drop p))),()):=by
 intro d
 induction d with
 | zero=>
  intro m p acc h1 h2 hk ha;obtain ⟨m,rfl⟩:∃ k,m=k+1:=⟨m - 1,by omega⟩;have w:dQ s p s.length:=⟨by omega,by omega,by omega,by omega⟩;rw [Xb,wt w,aa];dsimp only;rw [ac (by simp; omega),List.drop_eq_nil_of_le (by omega),iY];simp [gw,bY]
 | succ d ih=>
  intro m p acc h1 h2 hk ha;obtain ⟨m,rfl⟩:∃ k,m=k+1:=⟨m - 1,by omega⟩;have w:dQ s p s.length:=⟨by omega,by omega,by omega,by omega⟩;rw [Xb,wt w,aa];dsimp only;by_cases hp:p < s.length
  ·rw [ab (by simp; omega)];have hroom:∀ x:dc,cE ((acc.length + [x].length) * qw)=true:=fun x=>ml (by simp; omega) WL
   by_cases hz:s[p]=0
   ·rw [fw9 w hp hz,aa];dsimp only;rw [ac (by decide),ab (hroom _),bL (by omega) (by omega),List.drop_eq_getElem_cons hp,hz,nu,vB];have:=ih m (p+1) (acc++[⟨0,base+p,[]⟩]) (by omega) (by omega) (by omega) (by simp; omega);rw [show ((p+1:Nat):Int)=(p:Int)+1 by omega] at this;rw [show (p:Int)+base=base+p by omega,this,Int.add_assoc]
   ·by_cases h3:p+1=s.length
    ·obtain ⟨t,e,et⟩:=fI4 w h3 hz;rw [e,aa];dsimp only;rw [ab rfl,et,bL (by omega) (by omega),List.drop_eq_getElem_cons hp,List.drop_eq_nil_of_le (by omega),ot hz];simp [gw,bY]; omega
    ·have h4:p+1 < s.length:=by omega
     by_cases h5:p+2+s[p+1].toNat<=s.length
     ·rw [fI6 w h4 hz h5,aa];dsimp only;rw [ac (by decide),ab (hroom _),bL (by omega) (by omega),GN h4,lT hz (by simp; omega),vB];have:=ih m (p+2+s[p+1].toNat) (acc++[⟨s[p].toNat,base+p,(s.drop (p+2)).take s[p+1].toNat⟩]) (by omega) (by omega) (by omega) (by simp; omega);rw [show (p:Int)+base=base+p by omega,this,List.drop_drop];congr 4;congr 1;omega
     ·obtain ⟨t,e,et⟩:=fI5 w h4 hz (by omega);rw [e,aa];dsimp only;rw [ab rfl,et,bL (by omega) (by omega),GN h4,pd hz (by simp; omega)];simp [gw,bY]; omega
  ·rw [ac (by simp; omega),List.drop_eq_nil_of_le (by omega),iY];simp [gw,bY]
theorem CQ {s:Bs} {base:Int} (hs:s.length<=1000000000) (hb:0<=base/\base<=1152921504606846976):ol (s,base,())=some (bY (gw [] (cP base s)),()):=by
 show EH fuel _=_;rw [e58,mf,aa];have:=ZB (n:=fuel) hs hb s.length fuel 0 [] (by omega) (by omega) (cn (by omega)) (by simp);simpa using this
theorem fe9 {s:Bs} {base:Int} {n:Nat} (hs:s.length<=1000000000) (hb:0<=base/\base<=1152921504606846976):∀ (d m p:Nat) (acc:List dc),p<=s.length->s.length - p<=d->d < m->acc.length<=p->
  ta n m s base acc p=some (bY (gw acc (cP (base+p) (s.drop p))),()):=by
 intro d
 induction d with
 | zero=>
  intro m p acc h1 h2 hk ha;obtain ⟨m,rfl⟩:∃ k,m=k+1:=⟨m - 1,by omega⟩;rw [Rc,ac (by simp; omega),List.drop_eq_nil_of_le (by omega),iY];simp [gw,bY]
 | succ d ih=>
  intro m p acc h1 h2 hk ha;obtain ⟨m,rfl⟩:∃ k,m=k+1:=⟨m - 1,by omega⟩;rw [Rc];by_cases hp:p < s.length
  ·have hroom:∀ x:dc,cE ((acc.length + [x].length) * qw)=true:=fun x=>ml (by simp; omega) WL
   rw [ab (by simp; omega),ab (by omega),Int.toNat_natCast,ck hp];by_cases hz:s[p]=0
   ·rw [ab (by rw [hz]; rfl),ab (hroom _),bL (x:=base+p) (by omega) (by omega),bL (x:=(p:Int)+1) (by omega) (by omega),List.drop_eq_getElem_cons hp,hz,nu,vB];have:=ih m (p+1) (acc++[⟨0,base+p,[]⟩]) (by omega) (by omega) (by omega) (by simp; omega);rw [show ((p+1:Nat):Int)=(p:Int)+1 by omega] at this;rw [this,Int.add_assoc]
   ·have hz':¬(((s[p].toNat:Nat):Int)==0)=true:=by
     simp;intro h2; exact hz (UInt8.toNat.inj h2)
    rw [ac hz',bL (x:=(s.length:Int) - p) (by omega) (by omega),bL (x:=base+p) (by omega) (by omega),bL (x:=(p:Int)+1) (by omega) (by omega),bL (x:=(p:Int)+2) (by omega) (by omega)];by_cases h3:p+1=s.length
    ·rw [ab (by simp; omega),List.drop_eq_getElem_cons hp,List.drop_eq_nil_of_le (by omega),ot hz];simp [gw,bY]
    ·have h4:p+1 < s.length:=by omega
     rw [ac (by simp; omega),ab (by omega),show ((p:Int)+1).toNat=p+1 by omega,ck h4,ck h4,ck hp,eO,eO,bL (x:=(s.length:Int) - p - 2) (by omega) (by omega),GN h4];have hn:=s[p+1].toNat_lt;by_cases h5:p+2+s[p+1].toNat<=s.length
     ·rw [ac (by simp; omega),ab (by omega),ab (by omega),bL (x:=(p:Int)+2+(s[p+1].toNat:Int)) (by omega) (by omega),ab (by omega),ab (hroom _),lT hz (by simp; omega),vB];have:=ih m (p+2+s[p+1].toNat) (acc++[⟨s[p].toNat,base+p,(s.drop (p+2)).take s[p+1].toNat⟩]) (by omega) (by omega) (by omega) (by simp; omega);rw [List.drop_drop];have e3:(s.take ((p:Int)+2+(s[p+1].toNat:Int)).toNat).drop ((p:Int)+2).toNat=(s.drop (p+2)).take s[p+1].toNat:=by
       rw [show ((p:Int)+2+(s[p+1].toNat:Int)).toNat=p+2+s[p+1].toNat by omega,show ((p:Int)+2).toNat=p+2 by omega,List.take_add,List.drop_append_of_le_length (by simp; omega)];simp
      rw [e3,show (p:Int)+2+(s[p+1].toNat:Int)=((p+2+s[p+1].toNat:Nat):Int) by omega,this];congr 4;congr 1;omega
     ·rw [ab (by simp; omega),pd hz (by simp; omega)];simp [gw,bY]
  ·rw [ac (by simp; omega),List.drop_eq_nil_of_le (by omega),iY];simp [gw,bY]
theorem FP {s:Bs} {base:Int} (hs:s.length<=1000000000) (hb:0<=base/\base<=1152921504606846976):oh (s,base,())=some (bY (gw [] (cP base s)),()):=by
 show Em fuel _=_;rw [e61];have:=fe9 (n:=fuel) hs hb s.length fuel 0 [] (by omega) (by omega) (cn (by omega)) (by simp);simpa using this
end Go.VP
namespace Go.VP
open Go Go.VI
def dm:List cj->Int
 | []=>0
 | y::l=>2+(y.data.length:Int)+dm l
def em (l:List cj):Prop:=l.length<=1000000000/\∀ y∈l,y.data.length<=300
theorem em.tail {y:cj} {l:List cj} (h:em (y::l)):em l:=⟨by have:=h.1; simp at this; omega,fun z hz=>h.2 z (List.mem_cons_of_mem _ hz)⟩
theorem em.drop {l:List cj} (h:em l) (i:Nat):em (l.drop i):=⟨by have:=h.1; simp; omega,fun y hy=>h.2 y (List.mem_of_mem_drop hy)⟩
theorem Hr:∀ {l:List cj},em l->0<=dm l/\dm l<=302 * l.length
 | [],_=>by simp [dm]
 | y::l,h=>by
  have:=Hr h.tail;have hy:=h.2 y (List.mem_cons_self ..);simp only [dm,List.length_cons];omega
theorem fo1 {l:List cj} {n:Nat} (hl:em l):∀ (d m i:Nat) (acc:Int),i+d=l.length->d < m->0<=acc->acc<=302 * i->
  wv n m l acc i=some ((acc+dm (l.drop i),()),()):=by
 have h1:=hl.1;intro d
 induction d with
 | zero=>
  intro m i acc hd hm h2 h3;obtain ⟨m,rfl⟩:∃ k,m=k+1:=⟨m - 1,by omega⟩;rw [R6,bN (by omega),List.drop_eq_nil_of_le (by omega)];simp [dm]
 | succ d ih=>
  intro m i acc hd hm h2 h3;obtain ⟨m,rfl⟩:∃ k,m=k+1:=⟨m - 1,by omega⟩;have hlt:i < l.length:=by omega
  have hy:=hl.2 l[i] (List.getElem_mem hlt);rw [R6,bP (by omega),ab (by omega),Int.toNat_natCast,ck hlt,bL (x:=2+(l[i].data.length:Int)) (by omega) (by omega),bL (x:=acc+(2+(l[i].data.length:Int))) (by omega) (by omega),bL (x:=(i:Int)+1) (by omega) (by omega)];have:=ih m (i+1) (acc+(2+(l[i].data.length:Int))) (by omega) (by omega) (by omega) (by omega);rw [show ((i+1:Nat):Int)=(i:Int)+1 by omega] at this;rw [this,List.drop_eq_getElem_cons hlt,dm,Int.add_assoc]
theorem HX {l:List cj} (hl:em l):sQ (l,())=some ((dm l,()),()):=by
 show Fh fuel _=_;have:=hl.1;rw [ey8];have:=fo1 (n:=fuel) hl l.length fuel 0 0 (by omega) (cn (by omega)) (by omega) (by omega);simpa using this
theorem ff0 {l:List cj} {n:Nat} (hl:em l):∀ (d m i:Nat) (acc:Int),i+d=l.length->d < m->0<=acc->acc<=302 * i->
  xY n m l acc i=some ((acc+dm (l.drop i),()),()):=by
 have h1:=hl.1;intro d
 induction d with
 | zero=>
  intro m i acc hd hm h2 h3;obtain ⟨m,rfl⟩:∃ k,m=k+1:=⟨m - 1,by omega⟩;rw [KV,bN (by omega),List.drop_eq_nil_of_le (by omega)];simp [dm]
 | succ d ih=>
  intro m i acc hd hm h2 h3;obtain ⟨m,rfl⟩:∃ k,m=k+1:=⟨m - 1,by omega⟩;have hlt:i < l.length:=by omega
  have hy:=hl.2 l[i] (List.getElem_mem hlt);rw [KV,bP (by omega),ab (by omega),Int.toNat_natCast,ck hlt,bL (x:=acc+2) (by omega) (by omega),bL (x:=acc+2+(l[i].data.length:Int)) (by omega) (by omega),bL (x:=(i:Int)+1) (by omega) (by omega)];have:=ih m (i+1) (acc+2+(l[i].data.length:Int)) (by omega) (by omega) (by omega) (by omega);rw [show ((i+1:Nat):Int)=(i:Int)+1 by omega] at this;rw [this,List.drop_eq_getElem_cons hlt,dm,Int.add_assoc,Int.add_assoc,Int.add_assoc]
theorem Us {l:List cj} (hl:em l):ve (l,())=some ((dm l,()),()):=by
 show Dm fuel _=_;have:=hl.1;rw [e38];have:=ff0 (n:=fuel) hl l.length fuel 0 0 (by omega) (cn (by omega)) (by omega) (by omega);simpa using this
def eS (lo hi:Int) (y:cj):Bool:=decide (lo<=y.aA/\y.aA<=hi/\y.data.length<=255)
theorem Zo {l:List cj} {n:Nat} (h1:l.length<=1000000000) (lo hi:Int):∀ (d m i:Nat),i+d=l.length->d < m->
  xB n m lo hi l i=some (((l.drop i).all (eS lo hi),()),()):=by
 intro d
 induction d with
 | zero=>
  intro m i hd hm;obtain ⟨m,rfl⟩:∃ k,m=k+1:=⟨m - 1,by omega⟩;rw [Qv,bN (by omega),List.drop_eq_nil_of_le (by omega)]
  rfl
 | succ d ih=>
  intro m i hd hm;obtain ⟨m,rfl⟩:∃ k,m=k+1:=⟨m - 1,by omega⟩;have hlt:i < l.length:=by omega
  have:=ih m (i+1) (by omega) (by omega);rw [show ((i+1:Nat):Int)=(i:Int)+1 by omega] at this;rw [Qv,bP (by omega),ab (by omega),Int.toNat_natCast,ck hlt,bL (x:=(i:Int)+1) (by omega) (by omega),this,List.drop_eq_getElem_cons hlt,List.all_cons];by_cases a:l[i].aA < lo
  ·rw [bP a,show eS lo hi l[i]=false by simp [eS]; omega]; rfl
  ·rw [bN a];by_cases b:hi < l[i].aA
   ·rw [bP b,show eS lo hi l[i]=false by simp [eS]; omega]; rfl
   ·rw [bN b];by_cases c:(255:Int) < l[i].data.length
    ·rw [bP c,show eS lo hi l[i]=false by simp [eS]; omega]; rfl
    ·rw [bN c,show eS lo hi l[i]=true by simp [eS]; omega,Bool.true_and]
theorem LS {l:List cj} (h1:l.length<=1000000000) (lo hi:Int):wV (l,lo,hi,())=some ((l.all (eS lo hi),()),()):=by
 show Jd fuel _=_;rw [eR1];exact Zo (n:=fuel) h1 lo hi l.length fuel 0 (by omega) (cn (by omega))
theorem Zt {l:List cj} {n:Nat} (h1:l.length<=1000000000) (lo hi:Int):∀ (d m i:Nat),i+d=l.length->d < m->
  yp n m l lo hi i=some (((l.drop i).all (eS lo hi),()),()):=by
 intro d
 induction d with
 | zero=>
  intro m i hd hm;obtain ⟨m,rfl⟩:∃ k,m=k+1:=⟨m - 1,by omega⟩;rw [VF,bN (by omega),List.drop_eq_nil_of_le (by omega)]
  rfl
 | succ d ih=>
  intro m i hd hm;obtain ⟨m,rfl⟩:∃ k,m=k+1:=⟨m - 1,by omega⟩;have hlt:i < l.length:=by omega
  have:=ih m (i+1) (by omega) (by omega);rw [show ((i+1:Nat):Int)=(i:Int)+1 by omega] at this;have hi':(0:Int)<=i:=by omega
  rw [VF,bP (by omega)];simp only [hi',if_true,Int.toNat_natCast,ck hlt];rw [bL (x:=(i:Int)+1) (by omega) (by omega),this,List.drop_eq_getElem_cons hlt,List.all_cons];by_cases a:l[i].aA < lo
  ·rw [bP a,show eS lo hi l[i]=false by simp [eS]; omega]; rfl
  ·rw [bN a];by_cases b:hi < l[i].aA
   ·rw [bP b,show eS lo hi l[i]=false by simp [eS]; omega]; rfl
   ·rw [bN b];by_cases c:(255:Int) < l[i].data.length
    ·rw [bP c,show eS lo hi l[i]=false by simp [eS]; omega]; rfl
    ·rw [bN c,show eS lo hi l[i]=true by simp [eS]; omega,Bool.true_and]
theorem LT {l:List cj} (h1:l.length<=1000000000) (lo hi:Int):BH (l,lo,hi,())=some ((l.all (eS lo hi),()),()):=by
 show DV fuel _=_;rw [Zp];exact Zt (n:=fuel) h1 lo hi l.length fuel 0 (by omega) (cn (by omega))
def fa (l:List cj):Bool:=l.all (eS 2 127) && decide (dm l<=200)
theorem wS {l:List cj} (hl:em l):pI (l,())=some ((fa l,()),()):=by
 rw [ey9,LS hl.1,aa,HX hl];unfold fa;dsimp only;cases l.all (eS 2 127) <;> rfl
theorem Bg {l:List cj} (hl:em l):oI (l,())=some ((fa l,()),()):=by
 rw [e39,LT hl.1,aa,Us hl];unfold fa;dsimp only;cases l.all (eS 2 127) <;> rfl
def bX:List cj->Bs
 | []=>[]
 | y::l=>bF y.aA::bF y.data.length::(y.data++bX l)
def i8 (l:List cj):Prop:=∀ y∈l,2<=y.aA/\y.aA<=127/\y.data.length<=255
theorem Uk {l:List cj}:l.all (eS 2 127)=true↔i8 l:=by simp [eS,i8]
theorem MV {y:cj} (h:2<=y.aA/\y.aA<=127/\y.data.length<=255):eF y.aA y.data=(bF y.aA::bF y.data.length::y.data,true):=by
 unfold eF; rw [ab (by omega)]
theorem qH:∀ (l:List cj),((bX l).length:Int)=dm l
 | []=>rfl
 | y::l=>by have:=qH l; simp [bX,dm]; omega
theorem fx2 {l:List cj} {n:Nat} (hr:i8 l) (h1:l.length<=1000000):∀ (d m i:Nat) (acc:Bs),i+d=l.length->d < m->acc.length<=257 * i->
  vy n m l acc i=some ((acc++bX (l.drop i),true,()),()):=by
 intro d
 induction d with
 | zero=>
  intro m i acc hd hm ha;obtain ⟨m,rfl⟩:∃ k,m=k+1:=⟨m - 1,by omega⟩;rw [Kc,bN (by omega),List.drop_eq_nil_of_le (by omega),bX,List.append_nil]
 | succ d ih=>
  intro m i acc hd hm ha;obtain ⟨m,rfl⟩:∃ k,m=k+1:=⟨m - 1,by omega⟩;have hlt:i < l.length:=by omega
  have hy:=hr l[i] (List.getElem_mem hlt);have:=ih m (i+1) (acc++(bF l[i].aA::bF l[i].data.length::l[i].data)) (by omega) (by omega) (by simp; omega);rw [show ((i+1:Nat):Int)=(i:Int)+1 by omega] at this;rw [Kc,bP (by omega),ab (by omega),Int.toNat_natCast,ck hlt,lP,MV hy,aa];dsimp only;rw [ab (d7 (by simp; omega)),bL (by omega) (by omega),this,List.drop_eq_getElem_cons hlt,bX];simp
theorem ZE {l:List cj} {n:Nat} (hr:i8 l) (h1:l.length<=1000000):∀ (d m i:Nat) (acc:Bs),i+d=l.length->d < m->acc.length<=257 * i->
  wu n m l acc i=some ((acc++bX (l.drop i),true,()),()):=by
 intro d
 induction d with
 | zero=>
  intro m i acc hd hm ha;obtain ⟨m,rfl⟩:∃ k,m=k+1:=⟨m - 1,by omega⟩;rw [VK,bN (by omega),List.drop_eq_nil_of_le (by omega),bX,List.append_nil]
 | succ d ih=>
  intro m i acc hd hm ha;obtain ⟨m,rfl⟩:∃ k,m=k+1:=⟨m - 1,by omega⟩;have hlt:i < l.length:=by omega
  have hy:=hr l[i] (List.getElem_mem hlt);have:=ih m (i+1) (acc++(bF l[i].aA::bF l[i].data.length::l[i].data)) (by omega) (by omega) (by simp; omega);rw [show ((i+1:Nat):Int)=(i:Int)+1 by omega] at this;rw [VK,bP (by omega),ab (by omega),Int.toNat_natCast,ck hlt,ab (by omega),ck hlt,kK,MV hy,aa];dsimp only;rw [ab (bW (by simp; omega)),bL (by omega) (by omega),this,List.drop_eq_getElem_cons hlt,bX];simp
def nK (l:List cj):Bs × Bool:=if fa l=true then (bX l,true) else ([],false)
theorem nZ {l:List cj} (h:fa l=true):i8 l/\dm l<=200:=by
 simp only [fa,Bool.and_eq_true,Uk,decide_eq_true_eq] at h; exact h
theorem Fr {l:List cj} (hl:em l) (h1:l.length<=1000000):kw (l,())=some (((nK l).1,(nK l).2,()),()):=by
 show ET fuel _=_;rw [eZ9,wS hl,aa];unfold nK;dsimp only;by_cases h:fa l=true
 ·have:=fx2 (n:=fuel) (nZ h).1 h1 l.length fuel 0 [] (by omega) (cn (by omega)) (by simp);rw [show ((0:Nat):Int)=0 from rfl] at this;rw [h,b7,this,cQ];simp
 ·rw [Bool.not_eq_true] at h;rw [h,cK,cV]
theorem Hi {l:List cj} (hl:em l) (h1:l.length<=1000000):rA (l,())=some (((nK l).1,(nK l).2,()),()):=by
 show CY fuel _=_;rw [ex4,Bg hl,aa];unfold nK;dsimp only;by_cases h:fa l=true
 ·have:=ZE (n:=fuel) (nZ h).1 h1 l.length fuel 0 [] (by omega) (cn (by omega)) (by simp);rw [show ((0:Nat):Int)=0 from rfl] at this;rw [h,b7,this,cQ];simp
 ·rw [Bool.not_eq_true] at h;rw [h,cK,cV]
def keep:List dc->List cj
 | []=>[]
 | t::l=>if 2<=t.aA/\t.aA<=127 then ⟨t.aA,t.data⟩::keep l else keep l
def kU (l:List dc):Bool:=l.all fun t=>decide (t.aA<=127)
theorem ph (t:dc) (l:List dc):kU (t::l)=(decide (t.aA<=127) && kU l):=rfl
theorem Kh:∀ (l:List dc),(keep l).length<=l.length
 | []=>Nat.le_refl _
 | t::l=>by have:=Kh l; simp only [keep]; split <;> simp <;> omega
def jN (acc:List cj) (b:Bool):List cj × Bool × Int:=if 200 < dm acc then ([],false,10) else (acc,b,0)
def uf (l:List dc):Prop:=∀ t∈l,t.data.length<=255
theorem fT2 {acc:List cj} {b:Bool} (hl:em acc):(sQ (acc,())).bind (fun r3=>(if decide (200 < r3.1.1) then some (([],false,10,()),()) else some ((acc,b,0,()),())))=some (bY (jN acc b),()):=by
 rw [HX hl,aa];unfold jN;by_cases h:200 < dm acc
 ·rw [bP h,ab h]
 ·rw [bN h,ac h]
theorem fI7 {acc:List cj} {b:Bool} (hl:em acc):(ve (acc,())).bind (fun r3=>(if decide (200 < r3.1.1) then some (([],false,10,()),()) else some ((acc,b,0,()),())))=some (bY (jN acc b),()):=by
 rw [Us hl,aa];unfold jN;by_cases h:200 < dm acc
 ·rw [bP h,ab h]
 ·rw [bN h,ac h]
theorem em.app {a b:List cj} (h:∀ y∈a,y.data.length<=300) (h2:∀ y∈b,y.data.length<=300) (h3:a.length+b.length<=1000000000):em (a++b):=
 ⟨by simpa using h3,fun y hy=>(List.mem_append.1 hy).elim (h y) (h2 y)⟩
theorem fx3 {l:List dc} {x:Int × Int × Unit} {n:Nat} (hs:uf l) (h1:l.length<=1000000):∀ (d m i:Nat) (acc:List cj) (b:Bool),i+d=l.length->d < m->acc.length<=i->(∀ y∈acc,y.data.length<=300)->
  pK n m ((l,x),()) acc b i=some (bY (jN (acc++keep (l.drop i)) (b && kU (l.drop i))),()):=by
 intro d
 induction d with
 | zero=>
  intro m i acc b hd hm ha hb;obtain ⟨m,rfl⟩:∃ k,m=k+1:=⟨m - 1,by omega⟩;rw [KY];dsimp only;rw [bN (by omega),List.drop_eq_nil_of_le (by omega),fT2 ⟨by omega,hb⟩];simp [keep,kU]
 | succ d ih=>
  intro m i acc b hd hm ha hb;obtain ⟨m,rfl⟩:∃ k,m=k+1:=⟨m - 1,by omega⟩;have hlt:i < l.length:=by omega
  have hy:=hs l[i] (List.getElem_mem hlt);have hroom:∀ x:cj,cE ((acc.length + [x].length) * oi)=true:=fun x=>ml (by simp; omega) vF
  rw [KY];dsimp only;rw [bP (by omega),ab (by omega),Int.toNat_natCast,ck hlt,bL (by omega) (by omega),List.drop_eq_getElem_cons hlt];have e:(i:Int)+1=((i+1:Nat):Int):=by omega
  rw [e];by_cases c1:128<=l[i].aA
  ·rw [bP c1,ih m (i+1) acc false (by omega) (by omega) (by omega) hb,keep,ac (by omega),ph,decide_eq_false (by omega)];simp
  ·rw [bN c1];have h127:l[i].aA<=127:=by omega
   by_cases c2:2<=l[i].aA
   ·rw [bP c2,ab (hroom _),ih m (i+1) (acc++[⟨l[i].aA,l[i].data⟩]) b (by omega) (by omega) (by simp; omega) (fun y hy'=>(List.mem_append.1 hy').elim (hb y) (fun h=>by simp at h; subst h; dsimp only; omega)),keep,ab ⟨c2,h127⟩,ph,decide_eq_true h127];simp
   ·rw [bN c2,ih m (i+1) acc b (by omega) (by omega) (by omega) hb,keep,ac (by omega),ph,decide_eq_true h127];simp
theorem fo4 {l:List dc} {x:Int × Int × Unit} {n:Nat} (hs:uf l) (h1:l.length<=1000000):∀ (d m i:Nat) (acc:List cj) (b:Bool),i+d=l.length->d < m->acc.length<=i->(∀ y∈acc,y.data.length<=300)->
  j0 n m ((l,x),()) acc b i=some (bY (jN (acc++keep (l.drop i)) (b && kU (l.drop i))),()):=by
 intro d
 induction d with
 | zero=>
  intro m i acc b hd hm ha hb;obtain ⟨m,rfl⟩:∃ k,m=k+1:=⟨m - 1,by omega⟩;rw [M0];dsimp only;rw [bN (by omega),List.drop_eq_nil_of_le (by omega),fI7 ⟨by omega,hb⟩];simp [keep,kU]
 | succ d ih=>
  intro m i acc b hd hm ha hb;obtain ⟨m,rfl⟩:∃ k,m=k+1:=⟨m - 1,by omega⟩;have hlt:i < l.length:=by omega
  have hy:=hs l[i] (List.getElem_mem hlt);have hroom:∀ x:cj,cE ((acc.length + [x].length) * oi)=true:=fun x=>ml (by simp; omega) vF
  have hi':(0:Int)<=i:=by omega
  rw [M0];dsimp only;rw [bP (by omega)];simp only [hi',if_true,Int.toNat_natCast,ck hlt,hroom];rw [bL (by omega) (by omega),List.drop_eq_getElem_cons hlt];have e:(i:Int)+1=((i+1:Nat):Int):=by omega
  rw [e];have h2:∀ b,j0 n m ((l,x),()) acc b ((i+1:Nat):Int)=some (bY (jN (acc++keep (l.drop (i+1))) (b && kU (l.drop (i+1)))),()):=fun b=>ih m (i+1) acc b (by omega) (by omega) (by omega) hb
  have h3:∀ b,j0 n m ((l,x),()) (acc++[⟨l[i].aA,l[i].data⟩]) b ((i+1:Nat):Int)=some (bY (jN (acc++[⟨l[i].aA,l[i].data⟩]++keep (l.drop (i+1))) (b && kU (l.drop (i+1)))),()):=fun b=>ih m (i+1) _ b (by omega) (by omega) (by simp; omega) (fun y hy'=>(List.mem_append.1 hy').elim (hb y) (fun h=>by simp at h; subst h; dsimp only; omega))
  simp only [h2,h3];by_cases c2:2<=l[i].aA
  ·rw [bP c2];by_cases c1:l[i].aA<=127
   ·rw [bP c1,keep,ab (show 2<=l[i].aA/\l[i].aA<=127 from ⟨c2,c1⟩),ph,decide_eq_true c1];cases b <;> simp
   ·rw [bN c1,keep,ac (show ¬(2<=l[i].aA/\l[i].aA<=127) by omega),ph,decide_eq_false c1];cases b <;> simp
  ·have c1:l[i].aA<=127:=by omega
   rw [bN c2,keep,ac (show ¬(2<=l[i].aA/\l[i].aA<=127) by omega),ph,decide_eq_true c1];cases b <;> simp
def dR (s:Bs):List cj × Bool × Int:=
 match cP 0 s with
 | .ok l=>jN (keep l) (kU l)
 | .error _=>([],false,2)
theorem qo (s:Bs):∀ (p:Int) (l:List dc),cP p s=.ok l->uf l/\l.length<=s.length:=by
 match s with
 | []=>intro p l h; rw [iY] at h; injection h with h; subst h; exact ⟨fun t h=>by simp at h,Nat.le_refl _⟩
 | t::r=>
  intro p l h;have go:∀ (q:Int) (x:dc) (r':Bs),r'.length < (t::r).length->x.data.length<=255->(cP q r').map (x::·)=.ok l->uf l/\l.length<=(t::r).length:=by
   intro q x r' hr hx h;cases hm:cP q r' with
   | error e=>rw [hm] at h; cases h
   | ok l'=>
    rw [hm] at h;injection h with h
    subst h;obtain ⟨a,b⟩:=qo r' q l' hm;exact ⟨fun y hy=>(List.mem_cons.1 hy).elim (fun h=>by subst h; exact hx) (a y),by simp only [List.length_cons] at *; omega⟩
  by_cases ht:t=0
  ·subst ht;rw [nu] at h;exact go _ _ _ (by simp) (by simp) h
  ·match r with
   | []=>rw [ot ht] at h; cases h
   | n::d=>
    by_cases hn:d.length < n.toNat
    ·rw [pd ht hn] at h; cases h
    ·rw [lT ht (by omega)] at h;have:=n.toNat_lt;exact go _ _ _ (by simp; omega) (by simp; omega) h
termination_by s.length
theorem rB {s:Bs} (h:s.length<=1000000):lg (s,())=some (bY (dR s),()):=by
 show Hg fuel _=_;rw [f00,CQ (by omega) (by omega),aa];unfold dR;cases hm:cP 0 s with
 | error e=>rfl
 | ok l=>
  obtain ⟨h1,h2⟩:=qo s 0 l hm;have:=fx3 (x:=(0,0,())) (n:=fuel) h1 (by omega) l.length fuel 0 [] true (by omega) (cn (by omega)) (by simp) (by simp);show pK fuel fuel ((l,0,0,()),()) [] true 0=_;simpa using this
theorem mR {s:Bs} (h:s.length<=1000000):iw (s,())=some (bY (dR s),()):=by
 show FB fuel _=_;rw [YO,FP (by omega) (by omega),aa];unfold dR;cases hm:cP 0 s with
 | error e=>rfl
 | ok l=>
  obtain ⟨h1,h2⟩:=qo s 0 l hm;have:=fo4 (x:=(0,0,())) (n:=fuel) h1 (by omega) l.length fuel 0 [] true (by omega) (cn (by omega)) (by simp) (by simp);show j0 fuel fuel ((l,0,0,()),()) [] true 0=_;simpa using this
end Go.VP
namespace Go.VP
open Go Go.VI
abbrev bD:=bE
abbrev gW:=eB
theorem bZ {α R:Type} [BEq α] [LawfulBEq α] {x y:α} {f t r:R} (hne:x≠y->f=r) (heq:x=y->t=r):(if x != y then f else t)=r:=by
 by_cases h:x=y
 ·rw [ac (by simp [h])]; exact heq h
 ·rw [ab (by simp [h])]; exact hne h
theorem q8 {α R:Type} [BEq α] [LawfulBEq α] {x y:α} {f t r:R} (hne:x≠y->f=r) (heq:x=y->t=r):(if !(x==y) then f else t)=r:=bZ hne heq
open Classical in
def fB {α:Type} (a b:α):Bool:=decide (a=b)
theorem ma {α:Type} {a b:α}:fB a b=true↔a=b:=by simp [fB]
theorem iA {α:Type} (a:α):fB a a=true:=ma.2 rfl
theorem ld {α:Type} {a b:α} (h:a≠b):fB a b=false:=by simp [fB,h]
theorem fo5 {a b:List gW} {n:Nat} (hl:a.length=b.length) (h1:a.length<=1000000000):∀ (d m i:Nat),i+d=a.length->d < m->Aa n m a b i=some ((fB (a.drop i) (b.drop i),()),()):=by
 intro d
 induction d with
 | zero=>
  intro m i hd hm;obtain ⟨m,rfl⟩:∃ k,m=k+1:=⟨m - 1,by omega⟩;rw [QQ,bN (by omega),List.drop_eq_nil_of_le (by omega),List.drop_eq_nil_of_le (by omega),iA]
 | succ d ih=>
  intro m i hd hm;obtain ⟨m,rfl⟩:∃ k,m=k+1:=⟨m - 1,by omega⟩;have ha:i < a.length:=by omega
  have hb:i < b.length:=by omega
  have:=ih m (i+1) (by omega) (by omega);rw [show ((i+1:Nat):Int)=(i:Int)+1 by omega] at this;rw [QQ,bP (by omega),ab (by omega),Int.toNat_natCast,ck ha,ab (by omega),ck hb,bL (by omega) (by omega),this,List.drop_eq_getElem_cons ha,List.drop_eq_getElem_cons hb];generalize a[i]=x;generalize b[i]=y;obtain ⟨x1,x2⟩:=x;obtain ⟨y1,y2⟩:=y;dsimp only;by_cases h:x1=y1/\x2=y2
  ·obtain ⟨rfl,rfl⟩:=h;rw [ac (by simp)];simp [fB]
  ·have hx:¬((⟨x1,x2⟩:gW)=⟨y1,y2⟩):=by simpa using h
   have hb:((x1==y1) && (x2==y2))=false:=by rw [Bool.eq_false_iff]; simpa using h
   rw [hb,cK,ld];intro e;injection e with e _
   exact hx e
theorem fI8 {a b:List gW} (h1:a.length<=1000000000):CJ (a,b,())=some ((fB a b,()),()):=by
 show H9 fuel _=_;rw [e28];refine bZ (fun h=>?_) (fun h=>?_)
 ·rw [ld]; intro e; subst e; exact h rfl
 ·exact fo5 (n:=fuel) (by omega) h1 a.length fuel 0 (by omega) (cn (by omega))
theorem fo6 {a b:List cj} {n:Nat} (hl:a.length=b.length) (h1:a.length<=1000000000):∀ (d m i:Nat),i+d=a.length->d < m->wI n m a b i=some ((fB (a.drop i) (b.drop i),()),()):=by
 intro d
 induction d with
 | zero=>
  intro m i hd hm;obtain ⟨m,rfl⟩:∃ k,m=k+1:=⟨m - 1,by omega⟩;rw [PJ,bN (by omega),List.drop_eq_nil_of_le (by omega),List.drop_eq_nil_of_le (by omega),iA]
 | succ d ih=>
  intro m i hd hm;obtain ⟨m,rfl⟩:∃ k,m=k+1:=⟨m - 1,by omega⟩;have ha:i < a.length:=by omega
  have hb:i < b.length:=by omega
  have:=ih m (i+1) (by omega) (by omega);rw [show ((i+1:Nat):Int)=(i:Int)+1 by omega] at this;rw [PJ,bP (by omega),ab (by omega),Int.toNat_natCast,ck ha,ab (by omega),ck hb,bL (by omega) (by omega),this,List.drop_eq_getElem_cons ha,List.drop_eq_getElem_cons hb];generalize a[i]=x;generalize b[i]=y;obtain ⟨x1,x2⟩:=x;obtain ⟨y1,y2⟩:=y;dsimp only;by_cases h:x1=y1/\x2=y2
  ·obtain ⟨rfl,rfl⟩:=h;rw [ac (by simp)];simp [fB]
  ·have hx:¬((⟨x1,x2⟩:cj)=⟨y1,y2⟩):=by simpa using h
   have hb:((x1==y1) && (x2==y2))=false:=by rw [Bool.eq_false_iff]; simpa using h
   rw [hb,cK,ld];intro e;injection e with e _
   exact hx e
theorem fI9 {a b:List cj} (h1:a.length<=1000000000):Ei (a,b,())=some ((fB a b,()),()):=by
 show Iu fuel _=_;rw [Yz];refine bZ (fun h=>?_) (fun h=>?_)
 ·rw [ld]; intro e; subst e; exact h rfl
 ·exact fo6 (n:=fuel) (by omega) h1 a.length fuel 0 (by omega) (cn (by omega))
theorem RS {a b:bD} (h1:a.list.length<=1000000000) (h2:a.subs.length<=1000000000):gt (a,b,())=some ((fB a b,()),()):=by
 have hf:a≠b->(some ((false,()),()):Option ((Bool × Unit) × Unit))=some ((fB a b,()),()):=fun h=>by rw [ld h]
 rw [ei7,fI8 h1,aa,fI9 h2,aa]
 repeat (first | refine bZ (fun h=>hf (fun e=>h (by rw [e]))) (fun h=>?_) | refine q8 (fun h=>hf (fun e=>h (by rw [e]))) (fun h=>?_))
 dsimp only;by_cases hl:a.list=b.list
 ·rw [hl,iA,cQ];by_cases hs:a.subs=b.subs
  ·have:a=b:=by
    cases a; cases b;simp only at *;simp [*]
   rw [hs,iA,this,iA]
  ·rw [ld hs,ld]; intro e; exact hs (by rw [e])
 ·rw [ld hl,cV]; exact hf (fun e=>hl (by rw [e]))
structure oD (m:bD):Prop where
 list:m.list.length<=300
 subs:m.subs.length<=60
 ap:m.aC.length+m.ah.length<=200
 ni:m.next.length+m.id.length<=200
 ao:m.addr.length+m.aD.length<=200
 data:m.data.length<=300
 ds:∀ d∈m.list,d.addr.length<=50
 ss:∀ s∈m.subs,s.data.length<=300
structure sS (m:bD):Prop where
 list:m.list.length<=1000
 subs:m.subs.length<=1000
 aC:m.aC.length<=400
 pre:m.ah.length<=400
 next:m.next.length<=400
 id:m.id.length<=400
 addr:m.addr.length<=400
 aD:m.aD.length<=400
 data:m.data.length<=400
 ds:∀ d∈m.list,d.addr.length<=50
 ss:∀ s∈m.subs,s.data.length<=300
theorem oD.lite {m:bD} (h:oD m):sS m:=by
 have:=h.list; have:=h.subs; have:=h.ap; have:=h.ni; have:=h.ao; have:=h.data;exact ⟨by omega,by omega,by omega,by omega,by omega,by omega,by omega,by omega,by omega,h.ds,h.ss⟩
theorem sS.fewS {m:bD} (h:sS m):em m.subs:=⟨by have:=h.subs; omega,h.ss⟩
def Ap (m:bD):Prop:=m.aC.length<=140737488351232/\m.ah.length<=140737488351232/\m.next.length<=140737488351232/\m.id.length<=140737488351232/\m.addr.length<=140737488351232/\m.aD.length<=140737488351232
theorem fx4 {m0:bD} {n:Nat} (h1:m0.subs.length<=60):∀ (d m i:Nat),i+d=m0.subs.length->d < m->xI n m m0 i=some (((m0.subs.drop i).all fun s=>decide (s.data.length<=300),()),()):=by
 intro d
 induction d with
 | zero=>
  intro m i hd hm;obtain ⟨m,rfl⟩:∃ k,m=k+1:=⟨m - 1,by omega⟩;rw [Sn,bN (by omega),List.drop_eq_nil_of_le (by omega)]; rfl
 | succ d ih=>
  intro m i hd hm;obtain ⟨m,rfl⟩:∃ k,m=k+1:=⟨m - 1,by omega⟩;have ha:i < m0.subs.length:=by omega
  have:=ih m (i+1) (by omega) (by omega);rw [show ((i+1:Nat):Int)=(i:Int)+1 by omega] at this;rw [Sn,bP (by omega),ab (by omega),Int.toNat_natCast,ck ha,bL (by omega) (by omega),this,List.drop_eq_getElem_cons ha,List.all_cons];by_cases h:300 < (m0.subs[i].data.length:Int)
  ·rw [bP h,decide_eq_false (by omega)]; rfl
  ·rw [bN h,decide_eq_true (by omega),Bool.true_and]
theorem fx5 {m0:bD} {n:Nat} (h0:m0.list.length<=300) (h1:m0.subs.length<=60) (hn:1000<=n):∀ (d m i:Nat),i+d=m0.list.length->d < m->za n m m0 i=some (((m0.list.drop i).all (fun s=>decide (s.addr.length<=50)) && m0.subs.all fun s=>decide (s.data.length<=300),()),()):=by
 intro d
 induction d with
 | zero=>
  intro m i hd hm;obtain ⟨m,rfl⟩:∃ k,m=k+1:=⟨m - 1,by omega⟩;have:=fx4 (n:=n) h1 m0.subs.length n 0 (by omega) (by omega);rw [show ((0:Nat):Int)=0 from rfl,List.drop_zero] at this;rw [Vs,bN (by omega),List.drop_eq_nil_of_le (by omega),this]; rfl
 | succ d ih=>
  intro m i hd hm;obtain ⟨m,rfl⟩:∃ k,m=k+1:=⟨m - 1,by omega⟩;have ha:i < m0.list.length:=by omega
  have:=ih m (i+1) (by omega) (by omega);rw [show ((i+1:Nat):Int)=(i:Int)+1 by omega] at this;rw [Vs,bP (by omega),ab (by omega),Int.toNat_natCast,ck ha,bL (by omega) (by omega),this,List.drop_eq_getElem_cons ha,List.all_cons];by_cases h:50 < (m0.list[i].addr.length:Int)
  ·rw [bP h,decide_eq_false (by omega)]; rfl
  ·rw [bN h,decide_eq_true (by omega),Bool.true_and]
theorem fZ5 {m:bD} (g:Ap m):∃ b,Cu (m,())=some ((b,()),())/\(b=true->oD m):=by
 obtain ⟨g1,g2,g3,g4,g5,g6⟩:=g;show ∃ b,Hk fuel _=_/\_;rw [ew0,bL (by omega) (by omega),bL (by omega) (by omega),bL (by omega) (by omega)];by_cases c1:(300:Int) < m.list.length
 ·rw [bP c1]; exact ⟨_,rfl,by simp⟩
 by_cases c2:(60:Int) < m.subs.length
 ·rw [bN c1,bP c2]; exact ⟨_,rfl,by simp⟩
 by_cases c3:(200:Int) < m.aC.length+m.ah.length
 ·rw [bN c1,bN c2,bP c3]; exact ⟨_,rfl,by simp⟩
 by_cases c4:(200:Int) < m.next.length+m.id.length
 ·rw [bN c1,bN c2,bN c3,bP c4]; exact ⟨_,rfl,by simp⟩
 by_cases c5:(200:Int) < m.addr.length+m.aD.length
 ·rw [bN c1,bN c2,bN c3,bN c4,bP c5]; exact ⟨_,rfl,by simp⟩
 by_cases c6:(300:Int) < m.data.length
 ·rw [bN c1,bN c2,bN c3,bN c4,bN c5,bP c6]; exact ⟨_,rfl,by simp⟩
 have:=fx5 (m0:=m) (n:=fuel) (by omega) (by omega) (Nat.le_of_lt (cn (by omega))) m.list.length fuel 0 (by omega) (cn (by omega));rw [show ((0:Nat):Int)=0 from rfl,List.drop_zero] at this;rw [bN c1,bN c2,bN c3,bN c4,bN c5,bN c6,this];refine ⟨_,rfl,fun h=>?_⟩;simp only [Bool.and_eq_true,List.all_eq_true,decide_eq_true_eq] at h;exact ⟨by omega,by omega,by omega,by omega,by omega,by omega,h.1,h.2⟩
def dv (m:bD):Option bD:=
 if m.kind=1 then some ⟨m.kind,m.cmd,m.ver,m.aC,m.family,0,m.ah,m.af,m.tag,m.next,m.aj,[],0,0,0,0,0,0,0,[],[],[],0,[],[]⟩
 else if m.kind=2 then some ⟨m.kind,m.cmd,0,[],0,0,m.ah,m.af,m.tag,m.next,m.aj,[],0,0,0,0,0,0,0,[],[],[],0,[],[]⟩
 else if m.kind=3 then some ⟨m.kind,0,0,[],0,0,[],0,0,[],0,[],m.seq,m.seq2,0,m.flags,m.hops,m.aB,0,m.addr,m.aD,[],0,[],m.subs⟩
 else if m.kind=4 then some ⟨m.kind,0,0,[],0,0,[],m.af,0,[],0,[],m.seq,0,m.aw,m.flags,m.hops,0,0,m.addr,m.aD,[],0,[],m.subs⟩
 else if m.kind=5 then some ⟨m.kind,0,0,[],0,0,[],0,0,[],0,[],0,0,0,m.flags,0,0,0,[],[],m.list,0,[],m.subs⟩
 else if m.kind=6 then some ⟨m.kind,0,0,[],0,0,[],0,0,[],0,[],0,0,0,0,0,0,0,[],[],[],0,[],m.subs⟩
 else if m.kind=7 then some ⟨m.kind,0,0,[],0,0,[],0,0,[],0,[],0,0,m.aw,0,0,m.aB,0,[],[],[],0,[],m.subs⟩
 else if m.kind=8 then some ⟨m.kind,0,0,[],0,0,[],0,0,[],0,[],0,0,0,0,0,m.aB,0,[],[],[],0,[],m.subs⟩
 else if m.kind=9 then some ⟨m.kind,0,0,[],0,0,[],0,0,[],0,[],m.seq,0,m.aw,m.flags,0,0,0,[],[],[],0,[],m.subs⟩
 else if m.kind=10 then some ⟨m.kind,0,0,[],0,m.ae,[],0,0,[],0,[],0,0,m.aw,0,0,0,m.cost,m.addr,[],[],0,[],m.subs⟩
 else if m.kind=11 then some ⟨m.kind,0,0,[],0,m.ae,m.ah,m.af,0,m.next,m.aj,m.id,m.seq,0,m.aw,0,0,0,0,[],[],[],0,[],m.subs⟩
 else if m.kind=12 then some ⟨m.kind,0,0,[],0,m.ae,m.ah,m.af,0,[],0,[],0,0,0,0,0,0,0,[],[],[],0,[],m.subs⟩
 else if m.kind=13 then some ⟨m.kind,0,0,[],0,m.ae,m.ah,m.af,0,[],0,m.id,m.seq,0,0,0,m.hops,0,0,[],[],[],0,[],m.subs⟩
 else if m.kind=14 then some ⟨m.kind,0,0,[],0,0,[],0,0,[],0,[],0,0,0,0,0,0,0,[],[],[],m.aA,m.data,[]⟩
 else none
def cM (m:bD):Bool:=match dv m with | some x=>fB x m | none=>false
theorem bR {R:Type} {x y:Int} {f t r:R} (heq:x=y->t=r) (hne:x≠y->f=r):(if x==y then t else f)=r:=by
 by_cases h:x=y
 ·rw [ab (by simp [h])]; exact heq h
 ·rw [ac (by simp [h])]; exact hne h
theorem mC {m:bD} (h1:m.list.length<=1000000000) (h2:m.subs.length<=1000000000):jW (m,())=some ((cM m,()),()):=by
 have go:∀ x:bD,x.list.length<=1000000000->x.subs.length<=1000000000->dv m=some x->((gt (x,m,())).bind fun r1=>some ((r1.1.1,()),()))=some ((cM m,()),()):=by
  intro x h1 h2 hx;rw [RS h1 h2,cM,hx]; rfl
 rw [ei8]
 repeat refine bR (fun h=>go _ (by first | exact h1 | (show 0<=_; omega)) (by first | exact h2 | (show 0<=_; omega)) (by simp [dv, *])) (fun h=>?_)
 simp [cM,dv, *]
theorem g42 {A B C S:Bool} (h:S=(A && B && C)):(if A then (if B then (some ((C,()),()):Option ((Bool × Unit) × Unit)) else some ((false,()),())) else some ((false,()),()))=some ((S,()),()):=by
 subst h; cases A <;> cases B <;> rfl
theorem X3 {A B S:Bool} (h:S=(A && B)):(if A then (if B then (some ((true,()),()):Option ((Bool × Unit) × Unit)) else some ((false,()),())) else some ((false,()),()))=some ((S,()),()):=by
 subst h; cases A <;> cases B <;> rfl
theorem g44 {A S:Bool} (h:S=A):(if A then (some ((true,()),()):Option ((Bool × Unit) × Unit)) else some ((false,()),()))=some ((S,()),()):=by
 subst h; cases S <;> rfl
theorem Mb {α:Type} {a b:α}:fB a b=true↔b=a:=by rw [ma]; exact eq_comm
theorem tg {α:Type} (l:List α):((l.length:Int)=0)↔l=[]:=by cases l <;> simp; omega
theorem mD {m:bD}:jL (m,())=some ((cM m,()),()):=by
 obtain ⟨kind,cmd,ver,aC,family,ae,pre,af,tag,next,aj,id,seq,seq2,aw,flags,hops,aB,cost,addr,aD,list,typ,data,subs⟩:=m;rw [X5,eA1,aa];dsimp only
 repeat' first | (exfalso; omega) | refine bR (fun h=>?_) (fun h=>?_)
 all_goals first | refine g42 ?_ | refine X3 ?_ | refine g44 ?_ | skip
 all_goals (try (subst kind))
 all_goals rw [cM,dv]
 all_goals (try simp only [*,if_true,if_false])
 all_goals first | rfl | skip
 all_goals rw [Bool.eq_iff_iff]
 all_goals simp only [Mb,bE.mk.injEq,Bool.and_eq_true,beq_iff_eq,tg]
 all_goals (simp only [true_and,and_true,and_self]; first | done | (constructor <;> (intro h; simp only [h,and_self])))
end Go.VP
namespace Go.VP
open Go Go.VI
def mG (m:bD):Prop:=m.list.length<=1000000000/\m.subs.length<=1000000000
theorem fJ0 (x y:bD) (p q:List bD):(if !(fB x y) then (some ((false,()),()):Option ((Bool × Unit) × Unit)) else some ((fB p q,()),()))=some ((fB (x::p) (y::q),()),()):=by
 by_cases he:x=y
 ·subst he;rw [iA,b7];have:fB p q=fB (x::p) (x::q):=by simp [fB]
  rw [this]
 ·rw [ld he,cK,ld];intro e; injection e with e _; exact he e
theorem fo7 {a b:List bD} {n:Nat} (hab:a.length=b.length) (hl:a.length<=1000000) (hs:∀ m∈a,mG m):∀ (d m i:Nat),i+d=a.length->d < m->AX n m a b i=some ((fB (a.drop i) (b.drop i),()),()):=by
 intro d
 induction d with
 | zero=>
  intro m i hd hm;obtain ⟨m,rfl⟩:∃ k,m=k+1:=⟨m - 1,by omega⟩;rw [VH,bN (by omega),List.drop_eq_nil_of_le (by omega),List.drop_eq_nil_of_le (by omega),iA]
 | succ d ih=>
  intro m i hd hm;obtain ⟨m,rfl⟩:∃ k,m=k+1:=⟨m - 1,by omega⟩;have hi:i < a.length:=by omega
  have hib:i < b.length:=by omega
  have:=ih m (i+1) (by omega) (by omega);rw [show ((i+1:Nat):Int)=(i:Int)+1 by omega] at this;have hm':=hs _ (List.getElem_mem hi);have hp:0<=(i:Int):=by omega
  rw [VH,bP (by omega)];simp only [ab hp,Int.toNat_natCast,List.getElem?_eq_getElem hi,List.getElem?_eq_getElem hib,aa];rw [RS hm'.1 hm'.2,aa,bL (by omega) (by omega),this,List.drop_eq_getElem_cons hi,List.drop_eq_getElem_cons hib];exact fJ0 _ _ _ _
theorem YB {a b:List bD} (hl:a.length<=1000000) (hs:∀ m∈a,mG m):Ax (a,b,())=some ((fB a b,()),()):=by
 show B5 fuel (a,b,())=_;rw [ZQ];refine bZ (fun h=>?_) (fun h=>?_)
 ·rw [ld]; intro e; subst e; exact h rfl
 ·exact fo7 (n:=fuel) (by omega) hl hs a.length fuel 0 (by omega) (cn (by omega))
theorem fJ2 {a:List bD} (hl:a.length<=1000000) (hs:∀ m∈a,mG m):Ax (a,a,())=some ((true,()),()):=by
 rw [YB hl hs,iA]
theorem fJ3 {m:bD} (g:pt m):Ap m:=by
 obtain ⟨g1,g2,g3,g4,g5,g6,g7,g8,g9,g10,g11,g12,g13,g14,g15,g16,g17,g18,g19,g20,g21,_⟩:=g;exact ⟨g4,g7,g10,g12,g20,g21⟩
theorem fx6 {a:List bD} {n:Nat} (g:∀ m∈a,Ap m) (hl:a.length<=1000):∀ (d m i:Nat),i+d=a.length->d < m->∃ b,xK n m a i=some ((b,()),())/\(b=true->∀ m∈a.drop i,oD m):=by
 intro d
 induction d with
 | zero=>
  intro m i hd hm;obtain ⟨m,rfl⟩:∃ k,m=k+1:=⟨m - 1,by omega⟩;rw [J5,bN (by omega)];exact ⟨true,rfl,fun _ m hm=>by rw [List.drop_eq_nil_of_le (by omega)] at hm; cases hm⟩
 | succ d ih=>
  intro m i hd hm;obtain ⟨m,rfl⟩:∃ k,m=k+1:=⟨m - 1,by omega⟩;have hi:i < a.length:=by omega
  obtain ⟨b,h1,h2⟩:=ih m (i+1) (by omega) (by omega);rw [show ((i+1:Nat):Int)=(i:Int)+1 by omega] at h1;obtain ⟨c,k1,k2⟩:=fZ5 (g _ (List.getElem_mem hi));rw [J5,bP (by omega),ab (by omega),Int.toNat_natCast,ck hi,k1,aa,bL (by omega) (by omega),h1];cases c with
  | false=>exact ⟨false,rfl,fun h=>by cases h⟩
  | true=>
   refine ⟨b,rfl,fun h m hm=>?_⟩;rw [List.drop_eq_getElem_cons hi] at hm;rcases List.mem_cons.1 hm with rfl | hm
   ·exact k2 rfl
   ·exact h2 h m hm
theorem fT3 {a:List bD} {k:Int} (hk:k<=1000) (g:∀ m∈a,Ap m):∃ b,HY (a,k,())=some ((b,()),())/\(b=true->a.length<=k/\∀ m∈a,oD m):=by
 show ∃ b,Dz fuel (a,k,())=_/\_;rw [dN7];by_cases h:k < (a.length:Int)
 ·rw [bP h]; exact ⟨false,rfl,fun h=>by cases h⟩
 ·rw [bN h];obtain ⟨b,h1,h2⟩:=fx6 (n:=fuel) g (by omega) a.length fuel 0 (by omega) (cn (by omega));exact ⟨b,h1,fun hb=>⟨by omega,fun m hm=>h2 hb m (by simpa using hm)⟩⟩
end Go.VP
namespace Go.VP
open Go Go.VI
def ez:Bs:=[254,128,0,0,0,0,0,0]
def df (a:Bs):Bool:=decide (a.length=16) && (a.take 8==ez)
theorem fT4 (a p:Bs):Bt (a,p,())=some ((decide (p.length<=a.length) && (a.take p.length==p),()),()):=by
 rw [cU1,WF];by_cases h:p.length<=a.length
 ·rw [bP (by omega),ab (by omega),aa,Int.toNat_natCast,decide_eq_true h]; rfl
 ·rw [bN (by omega),aa,decide_eq_false h]; rfl
theorem t6 (a:Bs):lF (a,())=some ((df a,()),()):=by
 rw [ey6,fT4,aa];unfold df;by_cases h:a.length=16
 ·rw [ab (by simp; omega),decide_eq_true h];have:decide (([254,128,0,0,0,0,0,0]:Bs).length<=a.length)=true:=by simp; omega
  rw [this]; rfl
 ·rw [ac (by simp; omega),decide_eq_false h]; rfl
theorem pY (a:Bs):lL (a,())=some ((df a,()),()):=by
 rw [ej1,Ta];unfold df;by_cases h:a.length=16
 ·rw [ab (by simp; omega),ab (by omega),decide_eq_true h]; rfl
 ·rw [ac (by simp; omega),decide_eq_false h]; rfl
theorem jD {a:Bs} (h:df a=true):a.length=16/\a.take 8=ez:=by
 simpa [df] using h
def lw (a:Bs):Bs × Bool:=if df a=true then (a.drop 8,true) else ([],false)
theorem Pt (a:Bs):tZ (a,())=some (((lw a).1,(lw a).2,()),()):=by
 rw [el4,t6,aa];unfold lw;dsimp only;by_cases h:df a=true
 ·have:=jD h;rw [h,b7,ab (by omega),cQ]
 ·rw [Bool.not_eq_true] at h;rw [h,cK,cV]
theorem Zn (a:Bs):zk (a,())=some (((lw a).1,(lw a).2,()),()):=by
 rw [e45,pY,aa];unfold lw;dsimp only;by_cases h:df a=true
 ·have:=jD h;rw [h,b7,ab (by omega),cQ]
 ·rw [Bool.not_eq_true] at h;rw [h,cK,cV]
def fc (s:Bs):Bs × Bool:=if s.length=8 then (ez++s,true) else ([],false)
theorem sK (s:Bs):nS (s,())=some (((fc s).1,(fc s).2,()),()):=by
 rw [ez6];unfold fc;by_cases h:s.length=8
 ·rw [ac (by simp; omega),ab (bW (by omega)),ab h]; rfl
 ·rw [ab (by simp; omega),ac h]
theorem B0 (s:Bs):oz (s,())=some (((fc s).1,(fc s).2,()),()):=by
 rw [em1,Ta,aa];unfold fc;by_cases h:s.length=8
 ·rw [ac (by simp; omega)];have:bM ((([254,128,0,0,0,0,0,0]:Bs)).length+s.length)=true:=bW (by simp; omega);dsimp only;rw [ab this,ab h]; rfl
 ·rw [ab (by simp; omega),ac h]
def gV (a:Bs):Int:=if a.length=4 then 0 else if a.length=16 then 1 else -1
theorem TG (a:Bs):rb (a,())=some ((gV a,()),()):=by
 rw [e53];unfold gV;by_cases h:a.length=4
 ·rw [ab (by simp; omega),ab h]
 ·rw [ac (by simp; omega),ac h];by_cases h2:a.length=16
  ·rw [ab (by simp; omega),ab h2]
  ·rw [ac (by simp; omega),ac h2]
theorem Qm {s:Bs} (h:s.length=8):df (ez++s)=true:=by
 unfold df;have e:(ez++s).take 8=ez:=by rw [List.take_append_of_le_length (by decide)]; rfl
 rw [e];simp [ez,h]
theorem Ku {a:Bs} (h:df a=true):ez++a.drop 8=a:=by
 rw [<- (jD h).2,List.take_append_drop]
end Go.VP
namespace Go.VP
open Go Go.VI
def jc (b k:Nat):Nat:=b / 2 ^ (8 - k) * 2 ^ (8 - k)
def iq (b:UInt8) (k:Int):UInt8:=UInt8.ofNat (jc b.toNat (min k.toNat 8))
theorem fJ4 (b k:Nat):jc b k<=b:=Nat.div_mul_le_self ..
theorem oV (b:UInt8) (k:Int):(iq b k).toNat=jc b.toNat (min k.toNat 8):=by
 have:=fJ4 b.toNat (min k.toNat 8); have:=b.toNat_lt;unfold iq; rw [UInt8.toNat_ofNat']; omega
theorem Cm {b:UInt8} {k:Int} (h:8<=k):iq b k=b:=by
 apply UInt8.toNat.inj;rw [oV,show min k.toNat 8=8 by omega]; simp [jc]
theorem Du {b:UInt8} {k:Int} (h:k<=0):iq b k=0:=by
 apply UInt8.toNat.inj;have:=b.toNat_lt;rw [oV,show min k.toNat 8=0 by omega]; simp [jc]; omega
def cT:Bs->Int->Bs
 | [],_=>[]
 | b::r,n=>iq b n::cT r (n - 8)
theorem km:∀ (s:Bs) (n:Int),(cT s n).length=s.length
 | [],_=>rfl
 | b::r,n=>by simp [cT,km r]
theorem sH:∀ {s:Bs} {n:Int},8 * (s.length:Int)<=n->cT s n=s
 | [],_,_=>rfl
 | b::r,n,h=>by simp only [List.length_cons] at h; rw [cT,Cm (by omega),sH (by omega)]
theorem sk:∀ {s:Bs} {n:Int},n<=0->cT s n=List.replicate s.length 0
 | [],_,_=>rfl
 | b::r,n,h=>by rw [cT,Du h,sk (by omega),List.length_cons,List.replicate_succ]
theorem xb:∀ (a b:Bs) (n:Int),cT (a++b) n=cT a n++cT b (n - 8 * a.length)
 | [],b,n=>by simp [cT]
 | x::a,b,n=>by simp only [List.cons_append,cT,xb a b,List.length_cons]; congr 3; omega
theorem uK:∀ (s:Bs) (n:Int) (j:Nat) (h:j < s.length),(cT s n)[j]'(by rw [km]; exact h)=iq s[j] (n - 8 * j)
 | b::r,n,0,_=>by simp [cT]
 | b::r,n,j+1,h=>by
  have:=uK r (n - 8) j (by simpa using h);simp only [cT,List.getElem_cons_succ,this];congr 1; omega
theorem fx9 {s:Bs} {n:Int} (h0:0<=n) (h:n < 8 * s.length):cT s n=s.take (n / 8).toNat++iq (s[(n / 8).toNat]'(by omega)) (n % 8)::List.replicate (s.length - (n / 8).toNat - 1) 0:=by
 have hk:(n / 8).toNat < s.length:=by omega
 have e:s=s.take (n / 8).toNat++(s[(n / 8).toNat]::s.drop ((n / 8).toNat+1)):=by rw [<- List.drop_eq_getElem_cons hk,List.take_append_drop]
 have hl:(s.take (n / 8).toNat).length=(n / 8).toNat:=by rw [List.length_take]; omega
 have:=congrArg (fun x=>cT x n) e;rw [this,xb,hl,sH (by omega),cT,sk (by omega),List.length_drop];congr 3
 all_goals omega
theorem fo8:∀ y:Fin 256,∀ j:Fin 8,(bF (cB .andNot .u8 (y.val:Int) (cb .u8 255 (j.val:Int)))).toNat=jc y.val j.val:=by decide +kernel
theorem fy0 {n:Int} (h0:0<=n) (h:n<=9223372036854775807):cB .and .i64 n 7=n % 8:=by
 obtain ⟨a,rfl⟩:∃ a:Nat,n=a:=⟨n.toNat,by omega⟩;unfold cB;show IntKind.wrap .i64 (((BitVec.ofInt 64 (a:Int) &&& BitVec.ofInt 64 ((7:Nat):Int)).toNat:Nat):Int)=_;have e:a &&& 7=a % 8:=Nat.and_two_pow_sub_one_eq_mod a 3;rw [BitVec.toNat_and,BitVec.ofInt_natCast,BitVec.ofInt_natCast,BitVec.toNat_ofNat,BitVec.toNat_ofNat,Nat.mod_eq_of_lt (by omega),Nat.mod_eq_of_lt (by omega),e,bL (by omega) (by omega)];omega
theorem Fy {n:Int} (h0:0<=n):cb .i64 n 3=n / 8:=by
 unfold cb;rw [show ((2:Int) ^ min (3:Int).toNat IntKind.i64.bits)=8 by decide];exact Int.fdiv_eq_ediv_of_nonneg _ (by decide)
theorem nA {s:Bs} {n:Int} (hs:s.length<=1000000000) (hn:IntKind.has .i64 n):lc (s,n,())=some ((cT s n,()),()):=by
 rw [cx] at hn;rw [ey4,bL (x:=8 * (s.length:Int)) (by omega) (by omega)];by_cases h1:8 * (s.length:Int)<=n
 ·rw [bP h1,sH h1]
 ·rw [bN h1,ab (show 0<=(s.length:Int)/\(s.length:Int)<=dI by unfold dI; omega)];by_cases h2:n<=0
  ·rw [bP h2,sk h2,Int.toNat_natCast]
  ·rw [bN h2,Fy (by omega),fy0 (by omega) (by omega),uU (by omega) (by omega),ab (show 0<=n / 8/\n / 8<=(s.length:Int) by omega),ab (show 0<=n / 8 by omega)];have hk:(n / 8).toNat < s.length:=by omega
   have hl:((s.take (n / 8).toNat).take ((List.replicate (s.length:Int).toNat (0:UInt8)).length)++(List.replicate (s.length:Int).toNat (0:UInt8)).drop (s.take (n / 8).toNat).length).length=s.length:=by
    simp; omega
   rw [ck hk,ab (show 0<=n % 8 by omega),hl,ab (show 0<=n / 8/\n / 8 < (s.length:Int) by omega),ab hk,fx9 (by omega) (by omega)];have e1:bF (cB .andNot .u8 ((s[(n / 8).toNat].toNat:Nat):Int) (cb .u8 255 (n % 8)))=iq s[(n / 8).toNat] (n % 8):=by
    apply UInt8.toNat.inj;have:=fo8 ⟨s[(n / 8).toNat].toNat,s[(n / 8).toNat].toNat_lt⟩ ⟨(n % 8).toNat,by omega⟩;dsimp only at this;rw [show (((n % 8).toNat:Nat):Int)=n % 8 by omega] at this;rw [this,oV,show min (n % 8).toNat 8=(n % 8).toNat by omega]
   have e2:(s.take (n / 8).toNat).length=(n / 8).toNat:=by rw [List.length_take]; omega
   have e3:(s.take (n / 8).toNat).take ((List.replicate (s.length:Int).toNat (0:UInt8)).length)=s.take (n / 8).toNat:=List.take_of_length_le (by simp; omega);have e4:(List.replicate (s.length:Int).toNat (0:UInt8)).drop (n / 8).toNat=0::List.replicate (s.length - (n / 8).toNat - 1) 0:=by
    rw [List.drop_replicate,Int.toNat_natCast,show s.length - (n / 8).toNat=(s.length - (n / 8).toNat - 1)+1 by omega,List.replicate_succ];simp
   rw [e1,e3,e2,e4,List.set_append_right _ _ (by omega),e2,Nat.sub_self,List.set_cons_zero]
theorem fy1:∀ b:Fin 256,∀ r:Fin 8,jc b.val (r.val+1)=jc b.val r.val+b.val / 2 ^ (7 - r.val) % 2 * 2 ^ (7 - r.val):=by decide +kernel
theorem fT5:∀ r:Fin 8,cY .u8 1 (r.val:Int)=2 ^ r.val:=by decide +kernel
theorem fZ6 {s:Bs} {i:Nat} (hs:s.length<=1000000000) (h:i < 8 * s.length):yT (s,(i:Int),())=some ((decide ((s[i / 8]'(by omega)).toNat / 2 ^ (7 - i % 8) % 2=1),()),()):=by
 have hk:i / 8 < s.length:=by omega
 have e1:Int.tdiv (i:Int) 8=((i / 8:Nat):Int):=by rw [Int.tdiv_eq_ediv_of_nonneg (by omega)]; omega
 have e2:Int.tmod (i:Int) 8=((i % 8:Nat):Int):=by rw [Int.tmod_eq_emod_of_nonneg (by omega)]; omega
 rw [ew2,bP (by omega),bL (x:=8 * (s.length:Int)) (by omega) (by omega),bP (by omega),e1,e2,bL (x:=((i / 8:Nat):Int)) (by omega) (by omega),ab (by omega),Int.toNat_natCast,ck hk,bL (x:=7 - ((i % 8:Nat):Int)) (by omega) (by omega),uU (by omega) (by omega),ab (by omega),eO];have e3:cb .i64 ((s[i / 8].toNat:Nat):Int) (7 - ((i % 8:Nat):Int))=((s[i / 8].toNat / 2 ^ (7 - i % 8):Nat):Int):=by
  unfold cb;rw [show min (7 - ((i % 8:Nat):Int)).toNat IntKind.i64.bits=7 - i % 8 by simp only [IntKind.bits]; omega,Int.fdiv_eq_ediv_of_nonneg _ (Int.pow_nonneg (by decide))];simp
 rw [e3];have e4:∀ m:Nat,(Int.tmod (m:Int) 2==1)=decide (m % 2=1):=fun m=>by
  rw [Int.tmod_eq_emod_of_nonneg (by omega),Bool.eq_iff_iff]; simp; omega
 rw [e4]
theorem fp0 {s:Bs} {i:Nat} (h:i < 8 * s.length):cT s (i+1:Nat)=(if (s[i / 8]'(by omega)).toNat / 2 ^ (7 - i % 8) % 2=1 then (cT s i).set (i / 8) (UInt8.ofNat (((cT s i)[i / 8]'(by rw [km]; omega)).toNat+2 ^ (7 - i % 8))) else cT s i):=by
 have hk:i / 8 < s.length:=by omega
 have far:∀ j (hj:j < s.length),j≠i / 8->iq (s[j]'hj) (((i+1:Nat):Int) - 8 * j)=iq (s[j]'hj) ((i:Int) - 8 * j):=by
  intro j hj hne;by_cases hlt:j < i / 8
  ·rw [Cm (by omega),Cm (by omega)]
  ·rw [Du (by omega),Du (by omega)]
 have st:=fy1 ⟨s[i / 8].toNat,s[i / 8].toNat_lt⟩ ⟨i % 8,by omega⟩;dsimp only at st;have m1:(iq s[i / 8] (((i+1:Nat):Int) - 8 * ((i / 8:Nat):Int))).toNat=jc s[i / 8].toNat (i % 8+1):=by rw [oV]; congr 1; omega
 have m0:(iq s[i / 8] ((i:Int) - 8 * ((i / 8:Nat):Int))).toNat=jc s[i / 8].toNat (i % 8):=by rw [oV]; congr 1; omega
 apply List.ext_getElem
 ·split <;> simp [km]
 ·intro j h1 h2;have hj:j < s.length:=by rw [km] at h1; exact h1
  rw [uK s _ j hj];split
  ·rename_i hb;rw [List.getElem_set];split
   ·rename_i he;subst he;apply UInt8.toNat.inj;have lt:=(iq s[i / 8] (((i+1:Nat):Int) - 8 * ((i / 8:Nat):Int))).toNat_lt;rw [m1] at lt;rw [m1,uK s _ _ hk,m0,UInt8.toNat_ofNat',st,hb,Nat.one_mul];rw [st,hb,Nat.one_mul] at lt;exact (Nat.mod_eq_of_lt lt).symm
   ·rw [uK s _ j hj]; exact far j hj (by omega)
  ·rename_i hb;rw [uK s _ j hj];by_cases he:j=i / 8
   ·subst he;apply UInt8.toNat.inj;have:s[i / 8].toNat / 2 ^ (7 - i % 8) % 2=0:=by omega
    rw [m1,m0,st,this]; simp
   ·exact far j hj he
theorem fp1 {s:Bs} {n:Int} {c:Nat} (hs:s.length<=1000000000):∀ (d m i:Nat),8 * s.length - i=d->i<=8 * s.length->(i:Int)<=n->d < m->tv c m s n i (cT s i)=some ((cT s n,()),()):=by
 intro d
 induction d with
 | zero=>
  intro m i hd hi hn hm;obtain ⟨m,rfl⟩:∃ k,m=k+1:=⟨m - 1,by omega⟩;rw [GO,bL (x:=8 * (s.length:Int)) (by omega) (by omega),bN (by omega),sH (by omega),sH (by omega)]
 | succ d ih=>
  intro m i hd hi hn hm;obtain ⟨m,rfl⟩:∃ k,m=k+1:=⟨m - 1,by omega⟩;rw [GO,bL (x:=8 * (s.length:Int)) (by omega) (by omega),bP (by omega)];by_cases h:(i:Int) < n
  ·have hi':i < 8 * s.length:=by omega
   have e1:Int.tdiv (i:Int) 8=((i / 8:Nat):Int):=by rw [Int.tdiv_eq_ediv_of_nonneg (by omega)]; omega
   have e2:Int.tmod (i:Int) 8=((i % 8:Nat):Int):=by rw [Int.tmod_eq_emod_of_nonneg (by omega)]; omega
   have next:=ih m (i+1) (by omega) (by omega) (by omega) (by omega);rw [fp0 hi',show ((i+1:Nat):Int)=(i:Int)+1 by omega] at next;rw [bP h,fZ6 hs hi',aa,e1,e2,bL (x:=((i / 8:Nat):Int)) (by omega) (by omega),bL (x:=7 - ((i % 8:Nat):Int)) (by omega) (by omega),uU (by omega) (by omega),bL (x:=(i:Int)+1) (by omega) (by omega),Int.toNat_natCast,km];dsimp only;by_cases hb:(s[i / 8]'(by omega)).toNat / 2 ^ (7 - i % 8) % 2=1
   ·rw [ab hb] at next;have hk:i / 8 < (cT s i).length:=by rw [km]; omega
    rw [bP hb,ab (by omega),ck hk,ab (by omega),ab (by omega),ab (by omega)];have e5:bF (IntKind.wrap .u8 ((((cT s i)[i / 8]).toNat:Int)+cY .u8 1 (7 - ((i % 8:Nat):Int))))=UInt8.ofNat (((cT s i)[i / 8]).toNat+2 ^ (7 - i % 8)):=by
     have:=fT5 ⟨7 - i % 8,by omega⟩;dsimp only at this;rw [show ((7 - i % 8:Nat):Int)=7 - ((i % 8:Nat):Int) by omega] at this;rw [this,f8];apply UInt8.toNat.inj;have h1:=fD ((((cT s i)[i / 8]).toNat:Int)+2 ^ (7 - i % 8));rw [lm (by have:(0:Int)<=2 ^ (7 - i % 8):=Int.pow_nonneg (by decide); omega)];have:((((cT s i)[i / 8]).toNat:Int)+2 ^ (7 - i % 8))=(((((cT s i)[i / 8]).toNat+2 ^ (7 - i % 8):Nat)):Int):=by simp
     rw [this];unfold bF;rw [Int.toNat_natCast]
    rw [e5];exact next
   ·rw [ac hb] at next;rw [bN hb];exact next
  ·have:n=i:=by omega
   rw [bN h,this]
theorem p7 {s:Bs} {n:Int} (hs:s.length<=1000000000):nB (s,n,())=some ((cT s n,()),()):=by
 show Eu fuel _=_;rw [ei9,ab (by unfold dI; omega),Int.toNat_natCast];by_cases h:0<=n
 ·have:=fp1 (n:=n) (c:=fuel) hs (8 * s.length) fuel 0 (by omega) (by omega) (by omega) (cn (by omega));rw [sk (n:=((0:Nat):Int)) (by omega)] at this;exact this
 ·obtain ⟨c,hc⟩:=xq;have:fuel=(c+999999999999)+1:=by omega
  rw [sk (by omega),this,GO,bL (x:=8 * (s.length:Int)) (by omega) (by omega),bN (show ¬(0:Int) < n by omega)];split <;> rfl
def fN (s:Bs) (n:Int):Bool:=cT s n==s
theorem D2 {s:Bs} {n:Int} (hs:s.length<=1000000000) (hn:IntKind.has .i64 n):ru (s,n,())=some ((fN s n,()),()):=by
 rw [ek3,nA hs hn]; rfl
theorem Wa {s:Bs} {n:Int} (hs:s.length<=1000000000):tB (s,n,())=some ((fN s n,()),()):=by
 rw [e29,p7 hs]; rfl
def cJ (n:Int):Int:=if n < 0 then 0 else (n+7) / 8
theorem JY {n:Int} (h:n<=9000000000000000000):sZ (n,())=some ((cJ n,()),()):=by
 rw [dP1];unfold cJ;by_cases h0:n < 0
 ·rw [ab (show 0 > n from h0),ab h0]; rfl
 ·rw [ac (show ¬0 > n from h0),ac h0,bL (by omega) (by omega),Fy (by omega)]
theorem wT {n:Int} (h:n<=9000000000000000000):oq (n,())=some ((cJ n,()),()):=by
 rw [e46];unfold cJ;by_cases h0:n < 0
 ·rw [bP h0,ab h0]
 ·rw [bN h0,ac h0,bL (x:=n+7) (by omega) (by omega),Int.tdiv_eq_ediv_of_nonneg (by omega),bL (by omega) (by omega)]
def fE (s:Bs) (n:Int):Bs:=s++List.replicate (n.toNat - s.length) 0
theorem vf {s:Bs} {n:Int} (h:n<=1000000000):my (s,n,())=some ((fE s n,()),()):=by
 rw [YT];unfold fE;by_cases h0:n<=(s.length:Int)
 ·rw [bP h0,show n.toNat - s.length=0 by omega]; simp
 ·rw [bN h0,ab (by unfold dI; omega),List.length_replicate,List.take_of_length_le (by omega),List.drop_replicate]
theorem ZI {n:Int} {c:Nat} (h:n<=1000000000):∀ (d m:Nat) (s:Bs),n.toNat - s.length=d->d < m->AZ c m n s=some ((fE s n,()),()):=by
 intro d
 induction d with
 | zero=>
  intro m s hd hm;obtain ⟨m,rfl⟩:∃ k,m=k+1:=⟨m - 1,by omega⟩;rw [TU,bN (by omega),fE,hd]; simp
 | succ d ih=>
  intro m s hd hm;obtain ⟨m,rfl⟩:∃ k,m=k+1:=⟨m - 1,by omega⟩;rw [TU,bP (by omega),ab (bW (by omega)),ih m (s++[0]) (by simp; omega) (by omega),fE,fE,hd];have:n.toNat - (s++[0]).length=d:=by simp; omega
  rw [this,List.replicate_succ];simp
theorem Ci {s:Bs} {n:Int} (h:n<=1000000000):uT (s,n,())=some ((fE s n,()),()):=by
 show CP fuel _=_;rw [em3];exact ZI (c:=fuel) h _ fuel s rfl (cn (by omega))
def kz (a:Bs) (n:Int):Bs:=cT (a.take (cJ n).toNat) n
theorem H5 (n:Int):0<=cJ n:=by unfold cJ; split <;> omega
theorem RU (a:Bs) (n:Int) (h:0<=n):0<=(if (a.length:Int) < n then (a.length:Int) else n)/\(if (a.length:Int) < n then (a.length:Int) else n)<=(a.length:Int)/\a.take (if (a.length:Int) < n then (a.length:Int) else n).toNat=a.take n.toNat:=by
 split
 ·refine ⟨by omega,by omega,?_⟩;rw [Int.toNat_natCast,List.take_length,List.take_of_length_le (by omega)]
 ·exact ⟨by omega,by omega,rfl⟩
theorem LU {a:Bs} {n:Int} (ha:a.length<=1000000000) (hn:IntKind.has .i64 n) (h:n<=9000000000000000000):qu (a,n,())=some ((kz a n,()),()):=by
 obtain ⟨m1,m2,m3⟩:=RU a (cJ n) (H5 n);rw [el3,JY h,aa];dsimp only;rw [ab ⟨m1,m2⟩,m3,nA (by rw [List.length_take]; omega) hn]; rfl
theorem Tk (a:Bs) (n:Int):∀ k:Nat,(cT a n).take k=cT (a.take k) n:=by
 intro k
 induction a generalizing n k with
 | nil=>simp [cT]
 | cons b r ih=>
  cases k with
  | zero=>simp [cT]
  | succ k=>simp [cT,ih]
theorem Qz {a:Bs} {n:Int} (ha:a.length<=1000000000) (h:n<=9000000000000000000):wm (a,n,())=some ((kz a n,()),()):=by
 obtain ⟨m1,m2,m3⟩:=RU a (cJ n) (H5 n);rw [ex6,p7 ha,aa,wT h,aa];dsimp only;rw [ab (by rw [km]; exact ⟨m1,m2⟩),Tk,m3]; rfl
end Go.VP
namespace Go.VP
open Go Go.VI
def jH (ae:Int) (a:Bs):Bool:=if ae=0 then a==[] else if ae=1 then decide (a.length=4) else if ae=2 then decide (a.length=16) else if ae=3 then df a else false
theorem fT6 (ae:Int) (a:Bs):vp (ae,a,())=some ((jH ae a,()),()):=by
 rw [dG9,TG,t6];unfold jH;refine bR (fun h=>?_) (fun h=>?_)
 ·rw [ab h]
 rw [ac h];refine bR (fun h=>?_) (fun h=>?_)
 ·rw [ab h,aa];unfold gV; split
  ·simp [*]
  ·split <;> simp [*]
 rw [ac h];refine bR (fun h=>?_) (fun h=>?_)
 ·rw [ab h,aa];unfold gV; split
  ·simp [*]
  ·split <;> simp [*]
 rw [ac h];refine bR (fun h=>?_) (fun h=>?_)
 ·rw [ab h,aa]
 rw [ac h]
theorem fJ5 (ae:Int) (a:Bs):uh (ae,a,())=some ((jH ae a,()),()):=by
 rw [ej4,pY];unfold jH;refine bR (fun h=>?_) (fun h=>?_)
 ·rw [ab h]
 rw [ac h];refine bR (fun h=>?_) (fun h=>?_)
 ·rw [ab h];have:((a.length:Int)==4)=decide (a.length=4):=by rw [Bool.eq_iff_iff]; simp; omega
  rw [this]
 rw [ac h];refine bR (fun h=>?_) (fun h=>?_)
 ·rw [ab h];have:((a.length:Int)==16)=decide (a.length=16):=by rw [Bool.eq_iff_iff]; simp; omega
  rw [this]
 rw [ac h];refine bR (fun h=>?_) (fun h=>?_)
 ·rw [ab h,aa]
 rw [ac h]
def ow (m:bD):Bool:=if m.kind=7 then true else if m.kind=8 then true else if m.kind=9 then (m.flags==0 || m.flags==1) else if m.kind=10 then jH m.ae m.addr else false
def gY (m:bD):Bool:=b6 m.aB 2 && (b6 m.aw 2 && (b6 m.seq 2 && (b6 m.cost 2 && (cM m && (fa m.subs && ow m)))))
structure io (m:bD):Prop where
 few:sS m
 aB:IntKind.has .i64 m.aB
 aw:IntKind.has .i64 m.aw
 seq:IntKind.has .i64 m.seq
 cost:IntKind.has .i64 m.cost
 kind:IntKind.has .i64 m.kind
 flags:IntKind.has .i64 m.flags
 ae:IntKind.has .i64 m.ae
 af:IntKind.has .i64 m.af
 hops:IntKind.has .i64 m.hops
theorem Sx {m:bD} {c:Option ((Bool × Unit) × Unit)} (hc:c=some ((jH m.ae m.addr,()),())) :
 (if m.kind==7 then (if m.kind==7 then some ((true,()),()) else (if m.kind==9 then (if m.flags==0 then some ((true,()),()) else some (((m.flags==1),()),())) else (if m.kind==10 then (c.bind fun r5=>some ((r5.1.1,()),())) else some ((false,()),())))) else (if m.kind==8 then some ((true,()),()) else (if m.kind==9 then (if m.flags==0 then some ((true,()),()) else some (((m.flags==1),()),())) else (if m.kind==10 then (c.bind fun r6=>some ((r6.1.1,()),())) else some ((false,()),())))))=some ((ow m,()),()):=by
 subst hc;unfold ow;refine bR (fun h=>?_) (fun h=>?_)
 ·rw [ab h,ab (by simp [h])]
 rw [ac h];refine bR (fun h=>?_) (fun h=>?_)
 ·rw [ab h]
 rw [ac h];refine bR (fun h=>?_) (fun h=>?_)
 ·rw [ab h];refine bR (fun h2=>?_) (fun h2=>?_)
  ·simp [h2]
  ·have:(m.flags==0)=false:=by simpa using h2
   rw [this,Bool.false_or]
 rw [ac h];refine bR (fun h=>?_) (fun h=>?_)
 ·rw [ab h,aa]
 rw [ac h]
theorem WP {m:bD} (g:io m):vj (m,())=some ((gY m,()),()):=by
 have f2:∀ {n:Int},IntKind.has .i64 n->dp (n,2,())=some ((b6 n 2,()),()):=fun h=>ip (k:=2) h (by omega) (by omega)
 obtain ⟨c,hc⟩:=xq;show JE fuel _=_;rw [e55,show ([m.aB,m.aw,m.seq,m.cost]:List Int).length=4 from rfl];have e0:fuel=(c+999999999995)+5:=by omega
 have st:∀ (k:Nat) (i:Nat) (x:Int),[m.aB,m.aw,m.seq,m.cost][i]?=some x->i < 4->IntKind.has .i64 x->pR fuel (k+1) m [m.aB,m.aw,m.seq,m.cost] ((4:Nat):Int) i=(if !b6 x 2 then some ((false,()),()) else pR fuel k m [m.aB,m.aw,m.seq,m.cost] ((4:Nat):Int) ((i+1:Nat):Int)):=by
  intro k i x hx hi hh;rw [PK,bP (by omega),ab (by omega),Int.toNat_natCast,hx,aa,f2 hh,aa,bL (by omega) (by omega)]
  rfl
 have last:∀ k,pR fuel (k+1) m [m.aB,m.aw,m.seq,m.cost] ((4:Nat):Int) ((4:Nat):Int)=some ((cM m && (fa m.subs && ow m),()),()):=by
  intro k;rw [PK,bN (by omega),mD,aa,wS g.few.fewS,aa];dsimp only;rw [Sx (fT6 _ _)];cases cM m
  ·rfl
  ·cases fa m.subs <;> rfl
 have:=st (c+999999999999) 0 m.aB rfl (by omega) g.aB;rw [show c+999999999999+1=fuel by omega] at this;rw [show (0:Int)=((0:Nat):Int) from rfl,this];have:=st (c+999999999998) 1 m.aw rfl (by omega) g.aw;rw [this];have:=st (c+999999999997) 2 m.seq rfl (by omega) g.seq;rw [this];have:=st (c+999999999996) 3 m.cost rfl (by omega) g.cost;rw [this];have:=last (c+999999999995);rw [this];unfold gY;cases b6 m.aB 2
 ·rfl
 ·cases b6 m.aw 2
  ·rfl
  ·cases b6 m.seq 2
   ·rfl
   ·cases b6 m.cost 2 <;> rfl
theorem XR (n:Int):oU (n,())=some ((b6 n 2,()),()):=by
 have:=rC (n:=n) (k:=2) (by omega) (by omega);rw [ew3,show (2:Int)=((2:Nat):Int) from rfl,this]; rfl
theorem My {m:bD} (g:io m):tc (m,())=some ((gY m,()),()):=by
 have:=g.few.list; have:=g.few.subs;rw [e40,mC (by omega) (by omega),aa,Bg g.few.fewS,aa];simp only [XR,aa];rw [Sx (fJ5 _ _)];unfold gY;cases cM m
 ·simp
 ·cases fa m.subs
  ·simp
  ·cases b6 m.aB 2
   ·rfl
   ·cases b6 m.aw 2
    ·rfl
    ·cases b6 m.seq 2
     ·rfl
     ·cases b6 m.cost 2 <;> rfl
def dx (m:bD):Bs:=
 if m.kind=7 then be 2 0++(be 2 m.aB++be 2 m.aw)
 else if m.kind=8 then be 2 m.aB
 else if m.kind=9 then be 2 (32768 * m.flags)++(be 2 m.seq++be 2 m.aw)
 else be 2 (256 * m.ae)++(be 2 m.cost++(be 2 m.aw++(if m.ae=3 then m.addr.drop 8 else m.addr)))
def iJ (m:bD):Bs × Bool:=if gY m=true then eF (m.kind - 5) (dx m++bX m.subs) else ([],false)
theorem qv {n:Int} (h:0<=n/\n < 65536):[bF (IntKind.wrap .u8 (cb .i64 n 8)),bF (IntKind.wrap .u8 n)]=be 2 n:=by
 have e:cb .i64 n 8=n / 256:=by
  unfold cb;rw [show ((2:Int) ^ min (8:Int).toNat IntKind.i64.bits)=256 by decide];exact Int.fdiv_eq_ediv_of_nonneg _ (by decide)
 rw [e,f8,f8]; rfl
theorem Zg {l:List Int} {n:Nat} (hl:l.length<=10) (hr:∀ x∈l,0<=x/\x < 65536):∀ (d m i:Nat) (b:Bs),i+d=l.length->d < m->b.length<=1000+2 * i->
  BP n m l i b=some ((),(⟨b++(l.drop i).flatMap (be 2)⟩,())):=by
 intro d
 induction d with
 | zero=>
  intro m i b hd hm hb;obtain ⟨m,rfl⟩:∃ k,m=k+1:=⟨m - 1,by omega⟩;rw [S3,bN (by omega),List.drop_eq_nil_of_le (by omega)];simp
 | succ d ih=>
  intro m i b hd hm hb;obtain ⟨m,rfl⟩:∃ k,m=k+1:=⟨m - 1,by omega⟩;have hi:i < l.length:=by omega
  have:=ih m (i+1) (b++be 2 l[i]) (by omega) (by omega) (by simp [cm]; omega);rw [show ((i+1:Nat):Int)=(i:Int)+1 by omega] at this;rw [S3,bP (by omega),ab (by omega),Int.toNat_natCast,ck hi,ab (d7 (by simp; omega)),qv (hr _ (List.getElem_mem hi)),bL (by omega) (by omega),this,List.drop_eq_getElem_cons hi];simp only [List.flatMap_cons,List.append_assoc]
theorem wa {l:List Int} {b:Bs} (hl:l.length<=10) (hr:∀ x∈l,0<=x/\x < 65536) (hb:b.length<=1000):qc (⟨b⟩,l,())=some ((),(⟨b++l.flatMap (be 2)⟩,())):=by
 show Dv fuel _=_;rw [d64];exact Zg (n:=fuel) hl hr l.length fuel 0 b (by omega) (cn (by omega)) (by omega)
structure ir (m:bD):Prop where
 aB:0<=m.aB/\m.aB < 65536
 aw:0<=m.aw/\m.aw < 65536
 seq:0<=m.seq/\m.seq < 65536
 cost:0<=m.cost/\m.cost < 65536
 bare:cM m=true
 subs:fa m.subs=true
 kind:ow m=true
theorem lh {n:Int}:b6 n 2=true↔0<=n/\n < 65536:=by simp [b6]
theorem ju {m:bD}:gY m=true↔ir m:=by
 unfold gY;simp only [Bool.and_eq_true,lh];exact ⟨fun ⟨a,b,c,d,e,f,g⟩=>⟨a,b,c,d,e,f,g⟩,fun h=>⟨h.1,h.2,h.3,h.4,h.5,h.6,h.7⟩⟩
theorem ir.kinds {m:bD} (h:ir m):m.kind=7\/m.kind=8\/(m.kind=9/\(m.flags=0\/m.flags=1))\/(m.kind=10/\jH m.ae m.addr=true):=by
 have:=h.kind;unfold ow at this;split at this
 ·omega
 ·split at this
  ·omega
  ·split at this
   ·simp at this; exact .inr (.inr (.inl ⟨by assumption,this⟩))
   ·split at this
    ·exact .inr (.inr (.inr ⟨by assumption,this⟩))
    ·cases this
theorem Ar {ae:Int} {a:Bs} (h:jH ae a=true):(ae=0/\a=[])\/(ae=1/\a.length=4)\/(ae=2/\a.length=16)\/(ae=3/\df a=true):=by
 unfold jH at h;split at h
 ·simp at h; exact .inl ⟨by assumption,h⟩
 ·split at h
  ·simp at h; exact .inr (.inl ⟨by assumption,h⟩)
  ·split at h
   ·simp at h; exact .inr (.inr (.inl ⟨by assumption,h⟩))
   ·split at h
    ·exact .inr (.inr (.inr ⟨by assumption,h⟩))
    ·cases h
theorem CS {x:Int} {k:Nat} (hx:0<=x/\x < 65536) (hk:k<=15):cY .i64 x k=2 ^ k * x:=by
 unfold cY;rw [Int.mul_comm];have e:min (k:Int).toNat IntKind.i64.bits=k:=by simp only [IntKind.bits]; omega
 rw [e];have hp:(2:Int) ^ k<=32768/\1<=(2:Int) ^ k:=by
  match k,hk with
  | 0,_ | 1,_ | 2,_ | 3,_ | 4,_ | 5,_ | 6,_ | 7,_ | 8,_ | 9,_ | 10,_ | 11,_ | 12,_ | 13,_ | 14,_ | 15,_=>decide
 have h1:x * 2 ^ k<=65536 * 32768:=Int.mul_le_mul (by omega) hp.1 (by omega) (by omega);have h0:0<=x * 2 ^ k:=Int.mul_nonneg hx.1 (by omega);rw [bL (by omega) (by omega),Int.mul_comm]
theorem qB {l:List cj} (h:fa l=true):nK l=(bX l,true):=by unfold nK; rw [ab h]
theorem mm {l:List cj} (h:fa l=true):(bX l).length<=200:=by
 have:=(nZ h).2; have:=qH l; omega
theorem fZ7 {m:bD} (g:io m):uC (m,())=some (((iJ m).1,(iJ m).2,()),()):=by
 rw [ez5,WP g,aa];unfold iJ;dsimp only;by_cases h:gY m=true
 ·have r:=ju.1 h;have hs:=Fr g.few.fewS (by have:=g.few.subs; omega);rw [qB r.subs] at hs;have hz:=mm r.subs;rw [ac (by simp [h]),ab h,hs];simp only [aa];rcases r.kinds with hk | hk | ⟨hk,hf⟩ | ⟨hk,ha⟩
  ·rw [ab (by simp [hk]),wa (by simp) (by have:=r.aB; have:=r.aw; simp; omega) (by simp),aa];dsimp only;rw [ab (bW (by simp [cm]; omega)),lP,bL (x:=m.kind - 7) (by omega) (by omega),bL (by omega) (by omega)];simp [dx,hk]
  ·rw [ac (by simp [hk]),ab (by simp [hk]),wa (by simp) (by have:=r.aB; simp; omega) (by simp),aa];dsimp only;rw [ab (bW (by simp [cm]; omega)),lP,bL (x:=m.kind - 7) (by omega) (by omega),bL (by omega) (by omega)];simp [dx,hk]
  ·rw [ac (by simp [hk]),ac (by simp [hk]),ab (by simp [hk]),show (15:Int)=((15:Nat):Int) from rfl,CS (by omega) (by omega),wa (by simp) (by have:=r.seq; have:=r.aw; simp; omega) (by simp),aa];dsimp only;rw [ab (bW (by simp [cm]; omega)),lP,bL (x:=m.kind - 7) (by omega) (by omega),bL (by omega) (by omega)];simp [dx,hk]
  ·have hc:=Ar ha;have hl:m.addr.length<=16:=by rcases hc with ⟨_,h⟩ | ⟨_,h⟩ | ⟨_,h⟩ | ⟨_,h⟩ <;> first | (rw [h]; simp; done) | omega | (have:=jD h; omega)
   rw [ac (by simp [hk]),ac (by simp [hk]),ac (by simp [hk]),ab (by simp [hk]),show (8:Int)=((8:Nat):Int) from rfl,CS (by omega) (by omega),wa (by simp) (by have:=r.cost; have:=r.aw; simp; omega) (by simp),aa,Pt,aa];dsimp only;have fin:∀ a:Bs,a.length<=16->dx m=be 2 (256 * m.ae)++(be 2 m.cost++(be 2 m.aw++a))->(if cE (([]++[2 ^ 8 * m.ae,m.cost,m.aw].flatMap (be 2)).length+a.length)=true then (if bM ((([]++[2 ^ 8 * m.ae,m.cost,m.aw].flatMap (be 2))++a).length+(bX m.subs).length)=true then ((gv ((IntKind.wrap .i64 ((IntKind.wrap .i64 (m.kind - 7))+2)),((([]++[2 ^ 8 * m.ae,m.cost,m.aw].flatMap (be 2))++a)++bX m.subs),())).bind fun r14=>some ((r14.1.1,r14.1.2.1,()),())) else none) else none)=some (((eF (m.kind - 5) (dx m++bX m.subs)).1,(eF (m.kind - 5) (dx m++bX m.subs)).2,()),()):=by
    intro a ha he;rw [ab (d7 (by simp [cm]; omega)),ab (bW (by simp [cm]; omega)),lP,bL (x:=m.kind - 7) (by omega) (by omega),bL (by omega) (by omega),he];simp [hk]
   unfold lw;by_cases hb:df m.addr=true
   ·rw [hb,cQ,cQ];dsimp only;refine bR (fun h3=>?_) (fun h3=>?_)
    ·exact fin _ (by simp; omega) (by simp [dx,hk,h3])
    ·exact fin _ hl (by simp [dx,hk,h3])
   ·have h3:m.ae≠3:=fun h3=>by rcases hc with ⟨h,_⟩ | ⟨h,_⟩ | ⟨h,_⟩ | ⟨_,h⟩ <;> first | omega | exact hb h
    rw [Bool.not_eq_true] at hb;rw [hb,cV,cV];exact fin _ hl (by simp [dx,hk,h3])
 ·rw [Bool.not_eq_true] at h;rw [h,cK,cV]
theorem EW {n:Int} {k:Nat} (h:b6 n k=true):(eJ n k).1=be k n:=by unfold eJ; rw [ab h]
theorem py {n:Int} (h:0<=n/\n < 65536):dK (n,2,())=some ((be 2 n,()),()):=by
 have:=nX (n:=n) (k:=2) (cx.2 ⟨by omega,by omega⟩) (by omega) (by omega);rw [EW (lh.2 h)] at this;exact this
theorem g53 {n:Int} (h:0<=n/\n < 256):dK (n,1,())=some ((be 1 n,()),()):=by
 have:=nX (n:=n) (k:=1) (cx.2 ⟨by omega,by omega⟩) (by omega) (by omega);rw [EW (by simp [b6]; omega)] at this;exact this
theorem XJ {n:Int} (h:0<=n/\n < 256):be 2 (256 * n)=be 1 n++[0]:=by
 show ([]++[bF ((256 * n / 256) % 256)])++[bF ((256 * n) % 256)]=([]++[bF (n % 256)])++[0];rw [show 256 * n / 256=n by omega,show 256 * n % 256=0 by omega]; rfl
theorem fp3 {m:bD} (r:ir m) (hl:m.addr.length<=400):xn (m,())=some ((m.kind - 5,dx m,()),()):=by
 rw [dO5,py r.aw,aa];dsimp only;rcases r.kinds with hk | hk | ⟨hk,hf⟩ | ⟨hk,ha⟩
 ·rw [ab (by simp [hk]),py r.aB,aa,ab (bW (by simp [cm])),ab (bW (by simp [cm]))];simp [dx,hk]; rfl
 ·rw [ac (by simp [hk]),ab (by simp [hk]),py r.aB,aa];simp [dx,hk]
 ·rw [ac (by simp [hk]),ac (by simp [hk]),ab (by simp [hk]),bL (by omega) (by omega),py (by omega),aa,py r.seq,aa,ab (bW (by simp [cm])),ab (bW (by simp [cm]))];simp [dx,hk]
 ·have hc:=Ar ha;have hae:0<=m.ae/\m.ae < 256:=by rcases hc with ⟨h,_⟩ | ⟨h,_⟩ | ⟨h,_⟩ | ⟨h,_⟩ <;> omega
  have hd:(m.addr.drop 8).length<=400:=by simp; omega
  rw [ac (by simp [hk]),ac (by simp [hk]),ac (by simp [hk]),g53 hae,py r.cost,Zn];simp only [aa];by_cases h3:m.ae=3
  ·have hb:df m.addr=true:=by rcases hc with ⟨h,_⟩ | ⟨h,_⟩ | ⟨h,_⟩ | ⟨_,h⟩ <;> first | omega | exact h
   have hs:(lw m.addr).1=m.addr.drop 8:=by unfold lw; rw [ab hb]
   rw [ab (by simp [h3]),hs,ab (bW (by simp [cm])),ab (bW (by simp [cm])),ab (bW (by simp [cm])),ab (bW (by simp [cm]; omega))];simp [dx,hk,h3,XJ (show (0:Int)<=3/\(3:Int) < 256 by omega)]
   rfl
  ·rw [ac (by simp [h3]),ab (bW (by simp [cm])),ab (bW (by simp [cm])),ab (bW (by simp [cm])),ab (bW (by simp [cm]; omega))];simp [dx,hk,h3,XJ hae]
theorem ff1 {m:bD} (hl:m.addr.length<=400):(dx m).length<=406:=by
 unfold dx; split
 ·simp [cm]
 ·split
  ·simp [cm]
  ·split
   ·simp [cm]
   ·split <;> simp [cm] <;> omega
theorem fy2 {m:bD} (g:io m):xR (m,())=some (((iJ m).1,(iJ m).2,()),()):=by
 rw [Yv,My g,aa];unfold iJ;dsimp only;by_cases h:gY m=true
 ·have r:=ju.1 h;have hs:=Hi g.few.fewS (by have:=g.few.subs; omega);rw [qB r.subs] at hs;have hz:=mm r.subs;have hl:=ff1 (m:=m) (by have:=g.few.addr; omega);rw [ac (by simp [h]),ab h,hs,fp3 r (by have:=g.few.addr; omega)];simp only [aa];rw [ab (bW (by omega)),kK]; rfl
 ·rw [Bool.not_eq_true] at h;rw [h,cK,cV]
end Go.VP
namespace Go.VP
open Go Go.VI
abbrev gD:bD:=⟨0,0,0,[],0,0,[],0,0,[],0,[],0,0,0,0,0,0,0,[],[],[],0,[],[]⟩
def lM (F:List cj->bD) (x:List cj × Bool × Int):bD × Bool × Int:=if x.2.2 != 0 then (gD,false,x.2.2) else if !x.2.1 then (gD,false,x.2.2) else (F x.1,true,0)
theorem lV (F:List cj->bD) (x:List cj × Bool × Int):(if x.2.2 != 0 then (some ((gD,false,x.2.2,()),()):Option ((bD × Bool × Int × Unit) × Unit)) else (if !x.2.1 then some ((gD,false,x.2.2,()),()) else some ((F x.1,true,0,()),())))=some (bY (lM F x),()):=by
 unfold lM bY;by_cases h:(x.2.2 != 0)=true
 ·rw [ab h,ab h]
 ·rw [ac h,ac h];by_cases h2:(!x.2.1)=true
  ·rw [ab h2,ab h2]
  ·rw [ac h2,ac h2]
abbrev kh (d:Bs) (p:Int) (b:Bool):ix:=⟨d,p,d.length,b⟩
theorem fZ8 {d:Bs} {p q:Int} (h:d.length<=1000000) (h0:0<=p) (hq:q=p+2) (h2:q<=d.length):fy (kh d p false,())=some ((b5 (bH d p 2),()),(kh d q false,())):=by
 subst hq;have w:dQ d p d.length:=⟨h0,by omega,by omega,by omega⟩;rw [Ru,gG w (by omega) (by omega) h2]; rfl
theorem fT8 {d:Bs} {p:Int} {b:Bool} (h:d.length<=1000000) (h0:0<=p) (h1:p<=d.length) (h2:b=true\/(d.length:Int) < p+2):fy (kh d p b,())=some ((0,()),(kh d p true,())):=by
 have w:dQ d p d.length:=⟨h0,by omega,by omega,by omega⟩;rw [Ru,ry w (by omega) (by omega) h2]; rfl
def dq (ae:Int):Int:=if ae=0 then 0 else if ae=1 then 4 else if ae=2 then 16 else 8
theorem fJ7 (ae:Int):0<=dq ae/\dq ae<=16:=by unfold dq; split <;> (try split) <;> (try split) <;> omega
theorem TH {ae:Int} (ha:0<=ae/\ae<=3):dq ae=8↔ae=3:=by
 have:ae=0\/ae=1\/ae=2\/ae=3:=by omega
 rcases this with rfl | rfl | rfl | rfl <;> decide
theorem fJ8 {d:Bs} {p ae:Int} (h:d.length<=1000000) (h0:0<=p) (ha:0<=ae/\ae<=3) (h2:p+dq ae<=d.length):tu (kh d p false,ae,())=some ((if ae=3 then ez++bH d p 8 else bH d p (dq ae),()),(kh d (p+dq ae) false,())):=by
 have hn:=fJ7 ae;rw [Ug,ab (by omega)];change ((fF (du.mk d p d.length false,dq ae,())).bind _)=_;rw [iV (show dQ d p d.length from ⟨h0,by omega,by omega,by omega⟩) hn.1 h2,aa,sK,aa];have hl:=ew (s:=d) (p:=p) (n:=dq ae) h0 hn.1 h2;dsimp only;by_cases h3:ae=3
 ·have h8:=(TH ha).2 h3;have:fc (bH d p (dq ae))=(ez++bH d p (dq ae),true):=by unfold fc; rw [ab (by omega)]
  rw [this,cQ,ab (by simp [h3]),ab h3,h8]
 ·have h8:dq ae≠8:=fun h=>h3 ((TH ha).1 h)
  have:(fc (bH d p (dq ae))).2=false:=by unfold fc; rw [ac (by omega)]
  rw [this,cV,ac h3]
theorem Ni {d:Bs} {p ae:Int} {b:Bool} (h:d.length<=1000000) (h0:0<=p) (h1:p<=d.length) (ha:0<=ae/\ae<=3) (h2:b=true\/d.length < p+dq ae):∃ s,tu (kh d p b,ae,())=some ((s,()),(kh d p true,())):=by
 rw [Ug,ab (by omega)];change ∃ s,((fF (du.mk d p d.length b,dq ae,())).bind _)=_;rw [oG (show dQ d p d.length from ⟨h0,by omega,by omega,by omega⟩) (h2.imp id .inr),aa,sK,aa];exact ⟨_,rfl⟩
def je (ty:Int) (d:Bs):bD × Bool × Int:=
 if ty=2 then (if d.length < 6 then (gD,false,2) else lM (fun l=>⟨7,0,0,[],0,0,[],0,0,[],0,[],0,0,b5 (bH d 4 2),0,0,b5 (bH d 2 2),0,[],[],[],0,[],l⟩) (dR (d.drop 6)))
 else if ty=3 then (if d.length < 2 then (gD,false,2) else lM (fun l=>⟨8,0,0,[],0,0,[],0,0,[],0,[],0,0,0,0,0,b5 (bH d 0 2),0,[],[],[],0,[],l⟩) (dR (d.drop 2)))
 else if ty=4 then (if d.length < 6 then (gD,false,2) else lM (fun l=>⟨9,0,0,[],0,0,[],0,0,[],0,[],b5 (bH d 2 2),0,b5 (bH d 4 2),bt d 0 / 128,0,0,0,[],[],[],0,[],l⟩) (dR (d.drop 6)))
 else if d.length < 6 then (gD,false,2)
 else if 3 < bt d 0 then (gD,false,0)
 else if (d.length:Int) < 6+dq (bt d 0) then (gD,false,2)
 else lM (fun l=>⟨10,0,0,[],0,bt d 0,[],0,0,[],0,[],0,0,b5 (bH d 4 2),0,0,0,b5 (bH d 2 2),if bt d 0=3 then ez++bH d 6 8 else bH d 6 (dq (bt d 0)),[],[],0,[],l⟩) (dR (d.drop (6+dq (bt d 0)).toNat))
theorem MQ {n:Int} (k:Nat) (hk:k<=63):cb .i64 n k=n / 2 ^ k:=by
 unfold cb;rw [show min (k:Int).toNat IntKind.i64.bits=k by simp only [IntKind.bits]; omega];exact Int.fdiv_eq_ediv_of_nonneg _ (Int.pow_nonneg (by decide))
theorem LJ (d:Bs) (h:2<=d.length):b5 (bH d 0 2)=bt d 0 * 256+bt d 1:=Cq (p:=0) (by omega)
theorem Xq (d:Bs) (h:2<=d.length):b5 (bH d 0 2) / 256=bt d 0:=by
 have:=cw d 0; have:=cw d 1; rw [LJ d h]; omega
theorem J7 (d:Bs) (h:2<=d.length):b5 (bH d 0 2) / 32768=bt d 0 / 128:=by
 have:=cw d 0; have:=cw d 1; rw [LJ d h]; omega
theorem wF {ty at_:Int} {d:Bs} (hd:d.length<=1000) (ht:2<=ty/\ty<=5):pb (⟨ty,at_,d⟩,())=some (bY (je ty d),()):=by
 have nw:=mf d;have ok:=fun p q (a:0<=p) (b:q=p+2) c=>fZ8 (d:=d) (p:=p) (q:=q) (by omega) a b c
 have bad:=fun p b (a:0<=p) (c:p<=(d.length:Int)) e=>fT8 (d:=d) (p:=p) (b:=b) (by omega) a c e
 rw [Zw];dsimp only;rw [nw,aa];dsimp only;unfold je;have hcase:ty=2\/ty=3\/ty=4\/ty=5:=by omega
 rcases hcase with rfl | rfl | rfl | rfl
 ·rw [ab (by decide),ab rfl];by_cases h:d.length < 6
  ·rw [ab h];have fin:∃ n x,fy (kh d 0 false,())=some ((n,()),(x,()))/\∃ n' y,fy (x,())=some ((n',()),(y,()))/\∃ n'' z,fy (y,())=some ((n'',()),(z,()))/\z.aV=true:=by
    by_cases h2:d.length < 2
    ·exact ⟨_,_,bad 0 false (by omega) (by omega) (.inr (by omega)),_,_,bad 0 true (by omega) (by omega) (.inl rfl),_,_,bad 0 true (by omega) (by omega) (.inl rfl),rfl⟩
    ·by_cases h4:d.length < 4
     ·exact ⟨_,_,ok 0 2 (by omega) rfl (by omega),_,_,bad 2 false (by omega) (by omega) (.inr (by omega)),_,_,bad 2 true (by omega) (by omega) (.inl rfl),rfl⟩
     ·exact ⟨_,_,ok 0 2 (by omega) rfl (by omega),_,_,ok 2 4 (by omega) rfl (by omega),_,_,bad 4 false (by omega) (by omega) (.inr (by omega)),rfl⟩
   obtain ⟨n,x,e1,n',y,e2,n'',z,e3,e4⟩:=fin;rw [e1,aa]; dsimp only;rw [e2,aa]; dsimp only;rw [e3,aa]; dsimp only;rw [ab e4]
  ·rw [ac h,ok 0 2 (by omega) rfl (by omega),aa]; dsimp only;rw [ok 2 4 (by omega) rfl (by omega),aa]; dsimp only;rw [ok 4 6 (by omega) rfl (by omega),aa]; dsimp only;rw [ac (by decide),ab (by omega),show ((6:Int)).toNat=6 from rfl,rB (by simp; omega),aa];exact lV _ _
 ·rw [ac (by decide),ab (by decide),ac (by decide),ab rfl];by_cases h:d.length < 2
  ·rw [ab h,bad 0 false (by omega) (by omega) (.inr (by omega)),aa]; rfl
  ·rw [ac h,ok 0 2 (by omega) rfl (by omega),aa]; dsimp only;rw [ac (by decide),ab (by omega),show ((2:Int)).toNat=2 from rfl,rB (by simp; omega),aa];exact lV _ _
 ·rw [ac (by decide),ac (by decide),ab (by decide),ac (by decide),ac (by decide),ab rfl];by_cases h:d.length < 6
  ·rw [ab h];have fin:∃ n x,fy (kh d 0 false,())=some ((n,()),(x,()))/\∃ n' y,fy (x,())=some ((n',()),(y,()))/\∃ n'' z,fy (y,())=some ((n'',()),(z,()))/\z.aV=true:=by
    by_cases h2:d.length < 2
    ·exact ⟨_,_,bad 0 false (by omega) (by omega) (.inr (by omega)),_,_,bad 0 true (by omega) (by omega) (.inl rfl),_,_,bad 0 true (by omega) (by omega) (.inl rfl),rfl⟩
    ·by_cases h4:d.length < 4
     ·exact ⟨_,_,ok 0 2 (by omega) rfl (by omega),_,_,bad 2 false (by omega) (by omega) (.inr (by omega)),_,_,bad 2 true (by omega) (by omega) (.inl rfl),rfl⟩
     ·exact ⟨_,_,ok 0 2 (by omega) rfl (by omega),_,_,ok 2 4 (by omega) rfl (by omega),_,_,bad 4 false (by omega) (by omega) (.inr (by omega)),rfl⟩
   obtain ⟨n,x,e1,n',y,e2,n'',z,e3,e4⟩:=fin;rw [e1,aa]; dsimp only;rw [e2,aa]; dsimp only;rw [e3,aa]; dsimp only;rw [ab e4]
  ·rw [ac h,ok 0 2 (by omega) rfl (by omega),aa]; dsimp only;rw [ok 2 4 (by omega) rfl (by omega),aa]; dsimp only;rw [ok 4 6 (by omega) rfl (by omega),aa]; dsimp only;rw [ac (by decide),ab (by omega),show ((6:Int)).toNat=6 from rfl,rB (by simp; omega),aa,show (15:Int)=((15:Nat):Int) from rfl,MQ 15 (by omega),show (2:Int) ^ 15=32768 from by decide,J7 d (by omega)];exact lV _ _
 ·rw [ac (by decide),ac (by decide),ac (by decide),ab (by decide),ac (by decide),ac (by decide),ac (by decide)];have sh:∀ n:Int,cb .i64 n 8=n / 256:=fun n=>by
   rw [show (8:Int)=((8:Nat):Int) from rfl,MQ 8 (by omega)]; rfl
  have hb:=cw d 0;by_cases h:d.length < 6
  ·rw [ab h];have fin:∃ n x,fy (kh d 0 false,())=some ((n,()),(x,()))/\0<=n/\∃ n' y,fy (x,())=some ((n',()),(y,()))/\∃ n'' p,fy (y,())=some ((n'',()),(kh d p true,()))/\0<=p/\p<=d.length:=by
    by_cases h2:d.length < 2
    ·exact ⟨_,_,bad 0 false (by omega) (by omega) (.inr (by omega)),by omega,_,_,bad 0 true (by omega) (by omega) (.inl rfl),_,_,bad 0 true (by omega) (by omega) (.inl rfl),by omega,by omega⟩
    ·by_cases h4:d.length < 4
     ·exact ⟨_,_,ok 0 2 (by omega) rfl (by omega),(kC _).1,_,_,bad 2 false (by omega) (by omega) (.inr (by omega)),_,_,bad 2 true (by omega) (by omega) (.inl rfl),by omega,by omega⟩
     ·exact ⟨_,_,ok 0 2 (by omega) rfl (by omega),(kC _).1,_,_,ok 2 4 (by omega) rfl (by omega),_,_,bad 4 false (by omega) (by omega) (.inr (by omega)),by omega,by omega⟩
   obtain ⟨n,x,e1,e0,n',y,e2,n'',p,e3,e4,e5⟩:=fin;rw [e1,aa]; dsimp only;rw [e2,aa]; dsimp only;rw [e3,aa]; dsimp only;rw [sh];by_cases ha:n / 256<=3
   ·obtain ⟨s,e6⟩:=Ni (d:=d) (p:=p) (ae:=n / 256) (b:=true) (by omega) e4 e5 ⟨by omega,ha⟩ (.inl rfl);rw [bP ha,e6,aa]; rfl
   ·rw [bN ha,ab rfl]
  ·rw [ac h,ok 0 2 (by omega) rfl (by omega),aa]; dsimp only;rw [ok 2 4 (by omega) rfl (by omega),aa]; dsimp only;rw [ok 4 6 (by omega) rfl (by omega),aa]; dsimp only;rw [sh,Xq d (by omega)];by_cases ha:3 < bt d 0
   ·rw [ab ha,bN (by omega),ac (by decide),bP ha]
   ·rw [ac ha,bP (by omega)];by_cases hl:(d.length:Int) < 6+dq (bt d 0)
    ·obtain ⟨s,e6⟩:=Ni (d:=d) (p:=6) (ae:=bt d 0) (b:=false) (by omega) (by omega) (by omega) ⟨by omega,by omega⟩ (.inr hl);rw [ab hl,e6,aa]; rfl
    ·have hn:0<=dq (bt d 0):=by unfold dq; split <;> (try split) <;> (try split) <;> omega
     rw [ac hl,fJ8 (by omega) (by omega) ⟨by omega,by omega⟩ (by omega),aa]; dsimp only;rw [ac (by decide),bN ha,ab (by omega),rB (by simp; omega),aa];exact lV _ _
theorem fT9 {ae:Int} (h:0<=ae/\ae<=3):pu (ae,())=some ((dq ae,()),()):=by
 rw [Pb];have:ae=0\/ae=1\/ae=2\/ae=3:=by omega
 rcases this with rfl | rfl | rfl | rfl <;> rfl
theorem nk {d:Bs} {p n q:Nat} (h:q=p+n):(d.take q).drop p=bH d p n:=by
 subst h; unfold bH;rw [show ((p:Int)+(n:Int)).toNat=p+n by omega,Int.toNat_natCast]
theorem wH {ty at_:Int} {d:Bs} (hd:d.length<=1000) (ht:2<=ty/\ty<=5):oK (⟨ty,at_,d⟩,())=some (bY (je ty d),()):=by
 have cl:∀ p n:Nat,p+n<=d.length->n<=7->dh (bH d p n,())=some ((b5 (bH d p n),()),()):=fun p n h h7=>by
  have:=ew (s:=d) (p:=p) (n:=n) (by omega) (by omega) (by omega);exact lj (by omega)
 have n02:2<=d.length->dh (bH d 0 2,())=some ((b5 (bH d 0 2),()),()):=fun h=>cl 0 2 h (by omega)
 have n22:4<=d.length->dh (bH d 2 2,())=some ((b5 (bH d 2 2),()),()):=fun h=>cl 2 2 h (by omega)
 have n42:6<=d.length->dh (bH d 4 2,())=some ((b5 (bH d 4 2),()),()):=fun h=>cl 4 2 h (by omega)
 have c02:d.take 2=bH d 0 2:=nk (p:=0) (n:=2) (q:=2) rfl;have c24:(d.take 4).drop 2=bH d 2 2:=nk (p:=2) (n:=2) (q:=4) rfl;have c46:(d.take 6).drop 4=bH d 4 2:=nk (p:=4) (n:=2) (q:=6) rfl;rw [Zm];dsimp only;unfold je;have hb:=cw d 0;have hcase:ty=2\/ty=3\/ty=4\/ty=5:=by omega
 rcases hcase with rfl | rfl | rfl | rfl
 ·rw [ac (show ¬((2:Int)==3)=true by decide),ab (show (2:Int)=2 from rfl)];by_cases h:d.length < 6
  ·rw [bP (by omega),ab h]
  ·rw [bN (by omega),ac h,ab (by decide),ab (by omega),c24,n22 (by omega),aa,ab (by omega),c46,n42 (by omega),aa,ab (by omega),mR (by simp; omega),aa];exact lV _ _
 ·rw [ab (show ((3:Int)==3)=true from rfl),ac (show ¬((3:Int)=2) by decide),ab (show (3:Int)=3 from rfl)];by_cases h:d.length < 2
  ·rw [bP (by omega),ab h]
  ·rw [bN (by omega),ac h,ac (by decide),ab (by decide),ab (by omega),c02,n02 (by omega),aa,ab (by omega),mR (by simp; omega),aa];exact lV _ _
 ·rw [ac (show ¬((4:Int)==3)=true by decide),ac (show ¬((4:Int)=2) by decide),ac (show ¬((4:Int)=3) by decide),ab (show (4:Int)=4 from rfl)];by_cases h:d.length < 6
  ·rw [bP (by omega),ab h]
  ·have e:(IntKind.wrap .i64 ((IntKind.wrap .i64 (((d[0]'(by omega)).toNat:Nat):Int)).tdiv 128))=bt d 0 / 128:=by
    have h0:(((d[0]'(by omega)).toNat:Nat):Int)=bt d 0:=by simp [bt,List.getElem?_eq_getElem (show 0 < d.length by omega)]
    rw [h0,bL (x:=bt d 0) (by omega) (by omega),Int.tdiv_eq_ediv_of_nonneg hb.1,bL (by omega) (by omega)]
   rw [bN (by omega),ac h,ac (by decide),ac (by decide),ab (by decide),ck (show 0 < d.length by omega),ab (by omega),c24,n22 (by omega),aa,ab (by omega),c46,n42 (by omega),aa,ab (by omega),mR (by simp; omega),aa,e];exact lV _ _
 ·rw [ac (show ¬((5:Int)==3)=true by decide),ac (show ¬((5:Int)=2) by decide),ac (show ¬((5:Int)=3) by decide),ac (show ¬((5:Int)=4) by decide)];by_cases h:d.length < 6
  ·rw [bP (by omega),ab h]
  ·have e:IntKind.wrap .i64 (((d[0]'(by omega)).toNat:Nat):Int)=bt d 0:=by
    have h0:(((d[0]'(by omega)).toNat:Nat):Int)=bt d 0:=by simp [bt,List.getElem?_eq_getElem (show 0 < d.length by omega)]
    rw [h0,bL (x:=bt d 0) (by omega) (by omega)]
   rw [bN (by omega),ac h,ac (by decide),ac (by decide),ac (by decide),ck (show 0 < d.length by omega),ab (by omega),c24,n22 (by omega),aa,ab (by omega),c46,n42 (by omega),aa,e];by_cases ha:3 < bt d 0
   ·rw [bP ha,ab ha]
   ·have hn:0<=dq (bt d 0)/\dq (bt d 0)<=16:=by unfold dq; split <;> (try split) <;> (try split) <;> omega
    rw [bN ha,ac ha,fT9 ⟨hb.1,by omega⟩,aa];dsimp only;rw [bL (x:=6+dq (bt d 0)) (by omega) (by omega)];by_cases hl:(d.length:Int) < 6+dq (bt d 0)
    ·rw [bP hl,ab hl]
    ·have ec:(d.take (6+dq (bt d 0)).toNat).drop 6=bH d 6 (dq (bt d 0)):=rfl;rw [bN hl,ac hl,ab (by omega),ec,mR (by simp; omega)];by_cases h3:bt d 0=3
     ·have h8:dq (bt d 0)=8:=by rw [h3]; rfl
      have:fc (bH d 6 8)=(ez++bH d 6 8,true):=by unfold fc; have:=ew (s:=d) (p:=6) (n:=8) (by omega) (by omega) (by omega); rw [ab (by omega)]
      rw [ab (show (bt d 0==3)=true by simp [h3]),ab h3,h8,B0,this,aa,aa,ab (by omega)];exact lV _ _
     ·rw [ac (show ¬(bt d 0==3)=true by simp [h3]),ac h3,aa,ab (by omega)];exact lV _ _
end Go.VP
