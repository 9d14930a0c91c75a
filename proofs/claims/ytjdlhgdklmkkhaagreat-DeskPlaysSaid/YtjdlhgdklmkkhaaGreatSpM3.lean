import Derived.Test.YtjdlhgdklmkkhaaGreatSpFQ12
import Derived.Test.YtjdlhgdklmkkhaaGreatSpFQ4
import Derived.Test.YtjdlhgdklmkkhaaGreatSpM0
import Derived.Test.YtjdlhgdklmkkhaaGreatSpM2
import Derived.Test.YtjdlhgdklmkkhaaGreatSpFQ11
import Derived.Test.YtjdlhgdklmkkhaaGreatSpFQ9
import Derived.Test.YtjdlhgdklmkkhaaGreatSpFQ1
import Derived.Test.YtjdlhgdklmkkhaaGreatSpFQ10
import Derived.Test.YtjdlhgdklmkkhaaGreatSpFQ0
import Derived.Test.YtjdlhgdklmkkhaaGreatSpFQ14
import Derived.Test.YtjdlhgdklmkkhaaGreatSpFGood
import Derived.Test.YtjdlhgdklmkkhaaGreatSpM1
set_option linter.unusedVariables false
set_option linter.unusedSimpArgs false
set_option maxRecDepth 100000
noncomputable section
namespace Go.VP
open Go Go.VI
abbrev bG:=de
def dG (cmd ver:Int) (says:Bs) (e:bG):bD:=⟨1,cmd,ver,says,e.family,0,e.addr,(if e.family=0 then 0 else if ver=1 then 32 else (dW e.mask).1),e.tag,e.next,e.aj,[],0,0,0,0,0,0,0,[],[],[],0,[],[]⟩
open Classical in
def dD (cmd ver:Int) (says:Bs) (alone:Bool) (e:bG):Int:=
 if e.family=0 then (if alone=true/\e.mask=z4/\cG (dG cmd ver says e) then 0 else 7)
 else if e.family≠2 then 4
 else if ver=1 then (if e.tag≠0\/e.mask≠z4\/e.next≠z4 then 5 else if e.aj < 1\/16 < e.aj then 6 else 0)
 else if ¬((dW e.mask).2=true/\fN e.addr (dW e.mask).1=true) then 7
 else if e.aj < 1\/16 < e.aj then 6 else 0
theorem lf {x:bD} {v E:Int} {M:bD} {R:Type} {S:R} (h:E=v) (h0:v≠0):∃ m',(some ((x,v,()),S):Option ((bD × Int × Unit) × R))=some ((m',E,()),S)/\(E=0->m'=M):=⟨x,by rw [h],fun e=>absurd (h.symm.trans e) h0⟩
theorem qM {x:bD} {E:Int} {M:bD} {R:Type} {S:R} (hx:x=M) (h:E=0):∃ m',(some ((x,0,()),S):Option ((bD × Int × Unit) × R))=some ((m',E,()),S)/\(E=0->m'=M):=⟨M,by rw [h,hx],fun _=>rfl⟩
structure gg (e:bG):Prop where
 fam:0<=e.family/\e.family<=65535
 tag:0<=e.tag/\e.tag<=65535
 addr:e.addr.length=4
 mask:e.mask.length=4
 next:e.next.length=4
 aj:0<=e.aj/\e.aj<=4294967295
theorem iD {s:Bs} {p n:Nat} (h:p+n<=s.length):(bH s p n).length=n:=by
 have:=ew (s:=s) (p:=p) (n:=n) (by omega) (by omega) (by omega);omega
theorem HI {s:Bs} (h:s.length=20):gg (ik s):=by
 have h2:∀ p:Nat,p+2<=20->0<=b5 (bH s p 2)/\b5 (bH s p 2)<=65535:=fun p hp=>by
  have:=kC (bH s p 2);have hl:(bH s p 2).length=2:=iD (n:=2) (by omega);rw [hl] at this; omega
 have h4:=kC (bH s 16 4);have hl:(bH s 16 4).length=4:=iD (p:=16) (n:=4) (by omega);rw [hl] at h4;exact ⟨h2 0 (by omega),h2 2 (by omega),iD (p:=4) (n:=4) (by omega),iD (p:=8) (n:=4) (by omega),iD (p:=12) (n:=4) (by omega),by show 0<=b5 (bH s 16 4)/\_; exact ⟨h4.1,by show b5 (bH s 16 4)<=_; omega⟩⟩
theorem NW {cmd ver:Int} {says:Bs} {e:bG} (h:gg e):RM (dG cmd ver says e):=by
 have h1:=h.tag;refine ⟨cx.2 (by show _<=e.tag/\e.tag<=_; omega),?_,by simp [dG],by simp [dG]⟩;rw [cx];show _<=(if e.family=0 then (0:Int) else if ver=1 then 32 else (dW e.mask).1)/\(if e.family=0 then (0:Int) else if ver=1 then 32 else (dW e.mask).1)<=_;rcases Fk e.mask with ⟨k,hk,_⟩ | ⟨hk,_⟩
 ·rw [hk]; have:=k.isLt; split
  ·omega
  ·split <;> simp <;> omega
 ·rw [hk]; split
  ·omega
  ·split <;> simp
theorem YD {cmd ver:Int} {says:Bs} {alone:Bool} {e:bG} (h:gg e) :
  ∃ m',xJ (⟨cmd,ver,says,alone⟩,e,())=some ((m',dD cmd ver says alone e,()),((⟨cmd,ver,says,alone⟩:rN),()))/\(dD cmd ver says alone e=0->m'=dG cmd ver says e):=by
 have zm:=xa h.mask;have zz:=Ld h.mask h.next;have rm:=NW (cmd:=cmd) (ver:=ver) (says:=says) h;rw [Yo];dsimp only;by_cases f0:e.family=0
 ·rw [ab (by simp [f0])];cases alone with
  | false=>rw [cK]; exact lf (v:=7) (by unfold dD; rw [ab f0,ac (by simp)]) (by decide)
  | true=>
   rw [b7,ra (by have:=h.mask; omega),aa];dsimp only;cases hz:kB e.mask with
   | false=>
    rw [cK]; exact lf (v:=7) (by unfold dD; rw [ab f0,ac (by rw [<- zm,hz]; simp)]) (by decide)
   | true=>
    have hm:=zm.1 hz;have er:(⟨1,cmd,ver,says,e.family,0,e.addr,0,e.tag,e.next,e.aj,[],0,0,0,0,0,0,0,[],[],[],0,[],[]⟩:bD)=dG cmd ver says e:=by unfold dG; rw [ab f0]
    rw [b7,er,FL rm,aa];dsimp only;by_cases ho:cG (dG cmd ver says e)
    ·rw [jn.2 ho,b7];exact qM rfl (by unfold dD; rw [ab f0,ab ⟨rfl,hm,ho⟩])
    ·have:fw (dG cmd ver says e)=false:=by cases e':fw (dG cmd ver says e) with | false=>rfl | true=>exact absurd (jn.1 e') ho
     rw [this,cK];exact lf (v:=7) (by unfold dD; rw [ab f0,ac (fun h=>ho h.2.2)]) (by decide)
 ·rw [ac (by simp [f0])];by_cases f2:e.family=2
  ·rw [ac (by simp [f2])];by_cases v1:ver=1
   ·subst v1;rw [ab (by rfl)];by_cases t0:e.tag=0
    ·rw [ac (by simp [t0]),ab (bW (by have:=h.mask; have:=h.next; omega)),ra (by have:=h.mask; have:=h.next; simp; omega),aa];dsimp only;cases hz:kB (e.mask++e.next) with
     | false=>
      rw [cK];refine lf (v:=5) ?_ (by decide);unfold dD; rw [ac f0,ac (by omega),ab rfl,ab];by_cases hm:e.mask=z4
      ·refine .inr (.inr fun hn=>?_); have:=zz.2 ⟨hm,hn⟩; rw [hz] at this; cases this
      ·exact .inr (.inl hm)
     | true=>
      have hm:=zz.1 hz;rw [b7];by_cases m1:e.aj < 1
      ·rw [bP m1]; exact lf (v:=6) (by unfold dD; rw [ac f0,ac (by omega),ab rfl,ac (by grind),ab (.inl m1)]) (by decide)
      ·rw [bN m1];by_cases m2:16 < e.aj
       ·rw [bP m2]; exact lf (v:=6) (by unfold dD; rw [ac f0,ac (by omega),ab rfl,ac (by grind),ab (.inr m2)]) (by decide)
       ·rw [bN m2]; exact qM (by unfold dG; rw [ac f0,ab rfl]) (by unfold dD; rw [ac f0,ac (by omega),ab rfl,ac (by grind),ac (by omega)])
    ·rw [ab (by simp [t0])];exact lf (v:=5) (by unfold dD; rw [ac f0,ac (by omega),ab rfl,ab (.inl t0)]) (by decide)
   ·rw [ac (by simp [v1]),Z7 h.mask,aa];dsimp only;cases hp:(dW e.mask).2 with
    | false=>
     rw [cK];exact lf (v:=7) (by unfold dD; rw [ac f0,ac (by omega),ac v1,ab (by rw [hp]; simp)]) (by decide)
    | true=>
     have pr:=GK hp;rw [b7,Vo h.addr (cx.2 (by omega)),aa];dsimp only;rw [decide_eq_true (show 0<=(dW e.mask).1/\(dW e.mask).1<=32 by omega),Bool.true_and];cases hc:fN e.addr (dW e.mask).1 with
     | false=>
      rw [cK];exact lf (v:=7) (by unfold dD; rw [ac f0,ac (by omega),ac v1,ab (by rw [hc]; simp)]) (by decide)
     | true=>
      rw [b7];by_cases m1:e.aj < 1
      ·rw [bP m1]; exact lf (v:=6) (by unfold dD; rw [ac f0,ac (by omega),ac v1,ac (by simp [hp,hc]),ab (.inl m1)]) (by decide)
      ·rw [bN m1];by_cases m2:16 < e.aj
       ·rw [bP m2]; exact lf (v:=6) (by unfold dD; rw [ac f0,ac (by omega),ac v1,ac (by simp [hp,hc]),ab (.inr m2)]) (by decide)
       ·rw [bN m2]; exact qM (by unfold dG; rw [ac f0,ac v1]) (by unfold dD; rw [ac f0,ac (by omega),ac v1,ac (by simp [hp,hc]),ac (by omega)])
  ·rw [ab (by simp [f2])];exact lf (v:=4) (by unfold dD; rw [ac f0,ab f2]) (by decide)
theorem fC1 {cmd ver:Int} {says:Bs} {alone:Bool} {e:bG} (h:gg e) :
  ∃ m',yc (e,cmd,ver,says,alone,())=some ((m',dD cmd ver says alone e,()),())/\(dD cmd ver says alone e=0->m'=dG cmd ver says e):=by
 have rm:=NW (cmd:=cmd) (ver:=ver) (says:=says) h;rw [ZJ];by_cases f0:e.family=0
 ·rw [ab (by simp [f0])];cases alone with
  | false=>rw [cK]; exact lf (v:=7) (by unfold dD; rw [ab f0,ac (by simp)]) (by decide)
  | true=>
   rw [b7,zS,aa];dsimp only;by_cases hm:e.mask=z4
   ·have er:(⟨1,cmd,ver,says,e.family,0,e.addr,0,e.tag,e.next,e.aj,[],0,0,0,0,0,0,0,[],[],[],0,[],[]⟩:bD)=dG cmd ver says e:=by unfold dG; rw [ab f0]
    rw [ac (by simp [hm]),er,DZ rm,aa];dsimp only;by_cases ho:cG (dG cmd ver says e)
    ·rw [jn.2 ho,b7];exact qM rfl (by unfold dD; rw [ab f0,ab ⟨rfl,hm,ho⟩])
    ·have:fw (dG cmd ver says e)=false:=by cases e':fw (dG cmd ver says e) with | false=>rfl | true=>exact absurd (jn.1 e') ho
     rw [this,cK];exact lf (v:=7) (by unfold dD; rw [ab f0,ac (fun h=>ho h.2.2)]) (by decide)
   ·rw [ab (by simpa using hm)];exact lf (v:=7) (by unfold dD; rw [ab f0,ac (fun h=>hm h.2.1)]) (by decide)
 ·rw [ac (by simp [f0])];by_cases f2:e.family=2
  ·rw [ac (by simp [f2])];by_cases v1:ver=1
   ·subst v1;rw [ab (by rfl)];by_cases t0:e.tag=0
    ·rw [ac (by simp [t0]),zS,aa];dsimp only;by_cases hm:e.mask=z4
     ·rw [ac (by simp [hm]),aa];dsimp only;by_cases hn:e.next=z4
      ·rw [ac (by simp [hn])];by_cases m1:e.aj < 1
       ·rw [bP m1]; exact lf (v:=6) (by unfold dD; rw [ac f0,ac (by omega),ab rfl,ac (by grind),ab (.inl m1)]) (by decide)
       ·rw [bN m1];by_cases m2:16 < e.aj
        ·rw [bP m2]; exact lf (v:=6) (by unfold dD; rw [ac f0,ac (by omega),ab rfl,ac (by grind),ab (.inr m2)]) (by decide)
        ·rw [bN m2]; exact qM (by unfold dG; rw [ac f0,ab rfl]) (by unfold dD; rw [ac f0,ac (by omega),ab rfl,ac (by grind),ac (by omega)])
      ·rw [ab (by simpa using hn)];exact lf (v:=5) (by unfold dD; rw [ac f0,ac (by omega),ab rfl,ab (.inr (.inr hn))]) (by decide)
     ·rw [ab (by simpa using hm)];exact lf (v:=5) (by unfold dD; rw [ac f0,ac (by omega),ab rfl,ab (.inr (.inl hm))]) (by decide)
    ·rw [ab (by simp [t0])];exact lf (v:=5) (by unfold dD; rw [ac f0,ac (by omega),ab rfl,ab (.inl t0)]) (by decide)
   ·rw [ac (by simp [v1]),fM4,aa];dsimp only;cases hp:(dW e.mask).2 with
    | false=>
     rw [cK];exact lf (v:=7) (by unfold dD; rw [ac f0,ac (by omega),ac v1,ab (by rw [hp]; simp)]) (by decide)
    | true=>
     have pr:=GK hp;rw [b7,Xa h.addr,aa];dsimp only;rw [decide_eq_true (show 0<=(dW e.mask).1/\(dW e.mask).1<=32 by omega),Bool.true_and];cases hc:fN e.addr (dW e.mask).1 with
     | false=>
      rw [cK];exact lf (v:=7) (by unfold dD; rw [ac f0,ac (by omega),ac v1,ab (by rw [hc]; simp)]) (by decide)
     | true=>
      rw [b7];by_cases m1:e.aj < 1
      ·rw [bP m1]; exact lf (v:=6) (by unfold dD; rw [ac f0,ac (by omega),ac v1,ac (by simp [hp,hc]),ab (.inl m1)]) (by decide)
      ·rw [bN m1];by_cases m2:16 < e.aj
       ·rw [bP m2]; exact lf (v:=6) (by unfold dD; rw [ac f0,ac (by omega),ac v1,ac (by simp [hp,hc]),ab (.inr m2)]) (by decide)
       ·rw [bN m2]; exact qM (by unfold dG; rw [ac f0,ac v1]) (by unfold dD; rw [ac f0,ac (by omega),ac v1,ac (by simp [hp,hc]),ac (by omega)])
  ·rw [ab (by simp [f2])];exact lf (v:=4) (by unfold dD; rw [ac f0,ab f2]) (by decide)
end Go.VP
namespace Go.VP
open Go Go.VI
def dZ (b:Bs):Int × Int:=
 if b.length < 4 then (b.length,2) else if ¬(bt b 0=1\/bt b 0=2) then (0,4) else if ¬(bt b 1=1\/bt b 1=2) then (1,4)
 else if ¬(bt b 2=0/\bt b 3=0) then (2,5) else if ((b.length:Int) - 4) % 20≠0 then (b.length,2) else if b.length=4 then (b.length,8) else if 504 < b.length then (504,8) else (0,0)
theorem Bv {b:Bs} (h:(dZ b).2=0):24<=b.length/\b.length<=504/\(bt b 0=1\/bt b 0=2)/\(bt b 1=1\/bt b 1=2)/\bt b 2=0/\bt b 3=0/\((b.length:Int) - 4) % 20=0:=by
 unfold dZ at h;split at h
 ·simp at h
 split at h
 ·simp at h
 split at h
 ·simp at h
 split at h
 ·simp at h
 split at h
 ·simp at h
 split at h
 ·simp at h
 split at h
 ·simp at h
 ·rename_i h1 h2 h3 h4 h5 h6 h7;exact ⟨by omega,by omega,by omega,by omega,by omega,by omega,by omega⟩
theorem uw {b:Bs} (h:¬b.length < 4):∃ w x y z r,b=w::x::y::z::r:=by
 match b,h with
 | w::x::y::z::r,_=>exact ⟨w,x,y,z,r,rfl⟩
 | [],h=>simp at h
 | [_],h=>simp at h
 | [_,_],h=>simp at h
 | [_,_,_],h=>simp at h
theorem XY {b:Bs} (hb:b.length<=100000):yh (b,())=some (((dZ b).1,(dZ b).2,()),()):=by
 rw [eQ0];by_cases h4:b.length < 4
 ·rw [bP (by omega)]; unfold dZ; rw [ab h4]
 obtain ⟨w,x,y,z,r,rfl⟩:=uw h4;rw [bN (by omega)];have e0:bt (w::x::y::z::r) 0=(w.toNat:Int):=rfl;have e1:bt (w::x::y::z::r) 1=(x.toNat:Int):=rfl;have e2:bt (w::x::y::z::r) 2=(y.toNat:Int):=rfl;have e3:bt (w::x::y::z::r) 3=(z.toNat:Int):=rfl;simp only [List.getElem?_cons_zero,List.getElem?_cons_succ,aa];refine zc (fun h=>?_) (fun ha=>?_)
 ·unfold dZ; rw [ac h4,ab (by rw [e0]; exact h)]
 refine zc (fun h=>?_) (fun hb'=>?_)
 ·unfold dZ; rw [ac h4,ac (by rw [e0]; exact fun c=>c ha),ab (by rw [e1]; exact h)]
 rw [ab (by omega),show (List.take 4 (w::x::y::z::r)).drop 2=[y,z] from rfl,ra (by simp),aa];have hz:kB [y,z]=true↔((y.toNat:Int)=0/\(z.toNat:Int)=0):=by
  simp only [kB,List.all_cons,List.all_nil,Bool.and_true,Bool.and_eq_true,beq_iff_eq];constructor
  ·rintro ⟨rfl,rfl⟩; exact ⟨rfl,rfl⟩
  ·rintro ⟨h1,h2⟩; exact ⟨kq h1,kq h2⟩
 refine jU (fun h=>?_) (fun hzz=>?_)
 ·unfold dZ; rw [ac h4,ac (by rw [e0]; exact fun c=>c ha),ac (by rw [e1]; exact fun c=>c hb'),ab (by rw [e2,e3,<- hz]; dsimp only at h; rw [h]; simp)]
 have hzz':=hz.1 hzz;have hL:(4:Int)<=((w::x::y::z::r).length:Int):=by omega
 generalize hLL:(w::x::y::z::r).length=L at *;rw [bL (by omega) (by omega),Int.tmod_eq_emod_of_nonneg (by omega),Int.tdiv_eq_ediv_of_nonneg (by omega),bL (by omega) (by omega)];have hd:dZ (w::x::y::z::r)=(if ((L:Int) - 4) % 20≠0 then ((L:Int),2) else if L=4 then ((L:Int),8) else if 504 < L then (504,8) else (0,0)):=by
  unfold dZ; rw [hLL,ac (by omega),ac (by rw [e0]; exact fun c=>c ha),ac (by rw [e1]; exact fun c=>c hb'),ac (by rw [e2,e3]; exact fun c=>c hzz')]
 rw [hd];refine cF (fun h=>?_) (fun h5=>?_)
 ·rw [ab (by omega)]
 rw [ac (show ¬((L:Int) - 4) % 20≠0 by omega)];refine bR (fun h=>?_) (fun h6=>?_)
 ·rw [ab (by omega)]
 rw [ac (show ¬L=4 by omega)];refine cF (fun h=>?_) (fun h7=>?_)
 ·rw [ab (by omega)]
 ·rw [ac (by omega)]
theorem fM7 {b:Bs} (hb:b.length<=100000):xe (b,())=some (((dZ b).1,(dZ b).2,()),()):=by
 rw [ek0];by_cases h4:b.length < 4
 ·rw [bP (by omega)]; unfold dZ; rw [ab h4]
 obtain ⟨w,x,y,z,r,rfl⟩:=uw h4;rw [bN (by omega)];have e0:bt (w::x::y::z::r) 0=(w.toNat:Int):=rfl;have e1:bt (w::x::y::z::r) 1=(x.toNat:Int):=rfl;have e2:bt (w::x::y::z::r) 2=(y.toNat:Int):=rfl;have e3:bt (w::x::y::z::r) 3=(z.toNat:Int):=rfl;simp only [List.getElem?_cons_zero,List.getElem?_cons_succ,aa];have bad0:¬((w.toNat:Int)=1\/(w.toNat:Int)=2)->dZ (w::x::y::z::r)=(0,4):=fun h=>by
  unfold dZ; rw [ac h4,ab (by rw [e0]; exact h)]
 refine cF (fun h=>?_) (fun ha=>?_)
 ·rw [bad0 (by omega)]
 refine cF (fun h=>?_) (fun ha2=>?_)
 ·rw [bad0 (by omega)]
 have bad1:¬((x.toNat:Int)=1\/(x.toNat:Int)=2)->dZ (w::x::y::z::r)=(1,4):=fun h=>by
  unfold dZ; rw [ac h4,ac (by rw [e0]; omega),ab (by rw [e1]; exact h)]
 refine cF (fun h=>?_) (fun hb1=>?_)
 ·rw [bad1 (by omega)]
 refine cF (fun h=>?_) (fun hb2=>?_)
 ·rw [bad1 (by omega)]
 have bad2:¬((y.toNat:Int)=0/\(z.toNat:Int)=0)->dZ (w::x::y::z::r)=(2,5):=fun h=>by
  unfold dZ; rw [ac h4,ac (by rw [e0]; omega),ac (by rw [e1]; omega),ab (by rw [e2,e3]; exact h)]
 refine bZ (fun h=>?_) (fun hy=>?_)
 ·rw [bad2 (by omega)]
 refine bZ (fun h=>?_) (fun hz=>?_)
 ·rw [bad2 (by omega)]
 generalize hLL:(w::x::y::z::r).length=L at *;rw [bL (by omega) (by omega),Int.tmod_eq_emod_of_nonneg (by omega)];have hd:dZ (w::x::y::z::r)=(if ((L:Int) - 4) % 20≠0 then ((L:Int),2) else if L=4 then ((L:Int),8) else if 504 < L then (504,8) else (0,0)):=by
  unfold dZ; rw [hLL,ac (by omega),ac (by rw [e0]; omega),ac (by rw [e1]; omega),ac (by rw [e2,e3]; exact fun c=>c ⟨hy,hz⟩)]
 rw [hd];refine bZ (fun h=>?_) (fun h5=>?_)
 ·rw [ab (by omega)]
 rw [ac (show ¬((L:Int) - 4) % 20≠0 by omega)];refine bR (fun h=>?_) (fun h6=>?_)
 ·rw [ab (by omega)]
 rw [ac (show ¬L=4 by omega)];refine cF (fun h=>?_) (fun h7=>?_)
 ·rw [ab (by omega)]
 ·rw [ac (by omega)]
def eC (f:bG->bD × Int) (b:Bs):Nat->Nat->List bD->List bD × Int × Int
 | 0,_,acc=>(acc,0,0)
 | k+1,at_,acc=>if (f (ik (bH b at_ 20))).2≠0 then ([],(at_:Int),(f (ik (bH b at_ 20))).2) else eC f b k (at_+20) (acc++[(f (ik (bH b at_ 20))).1])
def rt (cmd ver:Int) (says:Bs) (alone:Bool) (e:bG):bD × Int:=(dG cmd ver says e,dD cmd ver says alone e)
theorem Bx:lB<=100000:=Nat.le_of_ble_eq_true (by kernel_rfl)
theorem Sh {n:Nat} {b:Bs} {cmd ver:Int} {says:Bs} {alone:Bool} (hb:b.length<=100000):∀ (k m at_:Nat) (acc:List bD),at_+20 * k=b.length->k < m->acc.length+k<=10000->
  oE n m b at_ acc cmd ver says alone=some (((eC (rt cmd ver says alone) b k at_ acc).1,(eC (rt cmd ver says alone) b k at_ acc).2.1,(eC (rt cmd ver says alone) b k at_ acc).2.2,()),()):=by
 intro k
 induction k with
 | zero=>
  intro m at_ acc h hm ha;obtain ⟨m,rfl⟩:∃ k,m=k+1:=⟨m - 1,by omega⟩;rw [JT,bN (by omega)]; rfl
 | succ k ih=>
  intro m at_ acc h hm ha;obtain ⟨m,rfl⟩:∃ k,m=k+1:=⟨m - 1,by omega⟩;have hl:(bH b at_ 20).length=20:=iD (n:=20) (by omega);obtain ⟨m',er,hm'⟩:=YD (cmd:=cmd) (ver:=ver) (says:=says) (alone:=alone) (HI hl);rw [JT,bP (by omega),bL (by omega) (by omega),ab (by omega)];rw [show (List.take ((at_:Int)+20).toNat b).drop ((at_:Int)).toNat=bH b at_ 20 from rfl,fB6 hl,aa];dsimp only;rw [er,aa];dsimp only;refine bZ (fun he=>?_) (fun he=>?_)
  ·rw [eC,ab (show (rt cmd ver says alone (ik (bH b at_ 20))).2≠0 from he)]; rfl
  ·have:=ih m (at_+20) (acc++[m']) (by omega) (by omega) (by simp; omega);rw [show ((at_+20:Nat):Int)=(at_:Int)+20 by omega] at this;have hbo:=Bx;rw [ab (d7 (by rw [show (acc.length + [m'].length)=acc.length+1 from rfl]; exact Nat.le_trans (Nat.mul_le_mul (show acc.length+1<=10000 by omega) hbo) (by decide))),this,eC,ac (show ¬(rt cmd ver says alone (ik (bH b at_ 20))).2≠0 from fun c=>c he),hm' he]; rfl
theorem On {n:Nat} {b:Bs} {cmd ver:Int} {says:Bs} {alone:Bool} {st:Int} (hb:b.length<=100000) (h2:2<=b.length) (hs:0<=st/\st<=100000) (hc:cmd=bt b 0) (hv:ver=bt b 1) (hal:alone=(((b.length:Int) - st)==20)):∀ (k m at_:Nat) (acc:List bD),at_+20 * k=b.length->k < m->acc.length+k<=10000->
  po n m b st says acc at_=some (((eC (rt cmd ver says alone) b k at_ acc).1,(eC (rt cmd ver says alone) b k at_ acc).2.1,(eC (rt cmd ver says alone) b k at_ acc).2.2,()),()):=by
 intro k
 induction k with
 | zero=>
  intro m at_ acc h hm ha;obtain ⟨m,rfl⟩:∃ k,m=k+1:=⟨m - 1,by omega⟩;rw [V5,bN (by omega)]; rfl
 | succ k ih=>
  intro m at_ acc h hm ha;obtain ⟨m,rfl⟩:∃ k,m=k+1:=⟨m - 1,by omega⟩;have hl:(bH b at_ 20).length=20:=iD (n:=20) (by omega);obtain ⟨m',er,hm'⟩:=fC1 (cmd:=cmd) (ver:=ver) (says:=says) (alone:=alone) (HI hl);rw [V5,bP (by omega),bL (x:=(at_:Int)+20) (by omega) (by omega),ab (by omega)];rw [show (List.take ((at_:Int)+20).toNat b).drop ((at_:Int)).toNat=bH b at_ 20 from rfl,fr9 hl,aa,cN (i:=0) (by omega),aa,cN (i:=1) (by omega),aa];rw [eO,eO,bL (x:=(b.length:Int) - st) (by omega) (by omega),<- hal];have e0:(((b[0]?.getD 0).toNat:Nat):Int)=cmd:=hc.symm;have e1:(((b[1]?.getD 0).toNat:Nat):Int)=ver:=hv.symm;rw [e0,e1];dsimp only;rw [er,aa];dsimp only;refine bZ (fun he=>?_) (fun he=>?_)
  ·rw [eC,ab (show (rt cmd ver says alone (ik (bH b at_ 20))).2≠0 from he)]; rfl
  ·have:=ih m (at_+20) (acc++[m']) (by omega) (by omega) (by simp; omega);rw [show ((at_+20:Nat):Int)=(at_:Int)+20 by omega] at this;have hbo:=Bx;rw [ab (d7 (by rw [show (acc.length + [m'].length)=acc.length+1 from rfl]; exact Nat.le_trans (Nat.mul_le_mul (show acc.length+1<=10000 by omega) hbo) (by decide))),this,eC,ac (show ¬(rt cmd ver says alone (ik (bH b at_ 20))).2≠0 from fun c=>c he),hm' he]; rfl
def gZ (b:Bs):Bool:=b.take 2==[255,255]
theorem fW5 {s:Bs} (h:s.length=20):xQ (s,())=some (((if gZ s=true then s.drop 2 else []),gZ s,()),()):=by
 rw [eQ1,cT9,ba4,WF];rw [bP (by simp; omega),ab (by simp; omega),aa];rw [show (([255,255]:Bs).length:Int).toNat=2 from rfl];cases ha:gZ s with
 | false=>
  have:(s.take 2==[255,255])=false:=ha;rw [this]; rfl
 | true=>
  have:(s.take 2==[255,255])=true:=ha;rw [this];dsimp only;rw [b7,ab (by simp; omega),aa,aa];dsimp only;rw [b7,ac (by simp; omega),ab rfl]
theorem Po {s:Bs} (h:s.length=20):s8 (s,())=some ((gZ s,()),()):=by
 match s,h with
 | x::y::r,h=>
  rw [eR0,ab (by simp at h |-; omega)];simp only [List.getElem?_cons_zero,List.getElem?_cons_succ,aa];have e:gZ (x::y::r)=((x==255) && (y==255)):=by simp [gZ]
  have k:∀ v:UInt8,(((v.toNat:Int)==255):Bool)=(v==255):=fun v=>by
   rw [Bool.eq_iff_iff,beq_iff_eq,beq_iff_eq];exact ⟨fun h=>kq h,fun h=>by rw [h]; rfl⟩
  rw [k,k,e];cases (x==255) <;> rfl
theorem fM8 {s:Bs} (h:s.length=20) (ha:gZ s=true):Az (s,())=some ((s.drop 2,true,()),()):=by
 rw [ex8,Po h,aa,ha];dsimp only;rw [b7,ab (by omega)]
def dJ (b:Bs):List bD × Int × Int:=
 if (dZ b).2≠0 then ([],(dZ b).1,(dZ b).2)
 else if bt b 1=2/\gZ (bH b 4 20)=true then
  (if b.length=24 then ([],24,8) else eC (rt (bt b 0) (bt b 1) ((bH b 4 20).drop 2) (decide (b.length=44))) b ((b.length - 24) / 20) 24 [])
 else eC (rt (bt b 0) (bt b 1) [] (decide (b.length=24))) b ((b.length - 4) / 20) 4 []
theorem TM (a c:Nat):(((a:Int)==(c:Int)):Bool)=decide (a=c):=by
 rw [Bool.eq_iff_iff,beq_iff_eq,decide_eq_true_eq]; omega
theorem ZA {b:Bs} (hb:b.length<=100000):IE (b,())=some (((dJ b).1,(dJ b).2.1,(dJ b).2.2,()),()):=by
 show D9 fuel (b,())=_;rw [ev8,XY hb,aa];dsimp only;refine bZ (fun he=>?_) (fun he=>?_)
 ·unfold dJ; rw [ab he]
 obtain ⟨h1,h2,h3,h4,_,_,h5⟩:=Bv he;have hl:(bH b 4 20).length=20:=iD (p:=4) (n:=20) (by omega);rw [cN (i:=0) (by omega),aa,cN (i:=1) (by omega),aa,ab (by omega),show (List.take 24 b).drop 4=bH b 4 20 from rfl,fW5 hl,aa,eO,eO];have e0:bt b 0=(((b[0]?.getD 0).toNat:Nat):Int):=rfl;have e1:bt b 1=(((b[1]?.getD 0).toNat:Nat):Int):=rfl;rw [<- e0,<- e1];have L4:=Sh (n:=fuel) (cmd:=bt b 0) (ver:=bt b 1) (says:=[]) (alone:=decide (b.length=24)) hb ((b.length - 4) / 20) fuel 4 [] (by omega) (cn (by omega)) (by simp; omega);have no:¬(bt b 1=2/\gZ (bH b 4 20)=true)->(if (4:Int)==(b.length:Int) then (some (([],4,8,()),()):Option ((List bD × Int × Int × Unit) × Unit)) else (oE fuel fuel b 4 [] (bt b 0) (bt b 1) ([]:at1) ((b.length:Int)==24)))=some (((dJ b).1,(dJ b).2.1,(dJ b).2.2,()),()):=fun hn=>by
  rw [ac (by simp; omega),show (((b.length:Int)==24):Bool)=decide (b.length=24) from TM _ 24,show (4:Int)=((4:Nat):Int) from rfl,L4];unfold dJ; rw [ac (fun c=>c he),ac hn]
 dsimp only;cases ha:gZ (bH b 4 20) with
 | false=>rw [cV]; exact no (by rw [ha]; simp)
 | true=>
  rw [cQ];refine bR (fun hv=>?_) (fun hv=>no (fun c=>hv c.1));have hp:dJ b=(if b.length=24 then ([],24,8) else eC (rt (bt b 0) (bt b 1) ((bH b 4 20).drop 2) (decide (b.length=44))) b ((b.length - 24) / 20) 24 []):=by
   unfold dJ; rw [ac (fun c=>c he),ab ⟨hv,ha⟩]
  rw [hp];refine bR (fun hq=>?_) (fun hq=>?_)
  ·rw [ab (by omega)]
  ·have L24:=Sh (n:=fuel) (cmd:=bt b 0) (ver:=bt b 1) (says:=(bH b 4 20).drop 2) (alone:=decide (b.length=44)) hb ((b.length - 24) / 20) fuel 24 [] (by omega) (cn (by omega)) (by simp; omega);rw [cQ,ac (show ¬b.length=24 by omega),show (((b.length:Int)==44):Bool)=decide (b.length=44) from TM _ 44,show (24:Int)=((24:Nat):Int) from rfl,L24]
theorem fC3 {b:Bs} (hb:b.length<=100000):FS (b,())=some (((dJ b).1,(dJ b).2.1,(dJ b).2.2,()),()):=by
 show GJ fuel (b,())=_;rw [e49,fM7 hb,aa];dsimp only;refine bZ (fun he=>?_) (fun he=>?_)
 ·unfold dJ; rw [ab he]
 obtain ⟨h1,h2,h3,h4,_,_,h5⟩:=Bv he;have hl:(bH b 4 20).length=20:=iD (p:=4) (n:=20) (by omega);rw [cN (i:=1) (by omega),aa];have e1:bt b 1=(((b[1]?.getD 0).toNat:Nat):Int):=rfl;rw [<- e1];have L4:=On (n:=fuel) (cmd:=bt b 0) (ver:=bt b 1) (says:=[]) (alone:=decide (b.length=24)) (st:=4) hb (by omega) (by omega) rfl rfl (by rw [Bool.eq_iff_iff,beq_iff_eq,decide_eq_true_eq]; omega) ((b.length - 4) / 20) fuel 4 [] (by omega) (cn (by omega)) (by simp; omega);have no:¬(bt b 1=2/\gZ (bH b 4 20)=true)->(po fuel fuel b 4 ([]:at1) [] 4)=some (((dJ b).1,(dJ b).2.1,(dJ b).2.2,()),()):=fun hn=>by
  have:=L4;rw [show (((4:Nat):Int))=4 from rfl] at this;rw [this];unfold dJ; rw [ac (fun c=>c he),ac hn]
 refine bR (fun hv=>?_) (fun hv=>no (fun c=>hv c.1));rw [ab (by omega),show (List.take 24 b).drop 4=bH b 4 20 from rfl,Po hl,aa];dsimp only;cases ha:gZ (bH b 4 20) with
 | false=>rw [cV]; exact no (by rw [ha]; simp)
 | true=>
  rw [cQ,ab (by omega),fM8 hl ha,aa];have hp:dJ b=(if b.length=24 then ([],24,8) else eC (rt (bt b 0) (bt b 1) ((bH b 4 20).drop 2) (decide (b.length=44))) b ((b.length - 24) / 20) 24 []):=by
   unfold dJ; rw [ac (fun c=>c he),ab ⟨hv,ha⟩]
  rw [hp];refine bR (fun hq=>?_) (fun hq=>?_)
  ·rw [ab (by omega)]
  ·have L24:=On (n:=fuel) (cmd:=bt b 0) (ver:=bt b 1) (says:=(bH b 4 20).drop 2) (alone:=decide (b.length=44)) (st:=24) hb (by omega) (by omega) rfl rfl (by rw [Bool.eq_iff_iff,beq_iff_eq,decide_eq_true_eq]; omega) ((b.length - 24) / 20) fuel 24 [] (by omega) (cn (by omega)) (by simp; omega);rw [show (((24:Nat):Int))=24 from rfl] at L24;dsimp only;rw [ac (show ¬b.length=24 by omega),L24]
end Go.VP
namespace Go.VP
open Go Go.VI
theorem g29 {x:Int} (h:0<=x):cb .i64 x 8=x / 256:=by
 unfold cb;rw [show (2:Int) ^ (min (8:Int).toNat IntKind.i64.bits)=256 by decide];exact Int.fdiv_eq_ediv_of_nonneg _ (by decide)
theorem Mf {c:Nat}:∀ (i m:Nat) (x:Int) (acc:Bs),i<=acc.length->acc.length<=100->i < m->0<=x->tG c m x ((i:Int) - 1) acc=some ((be i x++acc.drop i,true,()),())
 | 0,m,x,acc,h1,h2,hm,hx=>by
  obtain ⟨m,rfl⟩:∃ k,m=k+1:=⟨m - 1,by omega⟩;rw [yW,bN (by omega)]; simp [be]
 | i+1,m,x,acc,h1,h2,hm,hx=>by
  obtain ⟨m,rfl⟩:∃ k,m=k+1:=⟨m - 1,by omega⟩;have e:(((i+1:Nat):Int) - 1)=(i:Int):=by omega
  rw [yW,e,bP (by omega),ab (by omega),Int.toNat_natCast,ab (by omega),bL (by omega) (by omega),g29 hx,Mf i m (x / 256) _ (by simp; omega) (by simp; omega) (by omega) (by omega),f8,be];have:(acc.set i (bF (x % 256))).drop i=bF (x % 256)::acc.drop (i+1):=by
   rw [List.drop_eq_getElem_cons (by simp; omega),List.getElem_set_self,List.drop_set_of_lt (by omega)]
  rw [this]; simp
theorem xV {n:Int} {k:Nat} (hn:IntKind.has .i64 n) (h1:1<=k) (h7:k<=7) (hf:b6 n k=true):jw (n,(k:Int),())=some ((be k n,true,()),()):=by
 show AC fuel (n,(k:Int),())=_;have h0:0<=n:=by unfold b6 at hf; rw [decide_eq_true_eq] at hf; exact hf.1
 rw [OJ,ip hn h1 h7,aa,hf];dsimp only;have hr:(k:Int)<=dI:=by unfold dI; omega
 rw [b7,ab ⟨by omega,hr⟩,bL (by omega) (by omega),Int.toNat_natCast,Mf k fuel n _ (by simp) (by simp; omega) (cn (by omega)) h0];simp
def ga (e:bG):Bs:=be 2 e.family++be 2 e.tag++e.addr++e.mask++e.next++be 4 e.aj
theorem rp {n:Int} (h:0<=n/\n<=65535):b6 n 2=true:=by unfold b6; rw [decide_eq_true_eq]; omega
theorem FO {n:Int} (h:0<=n/\n<=4294967295):b6 n 4=true:=by unfold b6; rw [decide_eq_true_eq]; omega
theorem fC4 {e:bG} (h:gg e):pX (e,())=some ((ga e,true,()),()):=by
 have h1:=h.addr; have h2:=h.mask; have h3:=h.next; have h4:=h.fam; have h5:=h.tag; have h6:=h.aj;have hf:IntKind.has .i64 e.family:=cx.2 (by omega);have ht:IntKind.has .i64 e.tag:=cx.2 (by omega);have hm:IntKind.has .i64 e.aj:=cx.2 (by omega);have a1:=ip (k:=4) hm (by omega) (by omega);have a2:=ip (k:=2) hf (by omega) (by omega);have a3:=ip (k:=2) ht (by omega) (by omega);have b1:=xV (k:=2) hf (by omega) (by omega) (rp h4);have b2:=xV (k:=2) ht (by omega) (by omega) (rp h5);have b3:=xV (k:=4) hm (by omega) (by omega) (FO h6);rw [FO h6] at a1; rw [rp h4] at a2; rw [rp h5] at a3;rw [show ((2:Nat):Int)=2 from rfl] at *;rw [show ((4:Nat):Int)=4 from rfl] at *;rw [YM,ac (by simp; omega),ac (by simp; omega),ac (by simp; omega),a1,aa];dsimp only;rw [b7,a2,aa];dsimp only;rw [b7,a3,aa];dsimp only;rw [b7,b1,aa,b2,aa,b3,aa];dsimp only;have l2:=cm 2;have l4:=cm 4;rw [ab (bW (by simp [l2])),ab (bW (by simp [l2,h1])),ab (bW (by simp [l2,h1,h2])),ab (bW (by simp [l2,h1,h2,h3])),ab (bW (by simp [l2,l4,h1,h2,h3]))]
 rfl
theorem xo {n:Int} {k:Nat} (hf:b6 n k=true):eJ n k=(be k n,true):=by unfold eJ; rw [ab hf]
theorem fs2 {e:bG} (h:gg e):qx (e,())=some ((ga e,true,()),()):=by
 have h1:=h.addr; have h2:=h.mask; have h3:=h.next; have h4:=h.fam; have h5:=h.tag; have h6:=h.aj;have hf:IntKind.has .i64 e.family:=cx.2 (by omega);have ht:IntKind.has .i64 e.tag:=cx.2 (by omega);have hm:IntKind.has .i64 e.aj:=cx.2 (by omega);have b1:=sU (k:=2) hf (by omega) (by omega);have b2:=sU (k:=2) ht (by omega) (by omega);have b3:=sU (k:=4) hm (by omega) (by omega);rw [xo (rp h4)] at b1; rw [xo (rp h5)] at b2; rw [xo (FO h6)] at b3;rw [show ((2:Nat):Int)=2 from rfl] at *;rw [show ((4:Nat):Int)=4 from rfl] at *;rw [ew7,b1,aa,b2,aa,b3,aa];dsimp only;rw [b7,b7,b7,ac (by simp; omega),ac (by simp; omega),ac (by simp; omega)];have l2:=cm 2;have l4:=cm 4;rw [ab (bW (by simp [l2])),ab (bW (by simp [l2,h1])),ab (bW (by simp [l2,h1,h2])),ab (bW (by simp [l2,h1,h2,h3])),ab (bW (by simp [l2,l4,h1,h2,h3]))]
 rfl
def dL (m:bD):bG:=⟨m.family,m.tag,m.ah,(if m.family=2/\m.ver=2 then eD m.af else z4),m.next,m.aj⟩
def fd (m:bD):Bs:=ga (dL m)
theorem vM {m:bD} (h:cG m):gg (dL m):=by
 obtain ⟨_,_,_,_,hp,hn,_,h⟩:=h;refine ⟨?_,?_,hp,?_,hn,?_⟩
 ·show 0<=m.family/\m.family<=65535; omega
 ·show 0<=m.tag/\m.tag<=65535; omega
 ·unfold dL; dsimp only; split
  ·exact Yf _
  ·rfl
 ·show 0<=m.aj/\m.aj<=4294967295; omega
theorem rJ {m:bD} (h:cG m):(fd m).length=20:=by
 have g:=vM h;unfold fd ga;have h1:=g.addr; have h2:=g.mask; have h3:=g.next;simp [cm,h1,h2,h3]
theorem g30:iT (4,())=some ((z4,()),()):=by
 rw [Cx,ab (by unfold dI; decide)]; rfl
theorem fW6 {m:bD} (h:cG m):tr (m,())=some ((fd m,()),()):=by
 have g:=fC4 (vM h);rw [eR4,g30,aa];refine bR (fun f2=>bR (fun v2=>?_) (fun v2=>?_)) (fun f2=>?_)
 ·have hp:0<=m.af/\m.af<=32:=by obtain ⟨_,_,_,_,_,_,_,h⟩:=h; omega
  rw [GC hp.1 hp.2,aa];have e:dL m=⟨m.family,m.tag,m.ah,eD m.af,m.next,m.aj⟩:=by unfold dL; rw [ab ⟨f2,v2⟩]
  rw [e] at g;dsimp only;rw [g,aa,<- e]; rfl
 ·have e:dL m=⟨m.family,m.tag,m.ah,z4,m.next,m.aj⟩:=by unfold dL; rw [ac (fun c=>v2 c.2)]
  rw [e] at g;dsimp only;rw [g,aa,<- e]; rfl
 ·have e:dL m=⟨m.family,m.tag,m.ah,z4,m.next,m.aj⟩:=by unfold dL; rw [ac (fun c=>f2 c.1)]
  rw [e] at g;dsimp only;rw [g,aa,<- e]; rfl
theorem fN1 {m:bD} (h:cG m):uO (m,())=some ((fd m,()),()):=by
 have g:=fs2 (vM h);rw [ej5,zS,aa];refine bR (fun f2=>bR (fun v2=>?_) (fun v2=>?_)) (fun f2=>?_)
 ·have hp:0<=m.af/\m.af<=32:=by obtain ⟨_,_,_,_,_,_,_,h⟩:=h; omega
  rw [Vr hp.1 hp.2,aa];have e:dL m=⟨m.family,m.tag,m.ah,eD m.af,m.next,m.aj⟩:=by unfold dL; rw [ab ⟨f2,v2⟩]
  rw [e] at g;dsimp only;rw [g,aa,<- e]; rfl
 ·have e:dL m=⟨m.family,m.tag,m.ah,z4,m.next,m.aj⟩:=by unfold dL; rw [ac (fun c=>v2 c.2)]
  rw [e] at g;dsimp only;rw [g,aa,<- e]; rfl
 ·have e:dL m=⟨m.family,m.tag,m.ah,z4,m.next,m.aj⟩:=by unfold dL; rw [ac (fun c=>f2 c.1)]
  rw [e] at g;dsimp only;rw [g,aa,<- e]; rfl
def gx (f m:bD):Prop:=m.cmd=f.cmd/\m.ver=f.ver/\m.aC=f.aC/\m.family≠0/\f.family≠0
instance (f m:bD):Decidable (gx f m):=by unfold gx; infer_instance
def fU (f:bD) (most:Int):List bD->Nat->Bs->Bs × Int × Int
 | [],_,acc=>(acc,0,0)
 | m::r,i,acc=>if (i:Int)=most then ([],(i:Int),8) else if 0 < i/\¬gx f m then ([],(i:Int),7) else fU f most r (i+1) (acc++fd m)
theorem X7 (f m:bD):∃ b,yn (f,m,())=some ((b,()),())/\(b=true↔gx f m):=by
 rw [dO9];by_cases h1:m.cmd=f.cmd
 ·rw [ab (by simp [h1])];by_cases h2:m.ver=f.ver
  ·rw [ab (by simp [h2])];by_cases h3:m.aC=f.aC
   ·rw [ab (by simp [h3])];by_cases h4:m.family=0
    ·rw [ac (by simp [h4])]; exact ⟨_,rfl,by simp [gx,h4]⟩
    ·rw [ab (by simp [h4])]; exact ⟨_,rfl,by simp [gx,h1,h2,h3,h4]⟩
   ·rw [ac (by simpa using h3)]; exact ⟨_,rfl,by simp [gx,h3]⟩
  ·rw [ac (by simpa using h2)]; exact ⟨_,rfl,by simp [gx,h2]⟩
 ·rw [ac (by simpa using h1)]; exact ⟨_,rfl,by simp [gx,h1]⟩
theorem fC5 {n:Nat} {l:List bD} {f:bD} {most:Int} (hf:l[0]?=some f) (hok:∀ m∈l,cG m) (hl:l.length<=1000):∀ (d m i:Nat) (acc:Bs),i+d=l.length->d < m->acc.length<=1000+20 * i->
  p8 n m l most acc i=some (((fU f most (l.drop i) i acc).1,(fU f most (l.drop i) i acc).2.1,(fU f most (l.drop i) i acc).2.2,()),()):=by
 intro d
 induction d with
 | zero=>
  intro m i acc hd hm ha;obtain ⟨m,rfl⟩:∃ k,m=k+1:=⟨m - 1,by omega⟩;rw [Ti,bN (by omega),List.drop_eq_nil_of_le (by omega)]; rfl
 | succ d ih=>
  intro m i acc hd hm ha;obtain ⟨m,rfl⟩:∃ k,m=k+1:=⟨m - 1,by omega⟩;have hi:i < l.length:=by omega
  have ho:=hok _ (List.getElem_mem hi);have:=ih m (i+1) (acc++fd l[i]) (by omega) (by omega) (by simp [rJ ho]; omega);rw [show ((i+1:Nat):Int)=(i:Int)+1 by omega] at this;rw [Ti,bP (by omega),ab (by omega),Int.toNat_natCast,ck hi,List.drop_eq_getElem_cons hi,hf,aa,fW6 ho,aa,ab (d7 (by rw [rJ ho]; omega)),bL (by omega) (by omega),this,fU];refine bR (fun h=>?_) (fun h=>?_)
  ·rw [ab h]
  rw [ac h];obtain ⟨b,hb,hb'⟩:=X7 f l[i];rw [hb,aa];refine cF (fun h0=>?_) (fun h0=>?_)
  ·refine jU (fun hz=>?_) (fun hz=>?_)
   ·rw [ab ⟨by omega,by rw [<- hb']; dsimp only at hz; rw [hz]; simp⟩]
   ·rw [ac (fun c=>c.2 (hb'.1 hz))]
  ·rw [ac (fun c=>h0 (by omega))]
theorem fs3 {n:Nat} {l:List bD} {f:bD} {most:Int} (hf:l[0]?=some f) (hok:∀ m∈l,cG m) (hl:l.length<=1000) (hmost:0<=most):∀ (d m i:Nat) (acc:Bs),i+d=l.length->d < m->(i:Int)<=most->acc.length<=1000+20 * i->
  pU n m l f most acc i=some (((fU f most (l.drop i) i acc).1,(fU f most (l.drop i) i acc).2.1,(fU f most (l.drop i) i acc).2.2,()),()):=by
 intro d
 induction d with
 | zero=>
  intro m i acc hd hm hmo ha;obtain ⟨m,rfl⟩:∃ k,m=k+1:=⟨m - 1,by omega⟩;rw [Lu,bN (by omega),List.drop_eq_nil_of_le (by omega)]; rfl
 | succ d ih=>
  intro m i acc hd hm hmo ha;obtain ⟨m,rfl⟩:∃ k,m=k+1:=⟨m - 1,by omega⟩;have hi:i < l.length:=by omega
  have ho:=hok _ (List.getElem_mem hi);rw [Lu,bP (by omega),List.drop_eq_getElem_cons hi,fU];refine cF (fun h=>?_) (fun h=>?_)
  ·rw [ab (show (i:Int)=most by omega)]
  have:=ih m (i+1) (acc++fd l[i]) (by omega) (by omega) (by omega) (by simp [rJ ho]; omega);rw [show ((i+1:Nat):Int)=(i:Int)+1 by omega] at this;rw [ac (show ¬(i:Int)=most by omega)];have hp:0<=(i:Int):=by omega
  have hfi:i=0->l[i]=f:=fun h0=>by
   subst h0;rw [List.getElem?_eq_getElem hi] at hf; exact Option.some.inj hf
  simp only [ab hp,Int.toNat_natCast,List.getElem?_eq_getElem hi,aa,fN1 ho];rw [ab (bW (by rw [rJ ho]; omega)),bL (by omega) (by omega),this];have key:¬gx f l[i]->0 < i->(some (([],(i:Int),7,()),()):Option ((Bs × Int × Int × Unit) × Unit))=some (((if 0 < i/\¬gx f l[i] then ([],(i:Int),7) else fU f most (List.drop (i+1) l) (i+1) (acc++fd l[i])).1,(if 0 < i/\¬gx f l[i] then ([],(i:Int),7) else fU f most (List.drop (i+1) l) (i+1) (acc++fd l[i])).2.1,(if 0 < i/\¬gx f l[i] then ([],(i:Int),7) else fU f most (List.drop (i+1) l) (i+1) (acc++fd l[i])).2.2,()),()):=fun h h0=>by
   rw [ab ⟨h0,h⟩]
  have pos:∀ {P:Prop},¬P->(i=0->P)->0 < i:=fun {P} h h'=>by
   rcases Nat.eq_zero_or_pos i with h0 | h0
   ·exact absurd (h' h0) h
   ·exact h0
  refine bZ (fun hc=>?_) (fun hc=>?_)
  ·exact key (fun c=>hc c.1) (pos hc (fun h0=>by rw [hfi h0]))
  refine bZ (fun hv=>?_) (fun hv=>?_)
  ·exact key (fun c=>hv c.2.1) (pos hv (fun h0=>by rw [hfi h0]))
  refine q8 (fun ha=>?_) (fun ha=>?_)
  ·exact key (fun c=>ha c.2.2.1) (pos ha (fun h0=>by rw [hfi h0]))
  refine cF (fun h0=>?_) (fun h0=>?_)
  ·refine bR (fun h1=>key (fun c=>c.2.2.2.2 h1) (by omega)) (fun h1=>?_);refine bR (fun h2=>key (fun c=>c.2.2.2.1 h2) (by omega)) (fun h2=>?_);rw [ac (fun c=>c.2 ⟨hc,hv,ha,h2,h1⟩)]
  ·rw [ac (fun c=>h0 (by omega))]
open Classical in
def iR:List bD->Nat->Option Nat
 | [],_=>none
 | m::r,i=>if cG m then iR r (i+1) else some i
def gp (f:bD):Int:=if f.aC=[] then 25 else 24
def fj (f:bD):Bs:=[bF (f.cmd % 256),bF (f.ver % 256),0,0]++(if f.aC=[] then [] else [255,255]++f.aC)
def eW (l:List bD):Bs × Int × Int:=match iR l 0 with
 | some i=>([],(i:Int),1)
 | none=>match l with
  | []=>([],0,8)
  | f::_=>fU f (gp f) l 0 (fj f)
theorem wB:∀ {l:List bD} {i:Nat},iR l i=none->∀ m∈l,cG m
 | [],_,_,m,hm=>by cases hm
 | x::r,i,h,m,hm=>by
  unfold iR at h;split at h
  ·rename_i hx;rcases List.mem_cons.1 hm with rfl | hm
   ·exact hx
   ·exact wB h m hm
  ·cases h
theorem WI:∀ {l:List bD} {i:Nat},(∀ m∈l,cG m)->iR l i=none
 | [],_,_=>rfl
 | x::r,i,h=>by
  unfold iR; rw [ab (h x (by simp))]; exact WI (fun m hm=>h m (by simp [hm]))
theorem DB {f:bD} (h:cG f):(fj f).length=if f.aC=[] then 4 else 24:=by
 obtain ⟨_,_,_,_,_,_,ha,_⟩:=h;unfold fj;by_cases e:f.aC=[]
 ·rw [ab e,ab e]; rfl
 ·rw [ac e,ac e];have:f.aC.length=18:=by rcases ha with h | h; exact absurd h e; exact h.2
  simp [this]
theorem Zu {l:List bD} (g:∀ m∈l,RM m) (hl:l.length<=1000):Fa (l,())=some (((eW l).1,(eW l).2.1,(eW l).2.2,()),()):=by
 show Jj fuel (l,())=_;rw [el2];have main:∀ (d m i:Nat),i+d=l.length->d < m->iR l 0=iR (l.drop i) i->yO fuel m l i=some (((eW l).1,(eW l).2.1,(eW l).2.2,()),()):=by
  intro d
  induction d with
  | zero=>
   intro m i hd hm hb;obtain ⟨m,rfl⟩:∃ k,m=k+1:=⟨m - 1,by omega⟩;rw [List.drop_eq_nil_of_le (by omega)] at hb;have hn:iR l 0=none:=hb;have hok:=wB hn;rw [WB,bN (by omega)];cases l with
   | nil=>rfl
   | cons f r=>
    have hf:=hok f (by simp);have hl4:=DB hf;have he:eW (f::r)=fU f (gp f) (f::r) 0 (fj f):=by unfold eW; rw [hn]
    rw [he,ac (by simp; omega)];simp only [List.getElem?_cons_zero,aa];have L:=fun (most:Int) (acc:Bs) (h:acc.length<=1000)=>fC5 (n:=fuel) (f:=f) (most:=most) (l:=f::r) rfl hok hl (f::r).length fuel 0 acc (by omega) (cn (by omega)) (by omega)
    rw [eR3,f8,f8];by_cases ha:f.aC=[]
    ·rw [ab (by simp [ha]),aa];have e1:fj f=[bF (f.cmd % 256),bF (f.ver % 256),0,0]:=by unfold fj; rw [ab ha]; rfl
     have e2:gp f=25:=by unfold gp; rw [ab ha]
     dsimp only;rw [cV,e1,e2];exact L 25 _ (by simp)
    ·have h18:f.aC.length=18:=by
      obtain ⟨_,_,_,_,_,_,ha',_⟩:=hf;rcases ha' with h | h
      ·exact absurd h ha
      ·exact h.2
     rw [ac (by simp; omega),ab (bW (by omega)),aa];have e1:fj f=[bF (f.cmd % 256),bF (f.ver % 256),0,0]++([255,255]++f.aC):=by unfold fj; rw [ac ha]
     have e2:gp f=24:=by unfold gp; rw [ac ha]
     dsimp only;rw [cQ,ab (d7 (by simp; omega)),e1,e2];exact L 24 _ (by simp; omega)
  | succ d ih=>
   intro m i hd hm hb;obtain ⟨m,rfl⟩:∃ k,m=k+1:=⟨m - 1,by omega⟩;have hi:i < l.length:=by omega
   rw [List.drop_eq_getElem_cons hi,iR] at hb;rw [WB,bP (by omega),ab (by omega),Int.toNat_natCast,ck hi,FL (g _ (List.getElem_mem hi)),aa];dsimp only;by_cases ho:cG l[i]
   ·rw [ab ho] at hb;have:=ih m (i+1) (by omega) (by omega) hb;rw [jn.2 ho,b7,bL (by omega) (by omega)];exact this
   ·rw [ac ho] at hb;have:fw l[i]=false:=by cases e':fw l[i] with | false=>rfl | true=>exact absurd (jn.1 e') ho
    rw [this,cK];unfold eW; rw [hb]
 exact main l.length fuel 0 (by omega) (cn (by omega)) rfl
theorem fW7 {l:List bD} (g:∀ m∈l,RM m) (hl:l.length<=1000):Gw (l,())=some (((eW l).1,(eW l).2.1,(eW l).2.2,()),()):=by
 show Dh fuel (l,())=_;rw [dO2];have main:∀ (d m i:Nat),i+d=l.length->d < m->iR l 0=iR (l.drop i) i->yK fuel m l i=some (((eW l).1,(eW l).2.1,(eW l).2.2,()),()):=by
  intro d
  induction d with
  | zero=>
   intro m i hd hm hb;obtain ⟨m,rfl⟩:∃ k,m=k+1:=⟨m - 1,by omega⟩;rw [List.drop_eq_nil_of_le (by omega)] at hb;have hn:iR l 0=none:=hb;have hok:=wB hn;rw [Vg,bN (by omega)];cases l with
   | nil=>rfl
   | cons f r=>
    have hf:=hok f (by simp);have he:eW (f::r)=fU f (gp f) (f::r) 0 (fj f):=by unfold eW; rw [hn]
    have hc:0<=f.cmd/\f.cmd < 256:=by obtain ⟨_,_,hc,_⟩:=hf; omega
    have hv:0<=f.ver/\f.ver < 256:=by obtain ⟨_,_,_,hv,_⟩:=hf; omega
    have r1:=nX (n:=f.cmd) (k:=1) (cx.2 (by omega)) (by omega) (by omega);have r2:=nX (n:=f.ver) (k:=1) (cx.2 (by omega)) (by omega) (by omega);rw [xo (by unfold b6; rw [decide_eq_true_eq]; omega)] at r1 r2;rw [show ((1:Nat):Int)=1 from rfl] at r1 r2;rw [he,ac (by simp; omega)];simp only [List.getElem?_cons_zero,aa,r1,r2];rw [show be 1 f.cmd=[bF (f.cmd % 256)] from rfl,show be 1 f.ver=[bF (f.ver % 256)] from rfl];rw [ab (bW (by simp)),ab (bW (by simp))];have L:=fun (most:Int) (acc:Bs) (h:acc.length<=1000) (h0:0<=most)=>fs3 (n:=fuel) (f:=f) (most:=most) (l:=f::r) rfl hok hl h0 (f::r).length fuel 0 acc (by omega) (cn (by omega)) (by omega) (by omega)
    by_cases ha:f.aC=[]
    ·have e1:fj f=([bF (f.cmd % 256)]++[bF (f.ver % 256)])++[0,0]:=by unfold fj; rw [ab ha]; rfl
     have e2:gp f=25:=by unfold gp; rw [ab ha]
     rw [ac (by simp [ha]),e1,e2];exact L 25 _ (by simp) (by omega)
    ·have h18:f.aC.length=18:=by
      obtain ⟨_,_,_,_,_,_,ha',_⟩:=hf;rcases ha' with h | h
      ·exact absurd h ha
      ·exact h.2
     have e1:fj f=(([bF (f.cmd % 256)]++[bF (f.ver % 256)])++[0,0])++([255,255]++f.aC):=by unfold fj; rw [ac ha]; rfl
     have e2:gp f=24:=by unfold gp; rw [ac ha]
     rw [ab (by simpa using ha),ew6,ac (by simp; omega),ab (bW (by omega)),aa];dsimp only;rw [ab (bW (by simp; omega)),e1,e2];exact L 24 _ (by simp; omega) (by omega)
  | succ d ih=>
   intro m i hd hm hb;obtain ⟨m,rfl⟩:∃ k,m=k+1:=⟨m - 1,by omega⟩;have hi:i < l.length:=by omega
   rw [List.drop_eq_getElem_cons hi,iR] at hb;rw [Vg,bP (by omega),ab (by omega),Int.toNat_natCast,ck hi,DZ (g _ (List.getElem_mem hi)),aa];dsimp only;by_cases ho:cG l[i]
   ·rw [ab ho] at hb;have:=ih m (i+1) (by omega) (by omega) hb;rw [jn.2 ho,b7,bL (by omega) (by omega)];exact this
   ·rw [ac ho] at hb;have:fw l[i]=false:=by cases e':fw l[i] with | false=>rfl | true=>exact absurd (jn.1 e') ho
    rw [this,cK];unfold eW; rw [hb]
 exact main l.length fuel 0 (by omega) (cn (by omega)) rfl
end Go.VP
namespace Go.VP
open Go Go.VI
theorem g33 {m:bD} (g:pt m) (h:oD m):RM m:=by
 obtain ⟨g1,g2,g3,g4,g5,g6,g7,g8,g9,g10,g11,g12,g13,g14,g15,g16,g17,g18,g19,g20,g21,_⟩:=g;exact ⟨g9,g8,by have:=h.list; omega,by have:=h.subs; omega⟩
theorem II {P:bD->Prop} {f:bG->bD × Int} {b:Bs} (hf:∀ e,P (f e).1):∀ (k at_:Nat) (acc:List bD),(∀ m∈acc,P m)->∀ m∈(eC f b k at_ acc).1,P m
 | 0,_,acc,h=>h
 | k+1,at_,acc,h=>by
  rw [eC];split
  ·intro m hm; cases hm
  ·exact II hf k (at_+20) _ (fun m hm=>by
    rcases List.mem_append.1 hm with hm | hm
    ·exact h m hm
    ·rw [List.mem_singleton] at hm; rw [hm]; exact hf _)
theorem fs4 {P:bD->Prop} {b:Bs} (hP:∀ c v s e,P (dG c v s e)):∀ m∈(dJ b).1,P m:=by
 unfold dJ;split
 ·intro m hm; cases hm
 split
 ·split
  ·intro m hm; cases hm
  ·exact II (fun e=>hP _ _ _ e) _ _ _ (fun m hm=>by cases hm)
 ·exact II (fun e=>hP _ _ _ e) _ _ _ (fun m hm=>by cases hm)
end Go.VP
namespace Go.VP
open Go Go.VI
theorem Nq (c v:Int) (s:Bs) (e:bG):cM (dG c v s e)=true:=by
 have:dv (dG c v s e)=some (dG c v s e):=by unfold dv; rw [ab (show (dG c v s e).kind=1 from rfl)]; rfl
 unfold cM; rw [this]; exact iA _
theorem tb (s:Bs) (p q n m:Nat) (h:q=p+n):bH s p n++bH s q m=bH s p (n+m:Nat):=by
 subst h;unfold bH;rw [show ((p:Int)+(n:Int)).toNat=p+n by omega,show (((p+n:Nat):Int)+(m:Int)).toNat=p+n+m by omega,show ((p:Int)+((n+m:Nat):Int)).toNat=p+n+m by omega,Int.toNat_natCast,Int.toNat_natCast];rw [List.drop_take,List.drop_take,List.drop_take,<- List.drop_drop,show p+n - p=n by omega,show p+n+m - (p+n)=m by omega,show p+n+m - p=n+m by omega,List.take_add]
theorem VM {s:Bs} {p:Nat} (h:p+2<=s.length):be 2 (b5 (bH s p 2))=bH s p 2:=Ay 2 _ (iD (n:=2) h)
theorem fW8 {s:Bs} {p:Nat} (h:p+4<=s.length):be 4 (b5 (bH s p 4))=bH s p 4:=Ay 4 _ (iD (n:=4) h)
theorem fC6 {s:Bs} (h:s.length=20):ga (ik s)=s:=by
 unfold ga ik;dsimp only;have a:=VM (s:=s) (p:=0) (by omega);have b:=VM (s:=s) (p:=2) (by omega);have c:=fW8 (s:=s) (p:=16) (by omega);rw [show ((0:Nat):Int)=0 from rfl] at a;rw [show ((2:Nat):Int)=2 from rfl] at b;rw [show ((16:Nat):Int)=16 from rfl] at c;rw [a,b,c];have e1:bH s 0 2++bH s 2 2=bH s 0 4:=tb s 0 2 2 2 rfl;have e2:bH s 0 4++bH s 4 4=bH s 0 8:=tb s 0 4 4 4 rfl;have e3:bH s 0 8++bH s 8 4=bH s 0 12:=tb s 0 8 8 4 rfl;have e4:bH s 0 12++bH s 12 4=bH s 0 16:=tb s 0 12 12 4 rfl;have e5:bH s 0 16++bH s 16 4=bH s 0 20:=tb s 0 16 16 4 rfl;have f:bH s 0 20=s:=by unfold bH; simp [<- h]
 rw [e1,e2,e3,e4,e5,f]
theorem fs5 {c v:Int} {s:Bs} {al:Bool} {e:bG} (h:gg e) (hc:c=1\/c=2) (hv:v=1\/v=2) (hs:s=[]\/(v=2/\s.length=18)) (he:dD c v s al e=0):cG (dG c v s e)/\dL (dG c v s e)=e/\(e.family=0->al=true):=by
 unfold dD at he;by_cases f0:e.family=0
 ·rw [ab f0] at he;split at he
  ·rename_i hh;obtain ⟨ha,hm,ho⟩:=hh;refine ⟨ho,?_,fun _=>ha⟩;unfold dL dG;dsimp only;rw [ac (by omega),<- hm]
  ·simp at he
 rw [ac f0] at he;split at he
 ·simp at he
 rename_i f2;have f2:e.family=2:=by omega
 have h1:=h.tag;by_cases v1:v=1
 ·rw [ab v1] at he;split at he
  ·simp at he
  rename_i hz;split at he
  ·simp at he
  rename_i hm;have hz1:e.tag=0:=by grind
  have hz2:e.mask=z4:=by grind
  have hz3:e.next=z4:=by grind
  refine ⟨⟨rfl,Nq ..,hc,hv,h.addr,h.next,hs,.inr ⟨f2,?_,?_,.inl ⟨v1,hz1,?_,hz3⟩⟩⟩,?_,fun c=>absurd c f0⟩
  ·show 1<=e.aj; omega
  ·show e.aj<=16; omega
  ·show (if e.family=0 then (0:Int) else if v=1 then 32 else (dW e.mask).1)=32;rw [ac f0,ab v1]
  ·unfold dL dG;dsimp only;rw [ac (by omega),<- hz2]
 ·rw [ac v1] at he;split at he
  ·simp at he
  rename_i hp;split at he
  ·simp at he
  rename_i hm;have hp1:(dW e.mask).2=true:=by grind
  have hp2:fN e.addr (dW e.mask).1=true:=by grind
  have hk:=GK hp1;have hpl:(dG c v s e).af=(dW e.mask).1:=by
   show (if e.family=0 then (0:Int) else if v=1 then 32 else (dW e.mask).1)=_;rw [ac f0,ac v1]
  refine ⟨⟨rfl,Nq ..,hc,hv,h.addr,h.next,hs,.inr ⟨f2,?_,?_,.inr ⟨?_,?_,?_,?_,?_,?_⟩⟩⟩,?_,fun c=>absurd c f0⟩
  ·show 1<=e.aj; omega
  ·show e.aj<=16; omega
  ·show v=2; omega
  ·show 0<=e.tag; omega
  ·show e.tag<=65535; omega
  ·rw [hpl]; omega
  ·rw [hpl]; omega
  ·rw [hpl]; exact hp2
  ·unfold dL;rw [hpl,ab (show (dG c v s e).family=2/\(dG c v s e).ver=2 from ⟨f2,by show v=2; omega⟩),hk.2.2]; rfl
theorem Ib {c v:Int} {s:Bs} {al:Bool} {b:Bs} (hc:c=1\/c=2) (hv:v=1\/v=2) (hs:s=[]\/(v=2/\s.length=18)):∀ (k at_:Nat) (acc:List bD),at_+20 * k=b.length->(eC (rt c v s al) b k at_ acc).2.2=0->
  ∃ r,(eC (rt c v s al) b k at_ acc)=(acc++r,0,0)/\r.length=k/\(∀ m∈r,cG m/\m.cmd=c/\m.ver=v/\m.aC=s/\(m.family=0->al=true))/\r.flatMap fd=b.drop at_
 | 0,at_,acc,h,_=>⟨[],by simp [eC],rfl,by simp,by simp; omega⟩
 | k+1,at_,acc,h,he=>by
  have hl:(bH b at_ 20).length=20:=iD (n:=20) (by omega);rw [eC] at he |-;by_cases h0:(rt c v s al (ik (bH b at_ 20))).2=0
  ·rw [ac (fun c=>c h0)] at he |-;obtain ⟨r,h1,h2,h3,h4⟩:=Ib hc hv hs k (at_+20) _ (by omega) he;obtain ⟨o1,o2,o3⟩:=fs5 (al:=al) (HI hl) hc hv hs h0;refine ⟨dG c v s (ik (bH b at_ 20))::r,by rw [h1]; simp [rt],by simp [h2],fun m hm=>?_,?_⟩
   ·rcases List.mem_cons.1 hm with rfl | hm
    ·exact ⟨o1,rfl,rfl,rfl,o3⟩
    ·exact h3 m hm
   ·rw [List.flatMap_cons,h4];unfold fd;rw [o2,fC6 hl];have:bH b at_ 20=(b.drop at_).take 20:=by
     unfold bH;rw [show ((at_:Int)+20).toNat=at_+20 by omega,Int.toNat_natCast,List.drop_take,show at_+20 - at_=20 by omega]
    rw [this,<- List.drop_drop,List.take_append_drop]
  ·rw [ab h0] at he; exact absurd he h0
theorem DR {f:bD} {most:Int}:∀ (l:List bD) (i:Nat) (acc:Bs),(i+l.length:Nat)<=most->(∀ (j:Nat) (h:j < l.length),0 < i+j->gx f l[j])->fU f most l i acc=(acc++l.flatMap fd,0,0)
 | [],i,acc,_,_=>by simp [fU]
 | m::r,i,acc,h,ht=>by
  rw [fU,ac (by simp at h; omega),ac (fun c=>c.2 (ht 0 (by simp) (by omega))),DR r (i+1) _ (by simp at h |-; omega) (fun j hj _=>by
   have:=ht (j+1) (by simp; omega) (by omega);simpa using this)]
  simp
end Go.VP
namespace Go.VP
open Go Go.VI
theorem fC7 (b:Bs):0<=(dZ b).1/\(dZ b).1<=b.length:=by
 unfold dZ;split
 ·simp
 split
 ·simp
 split
 ·dsimp only; omega
 split
 ·dsimp only; omega
 split
 ·simp
 split
 ·simp
 split
 ·dsimp only; omega
 ·simp
theorem FV {f:bG->bD × Int} {b:Bs}:∀ (k at_:Nat) (acc:List bD),at_+20 * k<=b.length->(eC f b k at_ acc).2.2≠0->(eC f b k at_ acc).1=[]/\0<=(eC f b k at_ acc).2.1/\(eC f b k at_ acc).2.1<=b.length
 | 0,at_,acc,h,he=>absurd rfl he
 | k+1,at_,acc,h,he=>by
  rw [eC] at he |-;split
  ·exact ⟨rfl,by dsimp only; omega,by dsimp only; omega⟩
  ·rename_i h0;rw [ac h0] at he;exact FV k (at_+20) _ (by omega) he
theorem Y8 {b:Bs} (h:(dJ b).2.2≠0):(dJ b).1=[]/\0<=(dJ b).2.1/\(dJ b).2.1<=b.length:=by
 unfold dJ at h |-;by_cases h0:(dZ b).2=0
 ·have hk:=Bv h0;rw [ac (fun c=>c h0)] at h |-;by_cases h1:bt b 1=2/\gZ (bH b 4 20)=true
  ·rw [ab h1] at h |-;by_cases h2:b.length=24
   ·rw [ab h2]; exact ⟨rfl,by dsimp only; omega,by dsimp only; omega⟩
   ·rw [ac h2] at h |-; exact FV _ _ _ (by omega) h
  ·rw [ac h1] at h |-; exact FV _ _ _ (by omega) h
 ·rw [ab h0]; exact ⟨rfl,fC7 b⟩
theorem fs7 {b:Bs} (h:(dJ b).2.2=0):∃ r,dJ b=(r,0,0)/\1<=r.length/\r.length<=25/\(∀ m∈r,cG m)/\eW r=(b,0,0):=by
 unfold dJ at h |-;by_cases h0:(dZ b).2=0
 rotate_left
 ·rw [ab h0] at h; exact absurd h h0
 obtain ⟨k1,k2,k3,k4,k5,k6,k7⟩:=Bv h0;rw [ac (fun c=>c h0)] at h |-;obtain ⟨w,x,y,z,t,rfl⟩:=uw (b:=b) (by omega);have e0:bt (w::x::y::z::t) 0=(w.toNat:Int):=rfl;have e1:bt (w::x::y::z::t) 1=(x.toNat:Int):=rfl;have hy:y=0:=kq (show (y.toNat:Int)=((0:UInt8).toNat:Int) from k5);have hz:z=0:=kq (show (z.toNat:Int)=((0:UInt8).toNat:Int) from k6);subst hy; subst hz;have fin:∀ (r:List bD) (s:Bs) (al:Bool) (at_:Nat),(s=[]\/(bt (w::x::0::0::t) 1=2/\s.length=18))->(al=true->r.length=1)->1<=r.length->r.length+(if s=[] then 0 else 1)<=25->
   (∀ m∈r,cG m/\m.cmd=bt (w::x::0::0::t) 0/\m.ver=bt (w::x::0::0::t) 1/\m.aC=s/\(m.family=0->al=true))->r.flatMap fd=(w::x::0::0::t).drop at_->[w,x,0,0]++(if s=[] then [] else [255,255]++s)=(w::x::0::0::t).take at_->eW r=(w::x::0::0::t,0,0):=by
  intro r s al at_ hs hal hr1 hr2 hm hfl htk;unfold eW;rw [WI (fun m h=>(hm m h).1)];cases r with
  | nil=>simp at hr1
  | cons f r=>
   obtain ⟨f1,f2,f3,f4,f5⟩:=hm f (by simp);dsimp only;have hmo:(((f::r).length:Nat):Int)<=gp f:=by
    unfold gp;rw [f4];by_cases hs0:s=[]
    ·rw [ab hs0] at hr2 |-; omega
    ·rw [ac hs0] at hr2 |-; omega
   rw [DR (f::r) 0 _ (by simpa using hmo) (fun j hj h0=>?_)]
   ·have:fj f=(w::x::0::0::t).take at_:=by
     rw [<- htk];unfold fj;rw [f2,f3,f4,e0,e1,lm (by omega),lm (by omega),mA,mA]
    rw [this,hfl,List.take_append_drop]
   ·obtain ⟨g1,g2,g3,g4,g5⟩:=hm ((f::r)[j]) (List.getElem_mem hj);have nal:¬al=true:=fun c=>by have:=hal c; omega
    exact ⟨by rw [g2,f2],by rw [g3,f3],by rw [g4,f4],fun c=>nal (g5 c),fun c=>nal (f5 c)⟩
 generalize hB:(w::x::0::0::t)=B at *;have hl:(bH B 4 20).length=20:=iD (p:=4) (n:=20) (by omega);have tk4:B.take 4=[w,x,0,0]:=by rw [<- hB]; rfl
 by_cases h1:bt B 1=2/\gZ (bH B 4 20)=true
 ·rw [ab h1] at h |-;by_cases h2:B.length=24
  ·rw [ab h2] at h; simp at h
  rw [ac h2] at h |-;have hs:((bH B 4 20).drop 2).length=18:=by simp [hl]
  obtain ⟨r,r1,r2,r3,r4⟩:=Ib k3 k4 (.inr ⟨h1.1,hs⟩) ((B.length - 24) / 20) 24 [] (by omega) h;rw [r1];refine ⟨r,by simp,by omega,by omega,fun m hm=>(r3 m hm).1,fin r _ _ 24 (.inr ⟨h1.1,hs⟩) (fun c=>by simp at c; omega) (by omega) (by split <;> omega) r3 r4 ?_⟩;have hne:¬((bH B 4 20).drop 2=[]):=fun c=>by rw [c] at hs; simp at hs
  rw [ac hne,<- tk4];have h2:(bH B 4 20).take 2=[255,255]:=by have:=h1.2; unfold gZ at this; simpa using this
  rw [<- h2,List.take_append_drop];have:bH B 4 20=(B.take 24).drop 4:=rfl;rw [this];have:=List.take_append_drop 4 (B.take 24);rw [List.take_take,show min 4 24=4 by decide] at this;exact this
 ·rw [ac h1] at h |-;obtain ⟨r,r1,r2,r3,r4⟩:=Ib k3 k4 (.inl rfl) ((B.length - 4) / 20) 4 [] (by omega) h;rw [r1];exact ⟨r,by simp,by omega,by omega,fun m hm=>(r3 m hm).1,fin r _ _ 4 (.inl rfl) (fun c=>by simp at c; omega) (by omega) (by simp; omega) r3 r4 (by rw [ab rfl,tk4]; rfl)⟩
end Go.VP
namespace Go.VP
open Go Go.VI
theorem Tq {f:bD} {most:Int}:∀ (l:List bD) (i:Nat) (acc:Bs),(i:Int)<=most->(fU f most l i acc).2.2=0->((i+l.length:Nat):Int)<=most/\(∀ (j:Nat) (h:j < l.length),0 < i+j->gx f l[j])
 | [],i,acc,hi,h=>⟨by simpa using hi,fun j hj=>by simp at hj⟩
 | m::r,i,acc,hi,h=>by
  rw [fU] at h;by_cases h1:(i:Int)=most
  ·rw [ab h1] at h; simp at h
  ·rw [ac h1] at h;by_cases h2:0 < i/\¬gx f m
   ·rw [ab h2] at h; simp at h
   ·rw [ac h2] at h;obtain ⟨a,b⟩:=Tq r (i+1) _ (by omega) h;refine ⟨by simp only [List.length_cons]; omega,fun j hj h0=>?_⟩;cases j with
    | zero=>
     show gx f m;exact Classical.byContradiction fun c=>h2 ⟨by omega,c⟩
    | succ j=>
     have:=b j (by simpa using hj) (by omega);simpa using this
theorem RI {n:Int} (h:0<=n/\n<=65535):b5 (be 2 n)=n:=oM 2 n h.1 (by omega)
theorem fW9 {n:Int} (h:0<=n/\n<=4294967295):b5 (be 4 n)=n:=oM 4 n h.1 (by omega)
theorem q9 (a m z:Bs) (p n:Int) (hp:p=a.length) (hn:n=m.length):bH (a++(m++z)) p n=m:=by
 subst hp; subst hn;unfold bH;rw [show ((a.length:Int)+(m.length:Int)).toNat=a.length+m.length by omega,Int.toNat_natCast,<- List.append_assoc,List.take_left' (by simp),List.drop_left' rfl]
theorem fC8 {e:bG} (h:gg e):ik (ga e)=e:=by
 obtain ⟨a,b,c,d,f,g⟩:=e;have h1:=h.addr; have h2:=h.mask; have h3:=h.next; have h4:=h.fam; have h5:=h.tag; have h6:=h.aj;dsimp only at h1 h2 h3 h4 h5 h6;have l2:=cm 2;have l4:=cm 4;have c1:bH (ga ⟨a,b,c,d,f,g⟩) 0 2=be 2 a:=by
  have:=q9 [] (be 2 a) (be 2 b++(c++(d++(f++be 4 g)))) 0 2 rfl (by rw [l2]; rfl);rw [<- this]; unfold ga; simp only [List.append_assoc,List.nil_append]
 have c2:bH (ga ⟨a,b,c,d,f,g⟩) 2 2=be 2 b:=by
  have:=q9 (be 2 a) (be 2 b) (c++(d++(f++be 4 g))) 2 2 (by rw [l2]; rfl) (by rw [l2]; rfl);unfold ga; simp only [List.append_assoc] at this |-; exact this
 have c3:bH (ga ⟨a,b,c,d,f,g⟩) 4 4=c:=by
  have:=q9 (be 2 a++be 2 b) c (d++(f++be 4 g)) 4 4 (by simp [l2]) (by rw [h1]; rfl);unfold ga; simp only [List.append_assoc] at this |-; exact this
 have c4:bH (ga ⟨a,b,c,d,f,g⟩) 8 4=d:=by
  have:=q9 (be 2 a++be 2 b++c) d (f++be 4 g) 8 4 (by simp [l2,h1]) (by rw [h2]; rfl);unfold ga; simp only [List.append_assoc] at this |-; exact this
 have c5:bH (ga ⟨a,b,c,d,f,g⟩) 12 4=f:=by
  have:=q9 (be 2 a++be 2 b++c++d) f (be 4 g) 12 4 (by simp [l2,h1,h2]) (by rw [h3]; rfl);unfold ga; simp only [List.append_assoc] at this |-; exact this
 have c6:bH (ga ⟨a,b,c,d,f,g⟩) 16 4=be 4 g:=by
  have:=q9 (be 2 a++be 2 b++c++d++f) (be 4 g) [] 16 4 (by simp [l2,h1,h2,h3]) (by rw [l4]; rfl);rw [<- this]; unfold ga; simp only [List.append_assoc,List.append_nil]
 unfold ik;rw [c1,c2,c3,c4,c5,c6,RI h4,RI h5,fW9 h6]
theorem fC9 {m:bD} (h1:m.kind=1) (h:cM m=true):m=⟨1,m.cmd,m.ver,m.aC,m.family,0,m.ah,m.af,m.tag,m.next,m.aj,[],0,0,0,0,0,0,0,[],[],[],0,[],[]⟩:=by
 have hb:dv m=some ⟨m.kind,m.cmd,m.ver,m.aC,m.family,0,m.ah,m.af,m.tag,m.next,m.aj,[],0,0,0,0,0,0,0,[],[],[],0,[],[]⟩:=by unfold dv; rw [ab h1]
 unfold cM at h;rw [hb] at h;have:=Mb.1 h;rw [h1] at this;exact this
theorem fs8 {m:bD} {al:Bool} (h:cG m) (ha:m.family=0->al=true):rt m.cmd m.ver m.aC al (dL m)=(m,0):=by
 have hb:=fC9 h.1 h.2.1;have ho:=h;obtain ⟨_,_,hc,hv,hp,hn,hau,hx⟩:=h;have hM:dG m.cmd m.ver m.aC (dL m)=m:=by
  have hpl:(if (dL m).family=0 then (0:Int) else if m.ver=1 then 32 else (dW (dL m).mask).1)=m.af:=by
   show (if m.family=0 then (0:Int) else if m.ver=1 then 32 else (dW (if m.family=2/\m.ver=2 then eD m.af else z4)).1)=m.af;rcases hx with ⟨f0,_,_,p0,_⟩ | ⟨f2,_,_,⟨v1,_,p32,_⟩ | ⟨v2,_,_,p1,p2,_⟩⟩
   ·rw [ab f0,p0]
   ·rw [ac (by omega),ab v1,p32]
   ·rw [ac (by omega),ac (by omega),ab ⟨f2,v2⟩,QJ p1 p2]
  unfold dG;rw [hpl];exact hb.symm
 unfold rt;rw [hM];have:dD m.cmd m.ver m.aC al (dL m)=0:=by
  unfold dD;rw [hM];rcases hx with ⟨f0,_,_,p0,_⟩ | ⟨f2,m1,m2,⟨v1,t0,p32,nz⟩ | ⟨v2,_,_,p1,p2,hcl⟩⟩
  ·rw [ab (show (dL m).family=0 from f0),ab ⟨ha f0,by show (if m.family=2/\m.ver=2 then eD m.af else z4)=z4; rw [ac (by omega)],ho⟩]
  ·have e1:(dL m).mask=z4:=by show (if m.family=2/\m.ver=2 then eD m.af else z4)=z4; rw [ac (by omega)]
   rw [ac (show ¬(dL m).family=0 by show ¬m.family=0; omega),ac (show ¬(dL m).family≠2 by show ¬m.family≠2; omega),ab v1,ac (by rintro (c | c | c); exact c t0; exact c e1; exact c nz),ac (show ¬((dL m).aj < 1\/16 < (dL m).aj) by show ¬(m.aj < 1\/16 < m.aj); omega)]
  ·have e1:(dL m).mask=eD m.af:=by show (if m.family=2/\m.ver=2 then eD m.af else z4)=_; rw [ab ⟨f2,v2⟩]
   rw [ac (show ¬(dL m).family=0 by show ¬m.family=0; omega),ac (show ¬(dL m).family≠2 by show ¬m.family≠2; omega),ac (by omega),e1,QJ p1 p2,ac (fun c=>c ⟨rfl,hcl⟩),ac (show ¬((dL m).aj < 1\/16 < (dL m).aj) by show ¬(m.aj < 1\/16 < m.aj); omega)]
 rw [this]
theorem Co {c v:Int} {s:Bs} {al:Bool} {b:Bs}:∀ (l:List bD) (at_:Nat) (acc:List bD),(∀ m∈l,cG m/\m.cmd=c/\m.ver=v/\m.aC=s/\(m.family=0->al=true))->b.drop at_=l.flatMap fd->eC (rt c v s al) b l.length at_ acc=(acc++l,0,0)
 | [],at_,acc,_,_=>by simp [eC]
 | m::r,at_,acc,hm,hd=>by
  obtain ⟨h1,h2,h3,h4,h5⟩:=hm m (by simp);have hl:=rJ h1;rw [List.flatMap_cons] at hd;have hcut:bH b at_ 20=fd m:=by
   unfold bH;rw [show ((at_:Int)+20).toNat=at_+20 by omega,Int.toNat_natCast,List.drop_take,show at_+20 - at_=20 by omega,hd,List.take_left' hl]
  have hn:b.drop (at_+20)=r.flatMap fd:=by rw [<- List.drop_drop,hd,List.drop_left' hl]
  have hr:=fs8 (al:=al) h1 h5;rw [h2,h3,h4] at hr;rw [List.length_cons,eC,hcut];unfold fd;rw [fC8 (vM h1),hr,ac (by simp),Co r (at_+20) _ (fun x hx=>hm x (by simp [hx])) hn];simp
theorem Ea:∀ {l:List bD},(∀ m∈l,cG m)->(l.flatMap fd).length=20 * l.length
 | [],_=>rfl
 | m::r,h=>by
  rw [List.flatMap_cons,List.length_append,rJ (h m (by simp)),Ea (fun x hx=>h x (by simp [hx])),List.length_cons]; omega
theorem Va {b:Bs} (k1:24<=b.length) (k2:b.length<=504) (k3:bt b 0=1\/bt b 0=2) (k4:bt b 1=1\/bt b 1=2) (k5:bt b 2=0/\bt b 3=0) (k7:((b.length:Int) - 4) % 20=0):dZ b=(0,0):=by
 unfold dZ;rw [ac (by omega),ac (fun c=>c k3),ac (fun c=>c k4),ac (fun c=>c k5),ac (by omega),ac (by omega),ac (by omega)]
theorem fs9 {f:bD} {r:List bD} (hok:∀ m∈f::r,cG m) (ht:∀ m∈r,gx f m) (hfam:f.family=0->r=[]) (hlen:(((f::r).length:Nat):Int)<=gp f):dJ (fj f++(f::r).flatMap fd)=(f::r,0,0):=by
 have hf:=hok f (by simp);have hl:=DB hf;have hfl:=Ea hok;have hfo:=hf;obtain ⟨_,_,hc,hv,_,_,hau,hx⟩:=hf;have hmem:∀ al:Bool,(r=[]->al=true)->∀ m∈f::r,cG m/\m.cmd=f.cmd/\m.ver=f.ver/\m.aC=f.aC/\(m.family=0->al=true):=fun al hal m hm=>by
  refine ⟨hok m hm,?_⟩;rcases List.mem_cons.1 hm with rfl | hm
  ·exact ⟨rfl,rfl,rfl,fun c=>hal (hfam c)⟩
  ·obtain ⟨t1,t2,t3,t4,_⟩:=ht m hm;exact ⟨t1,t2,t3,fun c=>absurd c t4⟩
 have ub:∀ x:Int,x=1\/x=2->((bF (x % 256)).toNat:Int)=x:=fun x hx=>by rw [fD]; omega
 have hline:∃ p q t,fd f=p::q::t/\¬(p=255):=by
  have:be 2 f.family=[0,0]\/be 2 f.family=[0,2]:=by
   rcases hx with ⟨f0,_⟩ | ⟨f2,_⟩
   ·rw [f0]; exact .inl rfl
   ·rw [f2]; exact .inr rfl
  unfold fd ga dL;dsimp only;rcases this with e | e <;> rw [e] <;> exact ⟨_,_,_,rfl,by decide⟩
 by_cases ha:f.aC=[]
 ·have hE:fj f=[bF (f.cmd % 256),bF (f.ver % 256),0,0]:=by unfold fj; rw [ab ha]; rfl
  rw [ab ha] at hl;generalize hX:(f::r).flatMap fd=X at *;have hb:fj f++X=bF (f.cmd % 256)::bF (f.ver % 256)::0::0::X:=by rw [hE]; rfl
  rw [hb];have b0:bt (bF (f.cmd % 256)::bF (f.ver % 256)::0::0::X) 0=f.cmd:=ub _ hc;have b1:bt (bF (f.cmd % 256)::bF (f.ver % 256)::0::0::X) 1=f.ver:=ub _ hv;have b2:bt (bF (f.cmd % 256)::bF (f.ver % 256)::0::0::X) 2=0:=rfl;have b3:bt (bF (f.cmd % 256)::bF (f.ver % 256)::0::0::X) 3=0:=rfl;have dr:(bF (f.cmd % 256)::bF (f.ver % 256)::0::0::X).drop 4=X:=rfl;have hL:(bF (f.cmd % 256)::bF (f.ver % 256)::0::0::X).length=4+20 * (f::r).length:=by simp only [List.length_cons] at hfl |-; omega
  have hm25:(f::r).length<=25:=by unfold gp at hlen; rw [ab ha] at hlen; omega
  have h1:1<=(f::r).length:=by simp
  have hna:¬gZ (bH (bF (f.cmd % 256)::bF (f.ver % 256)::0::0::X) 4 20)=true:=by
   have e:bH (bF (f.cmd % 256)::bF (f.ver % 256)::0::0::X) 4 20=X.take 20:=by
    show ((bF (f.cmd % 256)::bF (f.ver % 256)::0::0::X).take 24).drop 4=X.take 20
    rfl
   rw [e];obtain ⟨p,q,t,e1,e2⟩:=hline;have:X=p::q::(t++r.flatMap fd):=by rw [<- hX,List.flatMap_cons,e1]; rfl
   rw [this];simp [gZ,e2]
  generalize hB:bF (f.cmd % 256)::bF (f.ver % 256)::0::0::X=B at *;unfold dJ;rw [Va (by omega) (by omega) (by rw [b0]; exact hc) (by rw [b1]; exact hv) ⟨b2,b3⟩ (by omega),ac (by simp),ac (fun c=>hna c.2),show (B.length - 4) / 20=(f::r).length by omega,b0,b1];have:=Co (c:=f.cmd) (v:=f.ver) (s:=[]) (al:=decide (B.length=24)) (b:=B) (f::r) 4 [] (by have:=hmem (decide (B.length=24)) (fun c=>by rw [c] at hL; simp at hL; simp; omega); rw [ha] at this; exact this) (by rw [dr,hX]);rw [this]; rfl
 ·have h18:f.ver=2/\f.aC.length=18:=by rcases hau with h | h; exact absurd h ha; exact h
  have hE:fj f=[bF (f.cmd % 256),bF (f.ver % 256),0,0]++([255,255]++f.aC):=by unfold fj; rw [ac ha]
  rw [ac ha] at hl;generalize hX:(f::r).flatMap fd=X at *;have hb:fj f++X=bF (f.cmd % 256)::bF (f.ver % 256)::0::0::(([255,255]++f.aC)++X):=by rw [hE]; rfl
  have dr:(fj f++X).drop 24=X:=List.drop_left' hl;have hL:(fj f++X).length=24+20 * (f::r).length:=by rw [List.length_append,hl,hfl]
  rw [hb] at dr hL |-;generalize hY:([255,255]++f.aC)++X=Y at *;have b0:bt (bF (f.cmd % 256)::bF (f.ver % 256)::0::0::Y) 0=f.cmd:=ub _ hc;have b1:bt (bF (f.cmd % 256)::bF (f.ver % 256)::0::0::Y) 1=f.ver:=ub _ hv;have b2:bt (bF (f.cmd % 256)::bF (f.ver % 256)::0::0::Y) 2=0:=rfl;have b3:bt (bF (f.cmd % 256)::bF (f.ver % 256)::0::0::Y) 3=0:=rfl;have hm24:(f::r).length<=24:=by unfold gp at hlen; rw [ac ha] at hlen; omega
  have h1:1<=(f::r).length:=by simp
  have e:bH (bF (f.cmd % 256)::bF (f.ver % 256)::0::0::Y) 4 20=[255,255]++f.aC:=by
   show Y.take 20=_;rw [<- hY,List.take_left' (by simp [h18.2])]
  generalize hB:bF (f.cmd % 256)::bF (f.ver % 256)::0::0::Y=B at *;unfold dJ;rw [Va (by omega) (by omega) (by rw [b0]; exact hc) (by rw [b1]; exact hv) ⟨b2,b3⟩ (by omega),ac (by simp),e,ab ⟨by rw [b1]; exact h18.1,rfl⟩,ac (by omega),show (B.length - 24) / 20=(f::r).length by omega,b0,b1,show (([255,255]:Bs)++f.aC).drop 2=f.aC from rfl];have:=Co (c:=f.cmd) (v:=f.ver) (s:=f.aC) (al:=decide (B.length=44)) (b:=B) (f::r) 24 [] (hmem _ (fun c=>by rw [c] at hL; simp at hL; simp; omega)) (by rw [dr,hX]);rw [this]; rfl
end Go.VP
namespace Go.VP
open Go Go.VI
def fI (l:List cj):Bool:=l.all (eS 0 255)
def k9 (l:List cj):Prop:=∀ y∈l,0<=y.aA/\y.aA<=255/\y.data.length<=255
theorem jd {l:List cj}:fI l=true↔k9 l:=by simp [fI,eS,k9]
theorem xH {l:List cj} (hl:l.length<=1000000000):oY (l,())=some ((fI l,()),()):=by
 rw [ey7,LS hl]; rfl
theorem Ae {l:List cj} (hl:l.length<=1000000000):pB (l,())=some ((fI l,()),()):=by
 rw [e33,LT hl]; rfl
theorem BF {y:cj} (h:0<=y.aA/\y.aA<=255/\y.data.length<=255):bF (IntKind.wrap .u8 y.aA)=bF y.aA/\bF (IntKind.wrap .u8 (y.data.length:Int))=bF y.data.length:=by
 rw [f8,f8,lm h.1,lm (by omega)]; exact ⟨rfl,rfl⟩
theorem ZC {l:List cj} {n:Nat} (hr:k9 l) (h1:l.length<=1000000):∀ (d m i:Nat) (acc:Bs),i+d=l.length->d < m->acc.length<=257 * i->
  zj n m l acc i=some ((acc++bX (l.drop i),true,()),()):=by
 intro d
 induction d with
 | zero=>
  intro m i acc hd hm ha;obtain ⟨m,rfl⟩:∃ k,m=k+1:=⟨m - 1,by omega⟩;rw [T4,bN (by omega),List.drop_eq_nil_of_le (by omega),bX,List.append_nil]
 | succ d ih=>
  intro m i acc hd hm ha;obtain ⟨m,rfl⟩:∃ k,m=k+1:=⟨m - 1,by omega⟩;have hlt:i < l.length:=by omega
  have hy:=hr l[i] (List.getElem_mem hlt);have:=ih m (i+1) (acc++[bF l[i].aA,bF l[i].data.length]++l[i].data) (by omega) (by omega) (by simp; omega);rw [show ((i+1:Nat):Int)=(i:Int)+1 by omega] at this;rw [T4,bP (by omega),ab (by omega),Int.toNat_natCast,ck hlt,(BF hy).1,(BF hy).2,ab (d7 (by simp; omega)),ab (d7 (by simp; omega)),bL (by omega) (by omega),this,List.drop_eq_getElem_cons hlt,bX];simp
theorem ft0 {l:List cj} {n:Nat} (hr:k9 l) (h1:l.length<=1000000):∀ (d m i:Nat) (acc:Bs),i+d=l.length->d < m->acc.length<=257 * i->
  yL n m l acc i=some ((acc++bX (l.drop i),true,()),()):=by
 intro d
 induction d with
 | zero=>
  intro m i acc hd hm ha;obtain ⟨m,rfl⟩:∃ k,m=k+1:=⟨m - 1,by omega⟩;rw [Oe,bN (by omega),List.drop_eq_nil_of_le (by omega),bX,List.append_nil]
 | succ d ih=>
  intro m i acc hd hm ha;obtain ⟨m,rfl⟩:∃ k,m=k+1:=⟨m - 1,by omega⟩;have hlt:i < l.length:=by omega
  have hy:=hr l[i] (List.getElem_mem hlt);have:=ih m (i+1) (acc++[bF l[i].aA,bF l[i].data.length]++l[i].data) (by omega) (by omega) (by simp; omega);rw [show ((i+1:Nat):Int)=(i:Int)+1 by omega] at this;rw [Oe,bP (by omega),ab (by omega),Int.toNat_natCast,ck hlt,ab (by omega),ck hlt,(BF hy).1,(BF hy).2,ab (bW (by simp; omega)),ab (by omega),ck hlt,ab (bW (by simp; omega)),bL (by omega) (by omega),this,List.drop_eq_getElem_cons hlt,bX];simp
def nG (l:List cj):Bs × Bool:=if fI l=true then (bX l,true) else ([],false)
theorem qm {l:List cj} (h:fI l=true):nG l=(bX l,true):=by unfold nG; rw [ab h]
theorem FT {l:List cj} (hl:em l) (h1:l.length<=1000000):um (l,())=some (((nG l).1,(nG l).2,()),()):=by
 show CN fuel _=_;have hs:=Hr hl;rw [eZ8,xH hl.1,aa];unfold nG;dsimp only;by_cases h:fI l=true
 ·have:=ZC (n:=fuel) (jd.1 h) h1 l.length fuel 0 [] (by omega) (cn (by omega)) (by simp);rw [show ((0:Nat):Int)=0 from rfl] at this;rw [h,b7,HX hl,aa,ab (show 0<=dm l/\dm l<=dI by unfold dI; omega),this,cQ];simp
 ·rw [Bool.not_eq_true] at h;rw [h,cK,cV]
theorem GR {l:List cj} (hl:em l) (h1:l.length<=1000000):tT (l,())=some (((nG l).1,(nG l).2,()),()):=by
 show Eb fuel _=_;rw [ew9,Ae hl.1,aa];unfold nG;dsimp only;by_cases h:fI l=true
 ·have:=ft0 (n:=fuel) (jd.1 h) h1 l.length fuel 0 [] (by omega) (cn (by omega)) (by simp);rw [show ((0:Nat):Int)=0 from rfl] at this;rw [h,b7,this,cQ];simp
 ·rw [Bool.not_eq_true] at h;rw [h,cK,cV]
def fY (s:Bs):Nat->Nat->List cj->List cj × Int × Int
 | 0,_,acc=>(acc,0,0)
 | d+1,p,acc=>
  if p < s.length then
   if (s.length:Int) < p+2+bt s (p+1) then ([],p,2)
   else fY s d (p+2+(bt s (p+1)).toNat) (acc++[⟨bt s p,bH s (p+2) (bt s (p+1))⟩])
  else (acc,0,0)
def dy (s:Bs):List cj × Int × Int:=fY s (s.length+1) 0 []
theorem fD1 {s:Bs} {n:Nat} (hs:s.length<=1000000):∀ (d m p:Nat) (acc:List cj),s.length < p+d->p<=s.length->d < m->acc.length<=p->
  Av n m acc s p s.length false=some (bY (fY s d p acc),()):=by
 intro d
 induction d with
 | zero=>intro m p acc h1 h2; omega
 | succ d ih=>
  intro m p acc h1 h2 hm ha;obtain ⟨m,rfl⟩:∃ k,m=k+1:=⟨m - 1,by omega⟩;have w:dQ s p s.length:=⟨by omega,by omega,by omega,by omega⟩;rw [ev9];rw [show oA (⟨s,(p:Int),(s.length:Int),false⟩,())=_ from wt w,aa];dsimp only;unfold fY;by_cases hp:p < s.length
  ·rw [bP (by omega),ab hp];rw [show gz (⟨s,(p:Int),(s.length:Int),false⟩,1,())=_ from gG w (by omega) (by omega) (by omega),aa];dsimp only;have w1:=w.fwd (n:=1) (by omega) (by omega);rw [lJ (by omega)];by_cases h2':p+2<=s.length
   ·rw [gG w1 (by omega) (by omega) (by omega),aa];dsimp only;have hb:=cw s (p+1);have w2:=w1.fwd (n:=1) (by omega) (by omega);rw [show (p:Int)+1=((p+1:Nat):Int) by omega,lJ (s:=s) (p:=p+1) (by omega)];by_cases h3:(s.length:Int) < p+2+bt s (p+1)
    ·rw [ab h3,oG (by rw [show (((p+1:Nat):Int))=(p:Int)+1 by omega]; exact w2) (.inr (.inr (by omega))),aa]
     rfl
    ·rw [ac h3,iV (by rw [show (((p+1:Nat):Int))=(p:Int)+1 by omega]; exact w2) (by omega) (by omega),aa];dsimp only;rw [cV,ab (ml (by simp; omega) vF)];have:=ih m (p+2+(bt s (p+1)).toNat) (acc++[⟨bt s p,bH s (p+2) (bt s (p+1))⟩]) (by omega) (by omega) (by omega) (by simp; omega);rw [<- this,show ((p+1:Nat):Int)+1=(p:Int)+2 by omega];congr 1
   ·have hb:bt s (p+1)=0:=by unfold bt; rw [List.getElem?_eq_none (by omega)]; rfl
    rw [ry w1 (by omega) (by omega) (.inr (by omega)),aa];dsimp only;rw [oG w1 (.inl rfl),aa,hb,ab (show (s.length:Int) < p+2+0 by omega)]
    rfl
  ·rw [bN (by omega),ac hp]
theorem w6 {s:Bs} (hs:s.length<=1000000):pg (s,())=some (bY (dy s),()):=by
 show Hp fuel _=_;rw [eZ6,mf,aa];exact fD1 (n:=fuel) hs (s.length+1) fuel 0 [] (by omega) (by omega) (cn (by omega)) (by simp)
theorem ft1 {s:Bs} {n:Nat} (hs:s.length<=1000000):∀ (d m p:Nat) (acc:List cj),s.length < p+d->p<=s.length->d < m->acc.length<=p->
  xh n m s acc p=some (bY (fY s d p acc),()):=by
 intro d
 induction d with
 | zero=>intro m p acc h1 h2; omega
 | succ d ih=>
  intro m p acc h1 h2 hm ha;obtain ⟨m,rfl⟩:∃ k,m=k+1:=⟨m - 1,by omega⟩;rw [e51];unfold fY;by_cases hp:p < s.length
  ·rw [bP (by omega),ab hp,bL (x:=(s.length:Int) - p) (by omega) (by omega),bL (x:=(p:Int)+1) (by omega) (by omega),bL (x:=(s.length:Int) - p - 2) (by omega) (by omega),bL (x:=(p:Int)+2) (by omega) (by omega)];by_cases h2':p+2<=s.length
   ·have hb:=cw s (p+1);have e1:s[((p:Int)+1).toNat]?=some (s[p+1]?.getD 0):=by rw [show ((p:Int)+1).toNat=p+1 by omega]; exact cN (by omega)
    have e2:s[(p:Int).toNat]?=some (s[p]?.getD 0):=by rw [Int.toNat_natCast]; exact cN hp
    have hw:IntKind.wrap .i64 ((s[p+1]?.getD 0).toNat:Int)=bt s (p+1):=eO _;have hw0:IntKind.wrap .i64 ((s[p]?.getD 0).toNat:Int)=bt s p:=eO _;rw [bN (by omega),ab (by omega),e1,aa,hw];by_cases h3:(s.length:Int) < p+2+bt s (p+1)
    ·rw [ab h3,bP (by omega)]
    ·rw [ac h3,bN (by omega),ab (by omega),aa,ab (by omega),e2,aa,hw,hw0,bL (x:=(p:Int)+2+bt s (p+1)) (by omega) (by omega),ab (by omega),ab (ml (by simp; omega) vF)];have:=ih m (p+2+(bt s (p+1)).toNat) (acc++[⟨bt s p,bH s (p+2) (bt s (p+1))⟩]) (by omega) (by omega) (by omega) (by simp; omega);rw [<- this,show (p:Int)+2+bt s (p+1)=((p+2+(bt s (p+1)).toNat:Nat):Int) by omega]
     rfl
   ·have hb:=cw s (p+1);rw [bP (by omega),ab (by omega)]
  ·rw [bN (by omega),ac hp]
theorem Aw {s:Bs} (hs:s.length<=1000000):oZ (s,())=some (bY (dy s),()):=by
 show H4 fuel _=_;rw [ey1];exact ft1 (n:=fuel) hs (s.length+1) fuel 0 [] (by omega) (by omega) (cn (by omega)) (by simp)
end Go.VP
namespace Go.VP
open Go Go.VI
theorem yu (b:Bs) (p k:Nat):bH b p (k:Int)=(b.drop p).take k:=by
 unfold bH;rw [show ((p:Int)+(k:Int)).toNat=p+k by omega,Int.toNat_natCast,List.drop_take];congr 1;omega
theorem O1 {s:Bs}:∀ (d p:Nat) (acc:List cj),0<=(fY s d p acc).2.1/\(fY s d p acc).2.1<=s.length/\((fY s d p acc).2.2=0\/(fY s d p acc).2.2=2)
 | 0,p,acc=>by simp [fY]
 | d+1,p,acc=>by
  unfold fY;split
  ·split
   ·dsimp only; omega
   ·exact O1 d _ _
  ·simp
theorem mN (s:Bs):0<=(dy s).2.1/\(dy s).2.1<=s.length/\((dy s).2.2=0\/(dy s).2.2=2):=O1 _ _ _
theorem KN {s:Bs}:∀ (d p:Nat) (acc:List cj),s.length < p+d->(fY s d p acc).2.2=0->(fY s d p acc).2.1=0/\∃ l,(fY s d p acc).1=acc++l/\k9 l/\bX l=s.drop p/\2 * l.length+p<=s.length+p
 | 0,p,acc,hd,h=>⟨rfl,[],by simp [fY],(fun y hy=>by cases hy),by rw [List.drop_eq_nil_of_le (by omega)]; rfl,by simp⟩
 | d+1,p,acc,hd,h=>by
  unfold fY at h |-;by_cases h1:p < s.length
  ·rw [ab h1] at h |-;by_cases h2:(s.length:Int) < p+2+bt s (p+1)
   ·rw [ab h2] at h; cases h
   ·rw [ac h2] at h |-;have hb:=cw s (p+1);have hb0:=cw s p;obtain ⟨k0,l,k1,k2,k3,k4⟩:=KN d _ _ (by omega) h;have hcl:(bH s (p+2) (bt s (p+1))).length=(bt s (p+1)).toNat:=by
     have:=ew (s:=s) (p:=(p:Int)+2) (n:=bt s (p+1)) (by omega) (by omega) (by omega);omega
    refine ⟨k0,⟨bt s p,bH s (p+2) (bt s (p+1))⟩::l,by rw [k1]; simp,fun y hy=>?_,?_,?_⟩
    ·rcases List.mem_cons.1 hy with rfl | hy
     ·exact ⟨hb0.1,by show bt s p<=255; omega,by show (bH s (p+2) (bt s (p+1))).length<=255; omega⟩
     ·exact k2 y hy
    ·unfold bX;rw [k3];dsimp only;rw [hcl];have e1:bF (bt s p)=s[p]:=by
      have:bt s p=(s[p].toNat:Int):=by unfold bt; simp [h1]
      rw [this,mA]
     have hp1:p+1 < s.length:=by omega
     have e2:bF (((bt s (p+1)).toNat:Nat):Int)=s[p+1]:=by
      have:bt s (p+1)=(s[p+1].toNat:Int):=by unfold bt; simp [hp1]
      rw [this,Int.toNat_natCast,mA]
     have e3:bH s ((p:Int)+2) (bt s (p+1))=(s.drop (p+2)).take (bt s (p+1)).toNat:=by
      have:=yu s (p+2) (bt s (p+1)).toNat
      rw [show ((p+2:Nat):Int)=(p:Int)+2 by omega,show (((bt s (p+1)).toNat:Nat):Int)=bt s (p+1) by omega] at this;exact this
     rw [e1,e2,e3,List.drop_eq_getElem_cons h1,List.drop_eq_getElem_cons hp1,show p+1+1=p+2 by omega,show s.drop (p+2+(bt s (p+1)).toNat)=(s.drop (p+2)).drop (bt s (p+1)).toNat by rw [List.drop_drop],List.take_append_drop]
    ·have:=congrArg List.length k3;simp only [List.length_cons];have e:=qH l;have hlen:∀ l:List cj,2 * (l.length:Int)<=dm l:=fun l=>by
      induction l with
      | nil=>simp [dm]
      | cons y l ih=>simp only [dm,List.length_cons]; omega
     have:=hlen l;rw [List.length_drop] at *;omega
  ·rw [ac h1] at h |-;exact ⟨rfl,[],by simp,(fun y hy=>by cases hy),by rw [List.drop_eq_nil_of_le (by omega)]; rfl,by simp⟩
theorem fX0 {s:Bs} (h:(dy s).2.2=0):(dy s).2.1=0/\k9 (dy s).1/\bX (dy s).1=s/\2 * (dy s).1.length<=s.length:=by
 obtain ⟨k0,l,k1,k2,k3,k4⟩:=KN (s:=s) (s.length+1) 0 [] (by omega) h;rw [List.nil_append] at k1;unfold dy;rw [k1];exact ⟨k0,k2,by rw [k3]; rfl,by omega⟩
theorem Xy:∀ (l:List cj) (d p:Nat) (s:Bs) (acc:List cj),k9 l->s.drop p=bX l->p<=s.length->s.length < p+d->fY s d p acc=(acc++l,0,0)
 | [],d,p,s,acc,hl,hs,hp,hd=>by
  have:=congrArg List.length hs;rw [List.length_drop] at this;unfold bX at this;simp at this;obtain ⟨d,rfl⟩:∃ k,d=k+1:=⟨d - 1,by omega⟩;unfold fY;rw [ac (by omega),List.append_nil]
 | y::l,d,p,s,acc,hl,hs,hp,hd=>by
  obtain ⟨d,rfl⟩:∃ k,d=k+1:=⟨d - 1,by omega⟩;have hy:=hl y (List.mem_cons_self ..);have hlen:=congrArg List.length hs;rw [List.length_drop] at hlen;unfold bX at hs hlen;simp only [List.length_cons,List.length_append] at hlen;have g0:s[p]?=some (bF y.aA):=by
   have:(s.drop p)[0]?=some (bF y.aA):=by rw [hs]; rfl
   rwa [List.getElem?_drop] at this
  have g1:s[p+1]?=some (bF (y.data.length:Int)):=by
   have:(s.drop p)[1]?=some (bF (y.data.length:Int)):=by rw [hs]; rfl
   rwa [List.getElem?_drop] at this
  have b0:bt s p=y.aA:=by
   unfold bt; rw [g0]; show ((bF y.aA).toNat:Int)=_; rw [fD]; omega
  have b1:bt s (p+1)=y.data.length:=by
   unfold bt; rw [g1]; show ((bF (y.data.length:Int)).toNat:Int)=_; rw [fD]; omega
  have hd2:s.drop (p+2)=y.data++bX l:=by
   rw [<- List.drop_drop,hs]; rfl
  have hc:bH s ((p:Int)+2) (y.data.length:Int)=y.data:=by
   have:=yu s (p+2) y.data.length;rw [show ((p+2:Nat):Int)=(p:Int)+2 by omega] at this;rw [this,hd2,List.take_left]
  unfold fY;rw [b0,b1,ab (by omega),ac (by omega),hc,Int.toNat_natCast];have:=Xy l d (p+2+y.data.length) s (acc++[⟨y.aA,y.data⟩]) (fun z hz=>hl z (List.mem_cons_of_mem _ hz)) (by rw [<- List.drop_drop,hd2,List.drop_left]) (by omega) (by omega);rw [this];simp
theorem nR {l:List cj} (h:k9 l):dy (bX l)=(l,0,0):=by
 have:=Xy l ((bX l).length+1) 0 (bX l) [] h rfl (by omega) (by omega);rw [List.nil_append] at this;exact this
end Go.VP
namespace Go.VP
open Go Go.VI
def fp:Bs:=[0,0,0,0,0,0,0,0,0,0,0,0,0,0,0,0]
theorem zC:iT (16,())=some ((fp,()),()):=by
 rw [Cx,ab (by unfold dI; decide)]; rfl
theorem Bj:px ()=some ((fp,()),()):=by
 rw [ej0,YS,bN (by decide),ab (by unfold dI; decide),aa]; rfl
def kG (a:Bs) (n:Int):Bool:=decide (0<=n/\n<=128) && fN a n
theorem Vl {a:Bs} {n:Int} (h:a.length=16) (hn:IntKind.has .i64 n):ic (a,n,())=some ((kG a n,()),()):=by
 have h8:IntKind.wrap .i64 (8 * (a.length:Int))=128:=by rw [h]; rfl
 rw [Nr,h8];unfold kG;refine bR (fun q=>by omega) (fun _=>?_);refine bR (fun _=>?_) (fun q=>by omega);refine eV (fun h0=>?_) (fun h0=>?_)
 ·refine eV (fun h1=>?_) (fun h1=>?_)
  ·rw [D2 (by omega) hn,aa,decide_eq_true ⟨h0,h1⟩,Bool.true_and]
  ·rw [decide_eq_false (fun q=>h1 q.2),Bool.false_and]
 ·rw [decide_eq_false (fun q=>h0 q.1),Bool.false_and]
theorem Lx {a:Bs} {n:Int} (h:a.length=16):jI (a,n,())=some ((kG a n,()),()):=by
 rw [yr (by omega) (.inr h),h]; rfl
structure eR (m:bD):Prop where
 kind:m.kind=2
 bare:cM m=true
 cmd:m.cmd=1\/m.cmd=2
 tag:0<=m.tag/\m.tag < 65536
 aj:1<=m.aj/\m.aj<=16
 len:m.ah.length=16
 pre:kG m.ah m.af=true
 next:m.next=fp\/df m.next=true
open Classical in
def fX (m:bD):Bool:=decide (eR m)
theorem mv {m:bD}:fX m=true↔eR m:=by simp [fX]
theorem Ew {m:bD} (h:¬eR m):fX m=false:=by simp [fX,h]
theorem eR.next16 {m:bD} (h:eR m):m.next.length=16:=by
 rcases h.next with e | e
 ·rw [e]; rfl
 ·exact (jD e).1
theorem eR.af {m:bD} (h:eR m):0<=m.af/\m.af<=128:=by
 have:=h.pre; unfold kG at this; simp at this; exact this.1
structure oo (m:bD):Prop where
 tag:IntKind.has .i64 m.tag
 af:IntKind.has .i64 m.af
 cmd:IntKind.has .i64 m.cmd
 list:m.list.length<=1000000000
 subs:m.subs.length<=1000000000
theorem QN {m:bD} {r:Option ((Bool × Unit) × Unit)} (h:r=some ((df m.next,()),())) (hk:eR m↔(m.next=fp\/df m.next=true)):(if m.next==fp then (some ((true,()),()):Option ((Bool × Unit) × Unit)) else r.bind fun r5=>some ((r5.1.1,()),()))=some ((fX m,()),()):=by
 refine p4 (fun q=>by rw [mv.2 (hk.2 (.inl q))]) (fun q=>?_);rw [h,aa];cases hl:df m.next with
 | true=>rw [mv.2 (hk.2 (.inr hl))]
 | false=>rw [Ew (fun x=>by rcases hk.1 x with e | e; exact q e; rw [hl] at e; cases e)]
theorem Qc {m:bD} (g:oo m):uc (m,())=some ((fX m,()),()):=by
 rw [e52];have no:¬eR m->(some ((false,()),()):Option ((Bool × Unit) × Unit))=some ((fX m,()),()):=fun h=>by rw [Ew h]
 have tail:(m.kind=2)->cM m=true->(m.cmd=1\/m.cmd=2)->((dp (m.tag,2,())).bind fun r6=>(if !r6.1.1 then some ((false,()),()) else (if decide (m.aj < 1) then some ((false,()),()) else (if decide (16 < m.aj) then some ((false,()),()) else (if (m.ah.length:Int) != 16 then some ((false,()),()) else ((ic (m.ah,m.af,())).bind fun r7=>(if !r7.1.1 then some ((false,()),()) else ((iT (16,())).bind fun r8=>(if m.next==r8.1.1 then some ((true,()),()) else ((lF (m.next,())).bind fun r9=>some ((r9.1.1,()),())))))))))))= (some ((fX m,()),()):Option ((Bool × Unit) × Unit)):=by
  intro hk hb hc;rw [show dp (m.tag,2,())=some ((b6 m.tag 2,()),()) from ip (k:=2) g.tag (by omega) (by omega),aa];dsimp only;cases hf:b6 m.tag 2 with
  | false=>rw [cK]; exact no (fun h=>by rw [lh.2 h.tag] at hf; cases hf)
  | true=>
   rw [b7];refine eV (fun q=>no (fun h=>by have:=h.aj; omega)) (fun h1=>?_);refine eV (fun q=>no (fun h=>by have:=h.aj; omega)) (fun h2=>?_);refine bZ (fun q=>no (fun h=>by have:=h.len; omega)) (fun h3=>?_);rw [Vl (by omega) g.af,aa];dsimp only;cases hp:kG m.ah m.af with
   | false=>rw [cK]; exact no (fun h=>by rw [h.pre] at hp; cases hp)
   | true=>
    rw [b7,zC,aa];exact QN (t6 _) ⟨fun h=>h.next,fun h=>⟨hk,hb,hc,lh.1 hf,by omega,by omega,hp,h⟩⟩
 refine bZ (fun q=>no (fun h=>q h.kind)) (fun hk=>?_);rw [mD,aa];dsimp only;cases hb:cM m with
 | false=>rw [cK]; exact no (fun h=>by rw [h.bare] at hb; cases hb)
 | true=>
  rw [b7];refine bZ (fun q1=>?_) (fun q1=>tail hk hb (.inl q1));exact bZ (fun q2=>no (fun h=>by have:=h.cmd; omega)) (fun q2=>tail hk hb (.inr q2))
theorem VE {m:bD} (g:oo m):tm (m,())=some ((fX m,()),()):=by
 rw [XX];have no:¬eR m->(some ((false,()),()):Option ((Bool × Unit) × Unit))=some ((fX m,()),()):=fun h=>by rw [Ew h]
 refine bR (fun hk=>?_) (fun q=>no (fun h=>q h.kind));rw [mC g.list g.subs,aa];dsimp only;cases hb:cM m with
 | false=>rw [cV]; exact no (fun h=>by rw [h.bare] at hb; cases hb)
 | true=>
  rw [cQ];refine eV (fun h1=>?_) (fun q=>no (fun h=>by have:=h.cmd; omega));refine eV (fun h2=>?_) (fun q=>no (fun h=>by have:=h.cmd; omega));refine eV (fun h3=>?_) (fun q=>no (fun h=>by have:=h.tag; omega));refine eV (fun h4=>?_) (fun q=>no (fun h=>by have:=h.tag; omega));refine eV (fun h5=>?_) (fun q=>no (fun h=>by have:=h.aj; omega));refine eV (fun h6=>?_) (fun q=>no (fun h=>by have:=h.aj; omega));refine bR (fun h7=>?_) (fun q=>no (fun h=>by have:=h.len; omega));rw [Lx (by omega),aa];dsimp only;cases hp:kG m.ah m.af with
  | false=>rw [cV]; exact no (fun h=>by rw [h.pre] at hp; cases hp)
  | true=>
   rw [cQ,Bj,aa];exact QN (pY _) ⟨fun h=>h.next,fun h=>⟨hk,hb,by omega,by omega,by omega,by omega,hp,h⟩⟩
abbrev kW:=de
def fk (s:Bs):kW:=⟨bt s 18,b5 (bH s 16 2),s.take 16,[],[],bt s 19⟩
theorem AA (s:Bs) (k i:Nat):bt (s.drop k) i=bt s (k+i):=by unfold bt; rw [List.getElem?_drop]
theorem fD3 {s:Bs} (h:s.length=20):yZ (s,())=some ((fk s,true,()),()):=by
 have hl:(s.drop 16).length=4:=by rw [List.length_drop]; omega
 have b0:=cw (s.drop 16) 0;have b1:=cw (s.drop 16) 1;rw [eZ5];refine bZ (fun q=>by omega) (fun _=>?_);rw [ab (by omega),ab (by omega),cN (i:=0) (by omega),aa,cN (i:=1) (by omega),aa,cN (i:=2) (by omega),aa,cN (i:=3) (by omega),aa,eO,eO,eO,eO];show some ((de.mk (bt (s.drop 16) 2) (cB .or .i64 (cY .i64 (bt (s.drop 16) 0) 8) (bt (s.drop 16) 1)) (s.take 16) [] [] (bt (s.drop 16) 3),true,()),())=_;rw [Dd (by omega) (by omega),AA,AA,AA,AA];unfold fk;rw [show ((16:Int))=((16:Nat):Int) from rfl,Cq (by omega)]
theorem fD4 {s:Bs} (h:s.length=20):AQ (s,())=some ((fk s,true,()),()):=by
 rw [ey0];refine bZ (fun q=>by omega) (fun _=>?_);rw [ab (by omega),ab (by omega),lj (by simp; omega),aa,cN (i:=18) (by omega),aa,cN (i:=19) (by omega),aa,eO,eO]
 rfl
def fu (a:Bs) (t f m:Int):Bs:=a++(be 2 t++[bF f,bF m])
theorem lS {a:Bs} (h:a.length=16) (t f m:Int):(fu a t f m).length=20:=by unfold fu; simp [cm]; omega
theorem IC {n:Int} (h:0<=n):be 1 n=[bF n]:=by
 show be 0 (n / 256)++[bF (n % 256)]=_;rw [lm h]; rfl
theorem fD5 {a:Bs} {t f m:Int} (ha:a.length=16) (ht:0<=t/\t < 65536) (hf:0<=f/\f < 256) (hm:0<=m/\m < 256):AU (⟨f,t,a,[],[],m⟩,())=some ((fu a t f m,true,()),()):=by
 have f1:∀ {n:Int},0<=n/\n < 256->b6 n 1=true:=fun h=>by unfold b6; rw [decide_eq_true_eq]; omega
 rw [eZ7];dsimp only;refine bZ (fun q=>by omega) (fun _=>?_);rw [ab (bW (by simp)),ac (by simp),show dp (t,2,())=some ((b6 t 2,()),()) from ip (k:=2) (cx.2 (by omega)) (by omega) (by omega),aa,lh.2 ht];dsimp only;rw [b7,show dp (f,1,())=some ((b6 f 1,()),()) from ip (k:=1) (cx.2 (by omega)) (by omega) (by omega),aa,f1 hf];dsimp only;rw [b7,show dp (m,1,())=some ((b6 m 1,()),()) from ip (k:=1) (cx.2 (by omega)) (by omega) (by omega),aa,f1 hm];dsimp only;rw [b7,ab (bW (by simp; omega)),i5 hf.1,i5 hm.1];unfold fu;rw [<- qv ht]; rfl
theorem SU {a:Bs} {t f m:Int} (ha:a.length=16) (ht:0<=t/\t < 65536) (hf:0<=f/\f < 256) (hm:0<=m/\m < 256):rf (⟨f,t,a,[],[],m⟩,())=some ((fu a t f m,true,()),()):=by
 have f1:∀ {n:Int},0<=n/\n < 256->eJ n 1=(be 1 n,true):=fun h=>by unfold eJ b6; rw [ab (by rw [decide_eq_true_eq]; omega)]
 have f2:eJ t 2=(be 2 t,true):=by unfold eJ; rw [ab (lh.2 ht)]
 have p2:kV (t,2,())=some (((eJ t 2).1,(eJ t 2).2,()),()):=sU (k:=2) (cx.2 (by omega)) (by omega) (by omega);have p1:∀ {n:Int},0<=n/\n < 256->kV (n,1,())=some (((eJ n 1).1,(eJ n 1).2,()),()):=fun h=>sU (k:=1) (cx.2 (by omega)) (by omega) (by omega)
 have l1:∀ n,(be 1 n).length=1:=cm 1;have l2:∀ n,(be 2 n).length=2:=cm 2;rw [ew8];dsimp only;rw [p2,aa,p1 hf,aa,p1 hm,aa,f2,f1 hf,f1 hm];dsimp only;rw [b7,b7,b7];refine bZ (fun q=>by omega) (fun _=>?_);rw [ac (by simp),ac (by simp),ab (bW (by rw [l2]; omega)),ab (bW (by simp [l2,l1]; omega)),ab (bW (by simp [l2,l1]; omega)),IC hf.1,IC hm.1];unfold fu;simp
end Go.VP
namespace Go.VP
open Go Go.VI
def dV (b:Bs):Int × Int:=
 if 65535 < b.length then (65535,10) else if b.length < 4 then (b.length,2) else if ¬(bt b 0=1\/bt b 0=2) then (0,4) else if ¬bt b 1=1 then (1,4)
 else if ¬(bt b 2=0/\bt b 3=0) then (2,5) else if ((b.length:Int) - 4) % 20≠0 then (b.length,2) else (0,0)
theorem E3 {b:Bs} (h:(dV b).2=0):4<=b.length/\b.length<=65535/\(bt b 0=1\/bt b 0=2)/\bt b 1=1/\bt b 2=0/\bt b 3=0/\((b.length:Int) - 4) % 20=0:=by
 unfold dV at h
 repeat (split at h; · simp at h)
 rename_i h1 h2 h3 h4 h5 h6;exact ⟨by omega,by omega,by omega,by omega,by omega,by omega,by omega⟩
theorem fg4 {b:Bs}:0<=(dV b).1/\(dV b).1<=b.length:=by
 unfold dV
 repeat (split; · dsimp only; omega)
 dsimp only; omega
theorem fD6 {b:Bs} (hb:b.length<=1000000000):Aq (b,())=some (((dV b).1,(dV b).2,()),()):=by
 rw [ei4];refine cF (fun h=>by unfold dV; rw [ab (by omega)]) (fun hl=>?_);refine cF (fun h=>by unfold dV; rw [ac (by omega),ab (by omega)]) (fun h4=>?_);have h4':¬b.length < 4:=by omega
 obtain ⟨w,x,y,z,r,rfl⟩:=uw h4';have e0:bt (w::x::y::z::r) 0=(w.toNat:Int):=rfl;have e1:bt (w::x::y::z::r) 1=(x.toNat:Int):=rfl;have e2:bt (w::x::y::z::r) 2=(y.toNat:Int):=rfl;have e3:bt (w::x::y::z::r) 3=(z.toNat:Int):=rfl;rw [show (w::x::y::z::r)[0]?=some w from rfl,show (w::x::y::z::r)[1]?=some x from rfl,show (List.take 4 (w::x::y::z::r)).drop 2=[y,z] from rfl];simp only [aa];have hL:(4:Int)<=((w::x::y::z::r).length:Int):=by omega
 have hz:kB [y,z]=true↔((y.toNat:Int)=0/\(z.toNat:Int)=0):=by
  simp only [kB,List.all_cons,List.all_nil,Bool.and_true,Bool.and_eq_true,beq_iff_eq];constructor
  ·rintro ⟨rfl,rfl⟩; exact ⟨rfl,rfl⟩
  ·rintro ⟨h1,h2⟩; exact ⟨kq h1,kq h2⟩
 generalize hLL:(w::x::y::z::r).length=L at *;have tail:((w.toNat:Int)=1\/(w.toNat:Int)=2)->(if (x.toNat:Int) != 1 then some ((1,4,()),()) else (if 0<=(2:Int)/\(2:Int)<=(4:Int)/\(4:Int)<=(L:Int) then ((eK ([y,z],())).bind fun r4=>(if !r4.1.1 then some ((2,5,()),()) else (if (L:Int).tmod 20 != 4 then some (((L:Int),2,()),()) else some ((0,0,()),())))) else none))=some (((dV (w::x::y::z::r)).1,(dV (w::x::y::z::r)).2,()),()):=by
  intro ha;unfold dV;rw [hLL,ac (show ¬65535 < L by omega),ac (show ¬L < 4 by omega),ac (show ¬¬(bt (w::x::y::z::r) 0=1\/bt (w::x::y::z::r) 0=2) by rw [e0]; exact fun c=>c ha)];refine bZ (fun h=>?_) (fun h1=>?_)
  ·rw [ab (show ¬bt (w::x::y::z::r) 1=1 by rw [e1]; exact h)]
  rw [ac (show ¬¬bt (w::x::y::z::r) 1=1 by rw [e1]; exact fun c=>c h1),ab ⟨by omega,by omega,hL⟩,ra (by simp),aa];refine jU (fun h=>?_) (fun hzz=>?_)
  ·rw [ab (show ¬(bt (w::x::y::z::r) 2=0/\bt (w::x::y::z::r) 3=0) by rw [e2,e3,<- hz]; dsimp only at h; rw [h]; simp)]
  rw [ac (show ¬¬(bt (w::x::y::z::r) 2=0/\bt (w::x::y::z::r) 3=0) by rw [e2,e3]; exact fun c=>c (hz.1 hzz)),Int.tmod_eq_emod_of_nonneg (by omega)];refine bZ (fun h=>?_) (fun h5=>?_)
  ·rw [ab (show ((L:Int) - 4) % 20≠0 by omega)]
  ·rw [ac (show ¬((L:Int) - 4) % 20≠0 by omega)]
 refine bZ (fun ha=>?_) (fun ha=>tail (.inl ha));refine bZ (fun hb=>?_) (fun ha2=>tail (.inr ha2));unfold dV;rw [hLL,ac (show ¬65535 < L by omega),ac (show ¬L < 4 by omega),ab (show ¬(bt (w::x::y::z::r) 0=1\/bt (w::x::y::z::r) 0=2) by rw [e0]; omega)]
def dT (e:kW):Int:=if e.aj=255 then (if e.tag=0/\e.family=0 then 0 else 5) else if ¬kG e.addr e.family=true then 7 else if e.aj < 1\/16 < e.aj then 6 else 0
def gm (nx:Bs) (e:kW):Bs:=if e.aj=255 then (if df e.addr=true then e.addr else fp) else nx
def iB (c:Int) (nx:Bs) (e:kW):bD:=bE.mk 2 c 0 [] 0 0 e.addr e.family e.tag nx e.aj [] 0 0 0 0 0 0 0 [] [] [] 0 [] []
def fL (c:Int) (nx:Bs) (e:kW):List bD:=if e.aj=255 then [] else [iB c nx e]
structure wW (e:kW):Prop where
 addr:e.addr.length=16
 tag:0<=e.tag/\e.tag < 65536
 fam:0<=e.family/\e.family < 256
 met:0<=e.aj/\e.aj < 256
theorem EV {s:Bs} (h:s.length=20):wW (fk s):=by
 have h1:=cw s 18;have h2:=cw s 19;have h3:=kC (bH s 16 2);have hl:(bH s 16 2).length=2:=by have:=ew (s:=s) (p:=16) (n:=2) (by omega) (by omega) (by omega); omega
 rw [hl] at h3;exact ⟨by show (s.take 16).length=16; rw [List.length_take]; omega,by show 0<=b5 (bH s 16 2)/\b5 (bH s 16 2) < 65536; exact ⟨h3.1,by have:=h3.2; omega⟩,h1,h2⟩
theorem fX1 {x y:Int} (hx:0<=x/\x < 65536) (hy:0<=y/\y < 256):cB .or .i64 x y=0↔(x=0/\y=0):=by
 obtain ⟨a,rfl⟩:∃ a:Nat,x=a:=⟨x.toNat,by omega⟩;obtain ⟨b,rfl⟩:∃ b:Nat,y=b:=⟨y.toNat,by omega⟩;unfold cB;show IntKind.wrap .i64 (((BitVec.ofInt 64 (a:Int) ||| BitVec.ofInt 64 (b:Int)).toNat:Nat):Int)=0↔_;have h1:a ||| b < 2 ^ 16:=Nat.or_lt_two_pow (by omega) (by omega);rw [BitVec.toNat_or,BitVec.ofInt_natCast,BitVec.ofInt_natCast,BitVec.toNat_ofNat,BitVec.toNat_ofNat,Nat.mod_eq_of_lt (by omega),Nat.mod_eq_of_lt (by omega),bL (by omega) (by omega)];constructor
 ·intro h;have h0:a ||| b=0:=by omega
  rw [Nat.or_eq_zero_iff] at h0;omega
 ·intro h;have e1:a=0:=by omega
  have e2:b=0:=by omega
  subst e1; subst e2; rfl
theorem fN2 {c:Int} {nx:Bs} {out:List bD} {e:kW} (h:wW e) (hm:e.aj=255):BJ (⟨c,nx,out⟩,e,())=some ((dT e,()),(⟨c,if dT e=0 then gm nx e else nx,out⟩,())):=by
 rw [d58];have hz:=fX1 h.tag h.fam;unfold dT gm;rw [ab hm,ab hm];refine bZ (fun q=>?_) (fun q=>?_)
 ·rw [ac (fun c=>q (hz.2 c))]; try rfl
 ·rw [hz] at q;rw [ab q,zC,aa,t6,aa];dsimp only;cases df e.addr <;> rfl
theorem ft2 {c:Int} {nx:Bs} {out:List bD} {e:kW} (h:wW e) (hr:out.length<=10000):zi (⟨c,nx,out⟩,e,())=some ((dT e,()),(⟨c,if dT e=0 then gm nx e else nx,if dT e=0 then out++fL c nx e else out⟩,())):=by
 rw [cF5];refine bR (fun hm=>?_) (fun hm=>?_)
 ·rw [fN2 h hm,aa];have:fL c nx e=[]:=by unfold fL; rw [ab hm]
  rw [this,List.append_nil,ite_self]
 ·have hn:gm nx e=nx:=by unfold gm; rw [ac hm]
  have ho:fL c nx e=[iB c nx e]:=by unfold fL; rw [ac hm]
  rw [hn,ho,ite_self];have hf:IntKind.has .i64 e.family:=cx.2 (by have:=h.fam; omega);rw [Vl h.addr hf,aa];unfold dT;rw [ac hm];refine jU (fun q=>?_) (fun q=>?_)
  ·dsimp only at q;rw [ab (show ¬kG e.addr e.family=true by rw [q]; simp)]; try rfl
  ·dsimp only at q;rw [ac (show ¬¬kG e.addr e.family=true by rw [q]; simp)];refine cF (fun q1=>?_) (fun q1=>?_)
   ·rw [ab (show e.aj < 1\/16 < e.aj from .inl q1)]; try rfl
   refine cF (fun q2=>?_) (fun q2=>?_)
   ·rw [ab (show e.aj < 1\/16 < e.aj from .inr q2)]; try rfl
   rw [ac (show ¬(e.aj < 1\/16 < e.aj) by omega)];show (if cE ((out.length + [iB c nx e].length) * lB)=true then some ((0,()),((jP.mk c nx (out++[iB c nx e])),())) else none)=_;rw [ab (d7 (Nat.le_trans (Nat.mul_le_mul (show out.length + [iB c nx e].length<=10001 by simp; omega) Bx) (by decide)))]
   rfl
def eI (c:Int) (b:Bs):Nat->Nat->Bs->List bD->List bD × Int × Int
 | 0,_,_,acc=>if acc=[] then ([],b.length,8) else (acc,0,0)
 | k+1,p,nx,acc=>if dT (fk (bH b p 20))≠0 then ([],(p:Int),dT (fk (bH b p 20))) else eI c b k (p+20) (gm nx (fk (bH b p 20))) (acc++fL c nx (fk (bH b p 20)))
theorem Wn (c:Int) (nx:Bs) (e:kW):(fL c nx e).length<=1:=by unfold fL; split <;> simp
theorem Z1 {n:Nat} {b:Bs} {c:Int} (hb:b.length<=65535):∀ (k m p:Nat) (nx:Bs) (acc:List bD),p+20 * k=b.length->k < m->acc.length+k<=10000->
  Af n m b p c nx acc=some (bY (eI c b k p nx acc),()):=by
 intro k
 induction k with
 | zero=>
  intro m p nx acc h hm ha;obtain ⟨m,rfl⟩:∃ k,m=k+1:=⟨m - 1,by omega⟩;rw [Ws,bN (by omega),eI];refine bR (fun q=>?_) (fun q=>?_)
  ·rw [ab ((tg acc).1 q)]; try rfl
  ·rw [ac (fun q'=>q ((tg acc).2 q'))]; try rfl
 | succ k ih=>
  intro m p nx acc h hm ha;obtain ⟨m,rfl⟩:∃ k,m=k+1:=⟨m - 1,by omega⟩;have hl:(bH b p 20).length=20:=iD (n:=20) (by omega);have hol:=Wn c nx (fk (bH b p 20));rw [Ws,bP (by omega),bL (by omega) (by omega),ab (by omega),show (List.take ((p:Int)+20).toNat b).drop ((p:Int)).toNat=bH b p 20 from rfl,fD3 hl,aa];dsimp only;rw [ft2 (EV hl) (by omega),aa,eI];refine bZ (fun he=>?_) (fun he=>?_)
  ·rw [ab he]; try rfl
  ·dsimp only at he;have:=ih m (p+20) (gm nx (fk (bH b p 20))) (acc++fL c nx (fk (bH b p 20))) (by omega) (by omega) (by rw [List.length_append]; omega);rw [show ((p+20:Nat):Int)=(p:Int)+20 by omega] at this;rw [ac (show ¬dT (fk (bH b p 20))≠0 by omega),<- this];dsimp only;rw [ab he,ab he]
def fZ (b:Bs):List bD × Int × Int:=if (dV b).2≠0 then ([],dV b) else eI (bt b 0) b ((b.length - 4) / 20) 4 fp []
theorem ft3 {b:Bs} (hb:b.length<=1000000000):EP (b,())=some (bY (fZ b),()):=by
 show FQ fuel _=_;rw [Yl,fD6 hb,aa];unfold fZ;refine bZ (fun h=>?_) (fun h=>?_)
 ·rw [ab h]; try rfl
 ·dsimp only at h;obtain ⟨h1,h2,h3,h4,h5,h6,h7⟩:=E3 h;rw [ac (show ¬(dV b).2≠0 by omega),cN (i:=0) (by omega),aa,zC,aa,eO];exact Z1 (n:=fuel) h2 ((b.length - 4) / 20) fuel 4 fp [] (by omega) (cn (by omega)) (by simp; omega)
theorem eU0 {n:Nat} {b:Bs} (h4:1<=b.length) (hb:b.length<=65535):∀ (k m p:Nat) (nx:Bs) (acc:List bD),p+20 * k=b.length->k < m->acc.length+k<=10000->
  ou n m b acc nx p=some (bY (eI (bt b 0) b k p nx acc),()):=by
 intro k
 induction k with
 | zero=>
  intro m p nx acc h hm ha;obtain ⟨m,rfl⟩:∃ k,m=k+1:=⟨m - 1,by omega⟩;rw [UH,bN (by omega),eI];refine bR (fun q=>?_) (fun q=>?_)
  ·rw [ab ((tg acc).1 q)]; try rfl
  ·rw [ac (fun q'=>q ((tg acc).2 q'))]; try rfl
 | succ k ih=>
  intro m p nx acc h hm ha;obtain ⟨m,rfl⟩:∃ k,m=k+1:=⟨m - 1,by omega⟩;have hl:(bH b p 20).length=20:=iD (n:=20) (by omega);have hol:=Wn (bt b 0) nx (fk (bH b p 20));have hok:=EV hl;have go:=ih m (p+20) (gm nx (fk (bH b p 20))) (acc++fL (bt b 0) nx (fk (bH b p 20))) (by omega) (by omega) (by rw [List.length_append]; omega);rw [show ((p+20:Nat):Int)=(p:Int)+20 by omega] at go;rw [UH,bP (by omega),bL (by omega) (by omega),ab (by omega),show (List.take ((p:Int)+20).toNat b).drop ((p:Int)).toNat=bH b p 20 from rfl,fD4 hl,aa];generalize hE:fk (bH b p 20)=e at *;rw [eI,hE];refine bR (fun hm=>?_) (fun hm=>?_)
  ·have ho:fL (bt b 0) nx e=[]:=by unfold fL; rw [ab hm]
   refine bZ (fun q=>?_) (fun q=>?_)
   ·have:dT e=5:=by unfold dT; rw [ab hm,ac (fun c=>q c.1)]
    rw [this,ab (by decide)]; try rfl
   refine bZ (fun q2=>?_) (fun q2=>?_)
   ·have:dT e=5:=by unfold dT; rw [ab hm,ac (fun c=>q2 c.2)]
    rw [this,ab (by decide)]; try rfl
   have:dT e=0:=by unfold dT; rw [ab hm,ab ⟨q,q2⟩]
   rw [this,ac (by decide),Bj,aa,pY,aa,<- go,ho,List.append_nil];dsimp only;unfold gm;rw [ab hm];cases df e.addr <;> rfl
  ·have hn:gm nx e=nx:=by unfold gm; rw [ac hm]
   have ho:fL (bt b 0) nx e=[iB (bt b 0) nx e]:=by unfold fL; rw [ac hm]
   rw [hn,ho] at go;rw [hn,ho,Lx hok.addr,aa];refine jU (fun q=>?_) (fun q=>?_)
   ·dsimp only at q;have:dT e=7:=by unfold dT; rw [ac hm,ab (by rw [q]; simp)]
    rw [this,ab (by decide)]; try rfl
   dsimp only at q;refine cF (fun q1=>?_) (fun q1=>?_)
   ·have:dT e=6:=by unfold dT; rw [ac hm,ac (by rw [q]; simp),ab (.inl q1)]
    rw [this,ab (by decide)]; try rfl
   refine cF (fun q2=>?_) (fun q2=>?_)
   ·have:dT e=6:=by unfold dT; rw [ac hm,ac (by rw [q]; simp),ab (.inr q2)]
    rw [this,ab (by decide)]; try rfl
   have:dT e=0:=by unfold dT; rw [ac hm,ac (by rw [q]; simp),ac (by dsimp only at q1 q2; omega)]
   rw [this,ac (by decide),cN (i:=0) (by omega),aa,eO,<- go];show (if cE ((acc.length + [iB (bt b 0) nx e].length) * lB)=true then ou n m b (acc++[iB (bt b 0) nx e]) nx ((p:Int)+20) else none)=_;rw [ab (d7 (Nat.le_trans (Nat.mul_le_mul (show acc.length + [iB (bt b 0) nx e].length<=10001 by simp; omega) Bx) (by decide)))]
theorem fg5 {b:Bs} (hb:b.length<=1000000000):Ex (b,())=some (bY (fZ b),()):=by
 show E0 fuel _=_;rw [e50];unfold fZ;have bad:∀ x:Int × Int,dV b=x->x.2≠0->(some (([],x.1,x.2,()),()):Option ((List bD × Int × Int × Unit) × Unit))=some (bY (if (dV b).2≠0 then ([],dV b) else eI (bt b 0) b ((b.length - 4) / 20) 4 fp []),()):=fun x h h2=>by
  rw [h,ab h2]; try rfl
 refine cF (fun h=>bad (65535,10) (by unfold dV; rw [ab (by omega)]) (by decide)) (fun hl=>?_);refine cF (fun h=>bad (b.length,2) (by unfold dV; rw [ac (by omega),ab (by omega)]) (by dsimp only; decide)) (fun h4=>?_);rw [cN (i:=0) (by omega),aa,aa,cN (i:=1) (by omega),aa,cN (i:=2) (by omega),aa,cN (i:=3) (by omega),aa];have b0:¬(bt b 0=1\/bt b 0=2)->dV b=(0,4):=fun h=>by unfold dV; rw [ac (by omega),ac (by omega),ab h]
 have hr:=cw b 0;refine cF (fun h=>bad (0,4) (b0 (by change bt b 0 < 1 at h; omega)) (by decide)) (fun h0=>?_);refine cF (fun h=>bad (0,4) (b0 (by change 2 < bt b 0 at h; omega)) (by decide)) (fun h0'=>?_);have g0:bt b 0=1\/bt b 0=2:=by change ¬bt b 0 < 1 at h0; change ¬2 < bt b 0 at h0'; omega
 refine bZ (fun h=>bad (1,4) (by unfold dV; rw [ac (by omega),ac (by omega),ac (fun c=>c g0),ab (show ¬bt b 1=1 from h)]) (by decide)) (fun h1=>?_);change bt b 1=1 at h1;refine bZ (fun h=>bad (2,5) (by unfold dV; rw [ac (by omega),ac (by omega),ac (fun c=>c g0),ac (fun c=>c h1),ab (fun c=>h c.1)]) (by decide)) (fun h2=>?_);change bt b 2=0 at h2;refine bZ (fun h=>bad (2,5) (by unfold dV; rw [ac (by omega),ac (by omega),ac (fun c=>c g0),ac (fun c=>c h1),ab (fun c=>h c.2)]) (by decide)) (fun h3=>?_);change bt b 3=0 at h3;rw [bL (by omega) (by omega),Int.tmod_eq_emod_of_nonneg (by omega)];have hd:dV b=(if ((b.length:Int) - 4) % 20≠0 then ((b.length:Int),2) else (0,0)):=by
  unfold dV; rw [ac (by omega),ac (by omega),ac (fun c=>c g0),ac (fun c=>c h1),ac (fun c=>c ⟨h2,h3⟩)]
 refine bZ (fun h=>bad (b.length,2) (by rw [hd,ab h]) (by dsimp only; decide)) (fun h5=>?_);rw [hd,ac (show ¬((b.length:Int) - 4) % 20≠0 by omega),ac (by decide),Bj,aa];exact eU0 (n:=fuel) (by omega) (by omega) ((b.length - 4) / 20) fuel 4 fp [] (by omega) (cn (by omega)) (by simp; omega)
end Go.VP
namespace Go.VP
open Go Go.VI
def tJ (nx:Bs) (m:bD):Bs:=if m.next=nx then [] else fu m.next 0 0 255
def ig (nx:Bs) (m:bD):Bs:=tJ nx m++fu m.ah m.tag m.af m.aj
theorem zy {nx:Bs} {m:bD} (h:eR m):(ig nx m).length=if m.next=nx then 20 else 40:=by
 unfold ig tJ;split <;> simp [lS h.len,lS h.next16]
def ia (c:Int):List bD->Nat->Bs->Bs->Bs × Int × Int
 | [],_,acc,_=>(acc,0,0)
 | m::r,i,acc,nx=>if m.cmd≠c then ([],(i:Int),7) else if 65535 < (acc++ig nx m).length then ([],(i:Int),10) else ia c r (i+1) (acc++ig nx m) m.next
theorem Jg {acc nx a:Bs} {t f m:Int} (ha:a.length=16) (ht:0<=t/\t < 65536) (hf:0<=f/\f < 256) (hm:0<=m/\m < 256) (hl:acc.length<=1000000) :
  rF (⟨acc,nx⟩,⟨f,t,a,[],[],m⟩,())=some ((),(⟨acc++fu a t f m,nx⟩,())):=by
 rw [d60,fD5 ha ht hf hm,aa];dsimp only;rw [ab (d7 (by rw [lS ha]; omega))]
theorem ft4 {acc nx:Bs} {m:bD} (h:eR m) (hl:acc.length<=100000):AP (⟨acc,nx⟩,m,())=some ((),(⟨acc++ig nx m,m.next⟩,())):=by
 have hp:=h.af;have hm:=h.aj;rw [cF6];unfold ig tJ;refine q8 (fun q=>?_) (fun q=>?_)
 ·rw [ac q,Jg h.next16 (by omega) (by omega) (by omega) (by show acc.length<=_; omega),aa];dsimp only;rw [Jg h.len h.tag (by omega) (by omega) (by rw [List.length_append,lS h.next16]; omega),aa,List.append_assoc]
 ·dsimp only at q;rw [ab q,Jg h.len h.tag (by omega) (by omega) (by omega),aa,q]
  rfl
theorem ft5 {n:Nat} {l:List bD} {f:bD} (hf:l[0]?=some f) (hok:∀ m∈l,eR m) (hl:l.length<=1000000):∀ (d m i:Nat) (acc nx:Bs),i+d=l.length->d < m->acc.length<=65535->
  yx n m l acc nx i=some (bY (ia f.cmd (l.drop i) i acc nx),()):=by
 intro d
 induction d with
 | zero=>
  intro m i acc nx hd hm ha;obtain ⟨m,rfl⟩:∃ k,m=k+1:=⟨m - 1,by omega⟩;rw [Na,bN (by omega),List.drop_eq_nil_of_le (by omega)]; try rfl
 | succ d ih=>
  intro m i acc nx hd hm ha;obtain ⟨m,rfl⟩:∃ k,m=k+1:=⟨m - 1,by omega⟩;have hi:i < l.length:=by omega
  have ho:=hok _ (List.getElem_mem hi);rw [Na,bP (by omega),ab (by omega),Int.toNat_natCast,ck hi,hf,aa,List.drop_eq_getElem_cons hi,ia,ft4 ho (by omega),aa];refine bZ (fun h=>?_) (fun h=>?_)
  ·rw [ab h]; try rfl
  rw [ac (show ¬l[i].cmd≠f.cmd from fun c=>c h)];refine cF (fun h=>?_) (fun h=>?_)
  ·rw [ab (show 65535 < (acc++ig nx l[i]).length by dsimp only at h; omega)]; try rfl
  ·dsimp only at h;have:=ih m (i+1) (acc++ig nx l[i]) l[i].next (by omega) (by omega) (by omega);rw [show ((i+1:Nat):Int)=(i:Int)+1 by omega] at this;rw [ac (show ¬65535 < (acc++ig nx l[i]).length by omega),bL (by omega) (by omega)];exact this
theorem fg6 {n:Nat} {l:List bD} {f:bD} (hf:l[0]?=some f) (hok:∀ m∈l,eR m) (hl:l.length<=1000000):∀ (d m i:Nat) (acc nx:Bs),i+d=l.length->d < m->acc.length<=65535->
  qp n m l acc nx i=some (bY (ia f.cmd (l.drop i) i acc nx),()):=by
 intro d
 induction d with
 | zero=>
  intro m i acc nx hd hm ha;obtain ⟨m,rfl⟩:∃ k,m=k+1:=⟨m - 1,by omega⟩;rw [Mx,bN (by omega),List.drop_eq_nil_of_le (by omega)]; try rfl
 | succ d ih=>
  intro m i acc nx hd hm ha;obtain ⟨m,rfl⟩:∃ k,m=k+1:=⟨m - 1,by omega⟩;have hi:i < l.length:=by omega
  have ho:=hok _ (List.getElem_mem hi);have hp:0<=(i:Int):=by omega
  have hpl:=ho.af;have hme:=ho.aj;have hln:=zy (nx:=nx) ho;have go:(acc++ig nx l[i]).length<=65535->qp n m l (acc++ig nx l[i]) l[i].next ((i:Int)+1)=some (bY (ia f.cmd (l.drop (i+1)) (i+1) (acc++ig nx l[i]) l[i].next),()):=fun h=>by
   have:=ih m (i+1) (acc++ig nx l[i]) l[i].next (by omega) (by omega) h;rw [show ((i+1:Nat):Int)=(i:Int)+1 by omega] at this;exact this
  rw [Mx,bP (by omega),List.drop_eq_getElem_cons hi,ia];simp only [ab hp,Int.toNat_natCast,List.getElem?_eq_getElem hi,aa,hf];rw [SU ho.next16 (by omega) (by omega) (by omega),SU ho.len ho.tag (by omega) (by omega)];simp only [aa];generalize hN:l[i].next=nn at *;have hnl:nn.length=16:=by rw [<- hN]; exact ho.next16
  refine bZ (fun h=>?_) (fun h=>?_)
  ·rw [ab h]; try rfl
  rw [ac (show ¬l[i].cmd≠f.cmd from fun c=>c h),bL (by omega) (by omega)];unfold ig tJ at *;rw [hN] at *;refine q8 (fun q=>?_) (fun q=>?_)
  ·rw [ac q,ab (bW (by rw [lS hnl]; omega)),ab (bW (by simp only [List.length_append,lS hnl,lS ho.len]; omega)),List.append_assoc];rw [ac q] at go;refine cF (fun h=>?_) (fun h=>?_)
   ·rw [ab (by omega)]; try rfl
   ·rw [ac (by omega)]; exact go (by omega)
  ·rw [ab q,ab (bW (by rw [lS ho.len]; omega))];rw [ab q] at go;refine cF (fun h=>?_) (fun h=>?_)
   ·rw [ab (by simp only [List.nil_append]; omega)]; try rfl
   ·rw [ac (by simp only [List.nil_append]; omega),<- q]; exact go (by simp only [List.nil_append]; omega)
def dA (f:bD->Bool):List bD->Nat->Option Nat
 | [],_=>none
 | m::r,i=>if f m=true then dA f r (i+1) else some i
theorem kJ {f:bD->Bool}:∀ {l:List bD} {i:Nat},dA f l i=none->∀ m∈l,f m=true
 | [],_,_,m,hm=>by cases hm
 | x::r,i,h,m,hm=>by
  unfold dA at h;split at h
  ·rename_i hx;rcases List.mem_cons.1 hm with rfl | hm
   ·exact hx
   ·exact kJ h m hm
  ·cases h
theorem tt {f:bD->Bool}:∀ {l:List bD} {i:Nat},(∀ m∈l,f m=true)->dA f l i=none
 | [],_,_=>rfl
 | x::r,i,h=>by
  unfold dA; rw [ab (h x (by simp))]; exact tt (fun m hm=>h m (by simp [hm]))
def fS (l:List bD):Bs × Int × Int:=match dA fX l 0 with
 | some i=>([],(i:Int),1)
 | none=>match l with
  | []=>([],0,8)
  | f::_=>ia f.cmd l 0 [bF f.cmd,1,0,0] fp
theorem fN3 {l:List bD} (g:∀ m∈l,oo m) (hl:l.length<=1000000):Ed (l,())=some (bY (fS l),()):=by
 show E1 fuel (l,())=_;rw [dP0];have main:∀ (d m i:Nat),i+d=l.length->d < m->dA fX l 0=dA fX (l.drop i) i->ye fuel m l i=some (bY (fS l),()):=by
  intro d
  induction d with
  | zero=>
   intro m i hd hm hb;obtain ⟨m,rfl⟩:∃ k,m=k+1:=⟨m - 1,by omega⟩;rw [List.drop_eq_nil_of_le (by omega)] at hb;have hn:dA fX l 0=none:=hb;have hok:=kJ hn;rw [Wd,bN (by omega)];cases l with
   | nil=>rfl
   | cons f r=>
    have hf:=mv.1 (hok f (by simp));have he:fS (f::r)=ia f.cmd (f::r) 0 [bF f.cmd,1,0,0] fp:=by unfold fS; rw [hn]
    have L:=ft5 (n:=fuel) (f:=f) (l:=f::r) rfl (fun m hm=>mv.1 (hok m hm)) hl (f::r).length fuel 0 [bF f.cmd,1,0,0] fp (by omega) (cn (by omega)) (by simp);have hc:=hf.cmd;rw [he,ac (by simp; omega),show (f::r)[0]?=some f from rfl,aa,zC,aa,f8,lm (by omega)];exact L
  | succ d ih=>
   intro m i hd hm hb;obtain ⟨m,rfl⟩:∃ k,m=k+1:=⟨m - 1,by omega⟩;have hi:i < l.length:=by omega
   rw [List.drop_eq_getElem_cons hi,dA] at hb;rw [Wd,bP (by omega),ab (by omega),Int.toNat_natCast,ck hi,Qc (g _ (List.getElem_mem hi)),aa];dsimp only;cases ho:fX l[i] with
   | true=>
    rw [ab ho] at hb;have:=ih m (i+1) (by omega) (by omega) hb;rw [b7,bL (by omega) (by omega)];exact this
   | false=>
    rw [ac (by rw [ho]; simp)] at hb;rw [cK];unfold fS; rw [hb]; try rfl
 exact main l.length fuel 0 (by omega) (cn (by omega)) rfl
theorem fD7 {l:List bD} (g:∀ m∈l,oo m) (hl:l.length<=1000000):Hx (l,())=some (bY (fS l),()):=by
 show GX fuel (l,())=_;rw [dO3];have main:∀ (d m i:Nat),i+d=l.length->d < m->dA fX l 0=dA fX (l.drop i) i->vA fuel m l i=some (bY (fS l),()):=by
  intro d
  induction d with
  | zero=>
   intro m i hd hm hb;obtain ⟨m,rfl⟩:∃ k,m=k+1:=⟨m - 1,by omega⟩;rw [List.drop_eq_nil_of_le (by omega)] at hb;have hn:dA fX l 0=none:=hb;have hok:=kJ hn;rw [Nc,bN (by omega)];cases l with
   | nil=>rfl
   | cons f r=>
    have hf:=mv.1 (hok f (by simp));have he:fS (f::r)=ia f.cmd (f::r) 0 [bF f.cmd,1,0,0] fp:=by unfold fS; rw [hn]
    have L:=fg6 (n:=fuel) (f:=f) (l:=f::r) rfl (fun m hm=>mv.1 (hok m hm)) hl (f::r).length fuel 0 [bF f.cmd,1,0,0] fp (by omega) (cn (by omega)) (by simp);have hc:=hf.cmd;have r1:dK (f.cmd,1,())=some (([bF f.cmd],()),()):=by
     rw [show dK (f.cmd,1,())=some (((eJ f.cmd 1).1,()),()) from nX (k:=1) (cx.2 (by omega)) (by omega) (by omega)];unfold eJ b6; rw [ab (by rw [decide_eq_true_eq]; omega),IC (by omega)]
    rw [he,ac (by simp; omega),show (f::r)[0]?=some f from rfl,aa,r1,aa];dsimp only;rw [ab (bW (by simp)),Bj,aa];exact L
  | succ d ih=>
   intro m i hd hm hb;obtain ⟨m,rfl⟩:∃ k,m=k+1:=⟨m - 1,by omega⟩;have hi:i < l.length:=by omega
   rw [List.drop_eq_getElem_cons hi,dA] at hb;rw [Nc,bP (by omega),ab (by omega),Int.toNat_natCast,ck hi,VE (g _ (List.getElem_mem hi)),aa];dsimp only;cases ho:fX l[i] with
   | true=>
    rw [ab ho] at hb;have:=ih m (i+1) (by omega) (by omega) hb;rw [b7,bL (by omega) (by omega)];exact this
   | false=>
    rw [ac (by rw [ho]; simp)] at hb;rw [cK];unfold fS; rw [hb]; try rfl
 exact main l.length fuel 0 (by omega) (cn (by omega)) rfl
end Go.VP
