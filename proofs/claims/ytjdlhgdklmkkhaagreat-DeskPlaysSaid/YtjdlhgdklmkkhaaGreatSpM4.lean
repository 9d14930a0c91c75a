import Derived.Test.YtjdlhgdklmkkhaaGreatSpM0
import Derived.Test.YtjdlhgdklmkkhaaGreatSpM1
import Derived.Test.YtjdlhgdklmkkhaaGreatSpM2
import Derived.Test.YtjdlhgdklmkkhaaGreatSpM3
import Derived.Test.YtjdlhgdklmkkhaaGreatSpFQ0
import Derived.Test.YtjdlhgdklmkkhaaGreatSpFQ9
import Derived.Test.YtjdlhgdklmkkhaaGreatSpFQ1
import Derived.Test.YtjdlhgdklmkkhaaGreatSpFQ10
import Derived.Test.YtjdlhgdklmkkhaaGreatSpFQ12
import Derived.Test.YtjdlhgdklmkkhaaGreatSpFQ4
import Derived.Test.YtjdlhgdklmkkhaaGreatSpFQ5
import Derived.Test.YtjdlhgdklmkkhaaGreatSpFGood
import Derived.Test.YtjdlhgdklmkkhaaGreatSpFQ11
import Derived.Test.YtjdlhgdklmkkhaaGreatSpFQ14
import Derived.Test.YtjdlhgdklmkkhaaGreatSpFQ7
set_option linter.unusedVariables false
set_option linter.unusedSimpArgs false
set_option maxRecDepth 100000
noncomputable section
namespace Go.VP
open Go Go.VI
def nI (m:bD):kW:=⟨m.af,m.tag,m.ah,[],[],m.aj⟩
theorem eR.is {m:bD} (h:eR m):m=iB m.cmd m.next (nI m):=by
 have hb:=h.bare;unfold cM dv at hb;rw [ac (by have:=h.kind; omega),ab h.kind] at hb;have:=(ma.1 hb).symm;rw [h.kind] at this;exact this
theorem XW {c:Int} {nx:Bs} {e:kW} (hc:c=1\/c=2) (hn:nx=fp\/df nx=true) (he:wW e) (h0:dT e=0) (hm:e.aj≠255):eR (iB c nx e):=by
 unfold dT at h0;rw [ac hm] at h0;by_cases hp:kG e.addr e.family=true
 ·rw [ac (fun c=>c hp)] at h0;by_cases hq:e.aj < 1\/16 < e.aj
  ·rw [ab hq] at h0; omega
  ·refine ⟨rfl,?_,hc,he.tag,?_,he.addr,hp,hn⟩
   ·unfold cM dv;rw [ac (show ¬((iB c nx e).kind=1) from fun q=>absurd (show (2:Int)=1 from q) (by decide)),ab (show (iB c nx e).kind=2 from rfl)];exact iA _
   ·show 1<=e.aj/\e.aj<=16;omega
 ·rw [ab hp] at h0; omega
theorem GU (b:Bs) (p k:Nat):bH b p (k:Int)=(b.drop p).take k:=by
 unfold bH;rw [show ((p:Int)+(k:Int)).toNat=p+k by omega,Int.toNat_natCast,List.drop_take];congr 1;omega
theorem JU {a:Bs} {t f m:Int} (ha:a.length=16) (ht:0<=t/\t < 65536) (hf:0<=f/\f < 256) (hm:0<=m/\m < 256):fk (fu a t f m)=⟨f,t,a,[],[],m⟩:=by
 have h2:(be 2 t).length=2:=cm 2 t;have e1:bt (fu a t f m) 18=f:=by
  unfold bt fu;rw [List.getElem?_append_right (by omega),List.getElem?_append_right (by omega),ha,h2];show (((bF f)).toNat:Int)=f;rw [fD]; omega
 have e2:bt (fu a t f m) 19=m:=by
  unfold bt fu;rw [List.getElem?_append_right (by omega),List.getElem?_append_right (by omega),ha,h2];show (((bF m)).toNat:Int)=m;rw [fD]; omega
 have e3:b5 (bH (fu a t f m) 16 2)=t:=by
  have:=GU (fu a t f m) 16 2;rw [show ((16:Nat):Int)=16 from rfl,show ((2:Nat):Int)=2 from rfl] at this;rw [this];unfold fu;rw [show List.drop 16 (a++(be 2 t++[bF f,bF m]))=be 2 t++[bF f,bF m] by rw [<- ha,List.drop_left],List.take_left' h2];exact oM 2 t ht.1 (by omega)
 have e4:(fu a t f m).take 16=a:=by unfold fu; rw [<- ha,List.take_left]
 unfold fk;rw [e1,e2,e3,e4]
def fW:Bs->List bD->Bs
 | _,[]=>[]
 | nx,m::r=>ig nx m++fW m.next r
theorem QW {c:Int} {b rest:Bs} {p k:Nat} {m:bD} {acc:List bD} (h:eR m) (hc:m.cmd=c) (hd:b.drop p=fu m.ah m.tag m.af m.aj++rest):eI c b (k+1) p m.next acc=eI c b k (p+20) m.next (acc++[m])/\b.drop (p+20)=rest:=by
 have hl:=lS h.len m.tag m.af m.aj;have hp:=h.af;have hme:=h.aj;have e:bH b p 20=fu m.ah m.tag m.af m.aj:=by
  rw [show (20:Int)=((20:Nat):Int) from rfl,GU,hd,List.take_left' hl]
 have he:fk (bH b p 20)=nI m:=by rw [e]; exact JU h.len h.tag (by omega) (by omega)
 have hm:(nI m).aj≠255:=by show m.aj≠255; omega
 have h0:dT (nI m)=0:=by
  unfold dT;rw [ac hm,ac (fun q=>q h.pre),ac (show ¬((nI m).aj < 1\/16 < (nI m).aj) by show ¬(m.aj < 1\/16 < m.aj); omega)]
 have ho:fL c m.next (nI m)=[m]:=by
  unfold fL;rw [ac hm,<- hc,<- h.is]
 have hn:gm m.next (nI m)=m.next:=by unfold gm; rw [ac hm]
 refine ⟨?_,by rw [<- List.drop_drop,hd,List.drop_left' hl]⟩;rw [eI,he,ac (fun q=>q h0),ho,hn]
theorem fX3 {c:Int} {b rest nx:Bs} {p k:Nat} {m:bD} {acc:List bD} (h:eR m) (hd:b.drop p=fu m.next 0 0 255++rest):eI c b (k+1) p nx acc=eI c b k (p+20) m.next acc/\b.drop (p+20)=rest:=by
 have hl:=lS h.next16 0 0 255;have e:bH b p 20=fu m.next 0 0 255:=by
  rw [show (20:Int)=((20:Nat):Int) from rfl,GU,hd,List.take_left' hl]
 have he:fk (bH b p 20)=⟨0,0,m.next,[],[],255⟩:=by rw [e]; exact JU h.next16 (by omega) (by omega) (by omega)
 have h0:dT ⟨0,0,m.next,[],[],255⟩=0:=by unfold dT; rw [ab rfl,ab ⟨rfl,rfl⟩]
 have ho:fL c nx ⟨0,0,m.next,[],[],255⟩=[]:=by unfold fL; rw [ab rfl]
 have hn:gm nx ⟨0,0,m.next,[],[],255⟩=m.next:=by
  unfold gm;rw [ab rfl];rcases h.next with q | q
  ·dsimp only; rw [q]; split <;> rfl
  ·exact ab q
 refine ⟨?_,by rw [<- List.drop_drop,hd,List.drop_left' hl]⟩;rw [eI,he,ac (fun q=>q h0),ho,hn,List.append_nil]
theorem V8:∀ {l:List bD} {nx:Bs},(∀ m∈l,eR m)->∃ k,(fW nx l).length=20 * k/\l.length<=k
 | [],_,_=>⟨0,rfl,Nat.le_refl _⟩
 | m::r,nx,h=>by
  obtain ⟨k,hk,hr⟩:=V8 (nx:=m.next) fun x hx=>h x (List.mem_cons_of_mem _ hx)
  have:=zy (nx:=nx) (h m (List.mem_cons_self ..));by_cases hn:m.next=nx
  ·rw [ab hn] at this;exact ⟨k+1,by unfold fW; rw [List.length_append,this,hk]; omega,by simp; omega⟩
  ·rw [ac hn] at this;exact ⟨k+2,by unfold fW; rw [List.length_append,this,hk]; omega,by simp; omega⟩
theorem fD9 {c:Int} {b:Bs}:∀ (l:List bD) (k p:Nat) (nx:Bs) (acc:List bD),b.drop p=fW nx l->p+20 * k=b.length->(∀ m∈l,eR m/\m.cmd=c)->
  eI c b k p nx acc=if acc++l=[] then ([],(b.length:Int),8) else (acc++l,0,0):=by
 intro l
 induction l with
 | nil=>
  intro k p nx acc hd hk _;have:=congrArg List.length hd;rw [List.length_drop] at this;have hk0:k=0:=by unfold fW at this; simp at this; omega
  subst hk0;rw [eI,List.append_nil]
 | cons m r ih=>
  intro k p nx acc hd hk h;obtain ⟨hm,hc⟩:=h m (List.mem_cons_self ..);have hlen:=congrArg List.length hd;rw [List.length_drop] at hlen;unfold fW at hd hlen;rw [List.length_append,zy hm] at hlen;have hr:=fun x hx=>h x (List.mem_cons_of_mem _ hx)
  have e:acc++m::r=(acc++[m])++r:=by simp
  unfold ig tJ at hd;by_cases hn:m.next=nx
  ·rw [ab hn] at hd hlen;obtain ⟨k,rfl⟩:∃ j,k=j+1:=⟨k - 1,by omega⟩;obtain ⟨h1,h2⟩:=QW (k:=k) (acc:=acc) hm hc hd;rw [<- hn,h1,ih k (p+20) m.next (acc++[m]) h2 (by omega) hr,e]
  ·rw [ac hn] at hd hlen;obtain ⟨k,rfl⟩:∃ j,k=j+2:=⟨k - 2,by omega⟩;rw [List.append_assoc] at hd;obtain ⟨h1,h2⟩:=fX3 (c:=c) (nx:=nx) (k:=k+1) (acc:=acc) hm hd;obtain ⟨h3,h4⟩:=QW (k:=k) (acc:=acc) hm hc h2;rw [h1,h3,ih k (p+20+20) m.next (acc++[m]) h4 (by omega) hr,e]
theorem K7 {c:Int}:∀ {l:List bD} {i:Nat} {acc nx:Bs},(ia c l i acc nx).2.2=0->(∀ m∈l,m.cmd=c)/\ia c l i acc nx=(acc++fW nx l,0,0)/\(acc.length<=65535->(acc++fW nx l).length<=65535)
 | [],i,acc,nx,_=>⟨(fun m hm=>by cases hm),by simp [ia,fW],by simp [fW]⟩
 | m::r,i,acc,nx,h=>by
  unfold ia at h |-;by_cases h1:m.cmd≠c
  ·rw [ab h1] at h; cases h
  by_cases h2:65535 < (acc++ig nx m).length
  ·rw [ac h1,ab h2] at h; cases h
  rw [ac h1,ac h2] at h |-;obtain ⟨k1,k2,k3⟩:=K7 h;rw [List.append_assoc] at k2 k3;exact ⟨fun x hx=>by rcases List.mem_cons.1 hx with rfl | hx; exact Classical.byContradiction h1; exact k1 x hx,k2,fun _=>k3 (by omega)⟩
theorem KK {c:Int}:∀ {l:List bD} {i:Nat} {acc nx:Bs},(∀ m∈l,m.cmd=c)->(acc++fW nx l).length<=65535->ia c l i acc nx=(acc++fW nx l,0,0)
 | [],i,acc,nx,_,_=>by simp [ia,fW]
 | m::r,i,acc,nx,h,hl=>by
  unfold fW at hl |-;rw [<- List.append_assoc] at hl |-;unfold ia;rw [ac (fun q=>q (h m (List.mem_cons_self ..))),ac (by rw [List.length_append] at hl; omega)];exact KK (fun x hx=>h x (List.mem_cons_of_mem _ hx)) hl
theorem fN4 {l:List bD} (h:(fS l).2.2=0):(∀ m∈l,eR m)/\l≠[]:=by
 unfold fS at h;split at h
 ·cases h
 ·rename_i hb;cases l with
  | nil=>cases h
  | cons f r=>exact ⟨fun m hm=>mv.1 (kJ hb m hm),by simp⟩
theorem Si {f:bD} {r:List bD} (h:∀ m∈f::r,eR m):fS (f::r)=ia f.cmd (f::r) 0 [bF f.cmd,1,0,0] fp:=by
 unfold fS;rw [tt fun m hm=>mv.2 (h m hm)]
theorem ft6 {c:Int} {x:Bs} {k:Nat} (hc:c=1\/c=2) (hx:x.length=20 * k) (hl:4+x.length<=65535):dV ([bF c,1,0,0]++x)=(0,0)/\bt ([bF c,1,0,0]++x) 0=c:=by
 have e0:bt ([bF c,1,0,0]++x) 0=c:=by
  show ((bF c).toNat:Int)=c;rw [fD]; omega
 have e1:bt ([bF c,1,0,0]++x) 1=1:=rfl;have e2:bt ([bF c,1,0,0]++x) 2=0:=rfl;have e3:bt ([bF c,1,0,0]++x) 3=0:=rfl;have hL:([bF c,1,0,0]++x).length=4+x.length:=by simp; omega
 refine ⟨?_,e0⟩;unfold dV;rw [hL,e0,e1,e2,e3,ac (by omega),ac (by omega),ac (by omega),ac (by omega),ac (by omega),ac (by omega)]
theorem fX4 {l:List bD} (h:(fS l).2.2=0):fZ (fS l).1=(l,0,0)/\(fS l).1.length<=65535:=by
 obtain ⟨hr,hne⟩:=fN4 h;cases l with
 | nil=>exact absurd rfl hne
 | cons f r=>
  rw [Si hr] at h |-;obtain ⟨h1,h2,h3⟩:=K7 h;have h3:=h3 (by simp);rw [h2];dsimp only;obtain ⟨k,hk,_⟩:=V8 (nx:=fp) hr;rw [List.length_append] at h3;obtain ⟨g1,g2⟩:=ft6 (hr f (by simp)).cmd hk (by simp at h3; omega);have hL:([bF f.cmd,1,0,0]++fW fp (f::r)).length=4+20 * k:=by rw [List.length_append,hk]; rfl
  refine ⟨?_,by rw [List.length_append]; exact h3⟩;unfold fZ;rw [g1,g2,ac (by simp),hL,show (4+20 * k - 4) / 20=k by omega];have:=fD9 (c:=f.cmd) (b:=[bF f.cmd,1,0,0]++fW fp (f::r)) (f::r) k 4 fp [] rfl (by rw [hL]) (fun m hm=>⟨hr m hm,h1 m hm⟩);rw [this,ac (by simp)]
  rfl
theorem Mv {c:Int} {b:Bs}:∀ {k p:Nat} {nx:Bs} {acc:List bD},p+20 * k=b.length->(eI c b k p nx acc).2.2≠0->(eI c b k p nx acc).1=[]/\0<=(eI c b k p nx acc).2.1/\(eI c b k p nx acc).2.1<=b.length
 | 0,p,nx,acc,hk,h=>by
  unfold eI at h |-;by_cases q:acc=[]
  ·rw [ab q]; simp
  ·rw [ac q] at h; exact absurd rfl h
 | k+1,p,nx,acc,hk,h=>by
  unfold eI at h |-;by_cases q:dT (fk (bH b p 20))≠0
  ·rw [ab q]; simp; omega
  ·rw [ac q] at h |-;exact Mv (by omega) h
theorem fg7 {b:Bs} (h:(fZ b).2.2≠0):(fZ b).1=[]/\0<=(fZ b).2.1/\(fZ b).2.1<=b.length:=by
 unfold fZ at h |-;by_cases q:(dV b).2≠0
 ·rw [ab q]; exact ⟨rfl,fg4⟩
 ·rw [ac q] at h |-;obtain ⟨h1,h2,_,_,_,_,h7⟩:=E3 (Classical.byContradiction q);exact Mv (by omega) h
theorem DJ {c:Int} {b:Bs} (hc:c=1\/c=2):∀ {k p:Nat} {nx:Bs} {acc:List bD},p+20 * k=b.length->(nx=fp\/df nx=true)->(eI c b k p nx acc).2.2=0->(eI c b k p nx acc).2.1=0/\∃ l,(eI c b k p nx acc).1=acc++l/\acc++l≠[]/\(∀ m∈l,eR m/\m.cmd=c)/\l.length<=k/\
  ∀ nx',(fW nx' l).length<=20 * k+if nx'=nx then 0 else 20
 | 0,p,nx,acc,hk,hn,h=>by
  unfold eI at h |-;by_cases q:acc=[]
  ·rw [ab q] at h; cases h
  ·rw [ac q]; exact ⟨rfl,[],by simp,by simpa using q,(fun m hm=>by cases hm),Nat.le_refl _,fun nx'=>by simp [fW]⟩
 | k+1,p,nx,acc,hk,hn,h=>by
  unfold eI at h |-;by_cases q:dT (fk (bH b p 20))≠0
  ·rw [ab q] at h; exact absurd h q
  ·rw [ac q] at h |-;have q0:dT (fk (bH b p 20))=0:=Classical.byContradiction q;have hl:(bH b p 20).length=20:=iD (n:=20) (by omega);have he:=EV hl;generalize fk (bH b p 20)=e at *;by_cases hm:e.aj=255
   ·have ho:fL c nx e=[]:=by unfold fL; rw [ab hm]
    have hn':gm nx e=fp\/df (gm nx e)=true:=by
     unfold gm;rw [ab hm];split
     ·exact .inr (by assumption)
     ·exact .inl rfl
    rw [ho,List.append_nil] at h |-;obtain ⟨k0,l,k1,k2,k3,k4,k5⟩:=DJ hc (by omega) hn' h;refine ⟨k0,l,k1,k2,k3,by omega,fun nx'=>?_⟩;have:=k5 nx';split at this <;> split <;> omega
   ·have ho:fL c nx e=[iB c nx e]:=by unfold fL; rw [ac hm]
    have hnn:gm nx e=nx:=by unfold gm; rw [ac hm]
    rw [ho,hnn] at h |-;obtain ⟨k0,l,k1,k2,k3,k4,k5⟩:=DJ hc (by omega) hn h;have hr:=XW hc hn he q0 hm;refine ⟨k0,iB c nx e::l,by rw [k1]; simp,by simp,fun m hmm=>?_,by simp; omega,fun nx'=>?_⟩
    ·rcases List.mem_cons.1 hmm with rfl | hmm
     ·exact ⟨hr,rfl⟩
     ·exact k3 m hmm
    ·have h1:=k5 nx;rw [ab rfl] at h1;have h2:=zy (nx:=nx') hr;have e1:(iB c nx e).next=nx:=rfl;unfold fW;rw [List.length_append,h2,e1];by_cases q3:nx'=nx
     ·rw [ab q3.symm,ab q3]; omega
     ·rw [ac (fun q=>q3 q.symm),ac q3]; omega
theorem fN5 {b:Bs} (h:(fZ b).2.2=0):(fZ b).2.1=0/\(∀ m∈(fZ b).1,eR m)/\(fZ b).1≠[]/\(fZ b).1.length<=3277/\(fS (fZ b).1).2.2=0/\(fS (fZ b).1).1.length<=b.length:=by
 unfold fZ at h |-;by_cases q:(dV b).2≠0
 ·rw [ab q] at h; exact absurd h q
 ·rw [ac q] at h |-;obtain ⟨h1,h2,h3,_,_,_,h7⟩:=E3 (Classical.byContradiction q);obtain ⟨k0,l,k1,k2,k3,k4,k5⟩:=DJ h3 (by omega) (.inl rfl) h;rw [List.nil_append] at k1 k2;rw [k1];have hr:∀ m∈l,eR m:=fun m hm=>(k3 m hm).1
  have:=k5 fp;rw [ab rfl] at this;refine ⟨k0,hr,k2,by omega,?_⟩;cases l with
  | nil=>exact absurd rfl k2
  | cons f r=>
   have hf:=(k3 f (by simp)).2;rw [Si hr,KK (fun m hm=>by rw [(k3 m hm).2,hf]) (by rw [List.length_append]; simp; omega)];exact ⟨rfl,by rw [List.length_append]; simp; omega⟩
end Go.VP
namespace Go.VP
open Go Go.VI
def iG (n:Int):Prop:=0<=n/\n < 4294967296
def W8 (n:Int):Prop:=0<=n/\n < 256
theorem i9 {n:Int}:b6 n 4=true↔iG n:=by simp [b6,iG]
theorem vn {n:Int}:b6 n 1=true↔W8 n:=by simp [b6,W8]
theorem qR {n:Int} (h:IntKind.has .i64 n):dp (n,4,())=some ((b6 n 4,()),()):=ip (k:=4) h (by omega) (by omega)
theorem T1 {n:Int} (h:IntKind.has .i64 n):dp (n,1,())=some ((b6 n 1,()),()):=ip (k:=1) h (by omega) (by omega)
theorem rU {n:Int}:gI (n,4,())=some ((b6 n 4,()),()):=rC (k:=4) (by omega) (by omega)
theorem Xw {n:Int}:gI (n,1,())=some ((b6 n 1,()),()):=rC (k:=1) (by omega) (by omega)
structure kE (m:bD):Prop where
 kind:m.kind=3
 bare:cM m=true
 flags:0<=m.flags/\m.flags<=31
 addr:m.addr.length=4
 aD:m.aD.length=4
 aB:iG m.aB
 seq:iG m.seq
 seq2:iG m.seq2
 hops:W8 m.hops
 subs:fI m.subs=true
structure jr (m:bD):Prop where
 kind:m.kind=4
 bare:cM m=true
 flags:0<=m.flags/\m.flags<=3
 af:0<=m.af/\m.af<=31
 addr:m.addr.length=4
 aD:m.aD.length=4
 seq:iG m.seq
 life:iG m.aw
 hops:W8 m.hops
 subs:fI m.subs=true
structure kI (m:bD):Prop where
 kind:m.kind=6
 bare:cM m=true
 subs:fI m.subs=true
def kA (d:gW):Bool:=decide (d.addr.length=4) && b6 d.seq 4
structure jA (m:bD):Prop where
 kind:m.kind=5
 bare:cM m=true
 flags:m.flags=0\/m.flags=1
 len:1<=m.list.length/\m.list.length<=255
 list:m.list.all kA=true
 subs:fI m.subs=true
open Classical in
def gc (m:bD):Bool:=decide (kE m)
open Classical in
def gh (m:bD):Bool:=decide (jr m\/kI m)
open Classical in
def iP (m:bD):Bool:=decide (jA m)
theorem kQ {m:bD}:gc m=true↔kE m:=by simp [gc]
theorem kt {m:bD}:gh m=true↔(jr m\/kI m):=by simp [gh]
theorem nE {m:bD}:iP m=true↔jA m:=by simp [iP]
theorem FF {a b:Bool} (h:a=true↔b=true):a=b:=by cases a <;> cases b <;> simp_all
theorem rD {b:Bool} (h:¬b=true):b=false:=by cases b <;> simp_all
structure eZ (m:bD):Prop where
 aB:IntKind.has .i64 m.aB
 seq:IntKind.has .i64 m.seq
 seq2:IntKind.has .i64 m.seq2
 hops:IntKind.has .i64 m.hops
 life:IntKind.has .i64 m.aw
 list:m.list.length<=1000000
 ds:∀ d∈m.list,IntKind.has .i64 d.seq
 subs:em m.subs
 subs1:m.subs.length<=1000000
theorem fX5 {n k:Nat} {m:bD} (g:eZ m):vE n (k+4) m [m.aB,m.seq,m.seq2] 3 0=some ((b6 m.aB 4 && (b6 m.seq 4 && (b6 m.seq2 4 && (b6 m.hops 1 && fI m.subs))),()),()):=by
 rw [yj,bP (by decide),ab (by decide),show ([m.aB,m.seq,m.seq2])[(0:Int).toNat]?=some m.aB from rfl,aa,qR g.aB,aa];dsimp only;cases b6 m.aB 4 with
 | false=>rfl
 | true=>
  rw [b7,show IntKind.wrap .i64 ((0:Int)+1)=1 from rfl,yj,bP (by decide),ab (by decide),show ([m.aB,m.seq,m.seq2])[(1:Int).toNat]?=some m.seq from rfl,aa,qR g.seq,aa];dsimp only;cases b6 m.seq 4 with
  | false=>rfl
  | true=>
   rw [b7,show IntKind.wrap .i64 ((1:Int)+1)=2 from rfl,yj,bP (by decide),ab (by decide),show ([m.aB,m.seq,m.seq2])[(2:Int).toNat]?=some m.seq2 from rfl,aa,qR g.seq2,aa];dsimp only;cases b6 m.seq2 4 with
   | false=>rfl
   | true=>
    rw [b7,show IntKind.wrap .i64 ((2:Int)+1)=3 from rfl,yj,bN (by decide),T1 g.hops,aa];dsimp only;cases b6 m.hops 1 with
    | false=>rfl
    | true=>rw [cQ,xH g.subs.1]; rfl
theorem Ns {m:bD} (hk:m.kind=3) (hb:cM m=true) (h0:0<=m.flags) (h1:m.flags<=31) (ha:m.addr.length=4) (ho:m.aD.length=4):gc m=(b6 m.aB 4 && (b6 m.seq 4 && (b6 m.seq2 4 && (b6 m.hops 1 && fI m.subs)))):=by
 apply FF;simp only [Bool.and_eq_true,kQ,i9,vn];exact ⟨fun h=>⟨h.aB,h.seq,h.seq2,h.hops,h.subs⟩,fun ⟨a,b,c,d,e⟩=>⟨hk,hb,⟨h0,h1⟩,ha,ho,a,b,c,d,e⟩⟩
theorem Lz {m:bD} (g:eZ m):Bi (m,())=some ((gc m,()),()):=by
 show EM fuel _=_;have no:¬kE m->(some ((false,()),()):Option ((Bool × Unit) × Unit))=some ((gc m,()),()):=fun h=>by rw [rD (fun q=>h (kQ.1 q))]
 rw [ek4];refine bZ (fun q=>no (fun h=>q h.kind)) (fun hk=>?_);rw [mD,aa];refine jU (fun q=>no (fun h=>by have:=h.bare; dsimp only at q; rw [q] at this; cases this)) (fun hb=>?_);refine cF (fun q=>no (fun h=>by have:=h.flags; omega)) (fun h0=>?_);refine cF (fun q=>no (fun h=>by have:=h.flags; omega)) (fun h1=>?_);refine bZ (fun q=>no (fun h=>by have:=h.addr; omega)) (fun ha=>?_);refine bZ (fun q=>no (fun h=>by have:=h.aD; omega)) (fun ho=>?_);have hf:=cn (n:=4) (by omega);have:=fX5 (n:=fuel) (k:=fuel - 4) g;rw [show fuel - 4+4=fuel by omega] at this;rw [Ns hk hb (by omega) (by omega) (by omega) (by omega)];exact this
theorem Wv {m:bD} (g:eZ m):uo (m,())=some ((gc m,()),()):=by
 have no:¬kE m->(some ((false,()),()):Option ((Bool × Unit) × Unit))=some ((gc m,()),()):=fun h=>by rw [rD (fun q=>h (kQ.1 q))]
 have gl:=g.list;rw [e34];refine bR (fun hk=>?_) (fun q=>no (fun h=>q h.kind));rw [mC (by omega) g.subs.1,aa];dsimp only;cases hb:cM m with
 | false=>exact no (fun h=>by have:=h.bare; rw [hb] at this; cases this)
 | true=>
  rw [cQ];refine eV (fun h0=>?_) (fun q=>no (fun h=>by have:=h.flags; omega));refine eV (fun h1=>?_) (fun q=>no (fun h=>by have:=h.flags; omega));rw [Xw,aa,rU,aa,rU,aa,rU,aa,Ae g.subs.1,aa];dsimp only;cases c1:b6 m.hops 1 with
  | false=>exact no (fun h=>by have:=vn.2 h.hops; rw [c1] at this; cases this)
  | true=>cases c2:b6 m.aB 4 with
   | false=>exact no (fun h=>by have:=i9.2 h.aB; rw [c2] at this; cases this)
   | true=>cases c3:b6 m.seq 4 with
    | false=>exact no (fun h=>by have:=i9.2 h.seq; rw [c3] at this; cases this)
    | true=>cases c4:b6 m.seq2 4 with
     | false=>exact no (fun h=>by have:=i9.2 h.seq2; rw [c4] at this; cases this)
     | true=>
      rw [cQ,cQ,cQ,cQ];refine bR (fun ha=>?_) (fun q=>no (fun h=>by have:=h.addr; omega));refine bR (fun ho=>?_) (fun q=>no (fun h=>by have:=h.aD; omega));rw [Ns hk hb h0 h1 (by omega) (by omega),c1,c2,c3,c4]
      rfl
theorem NP {m:bD} (hk:m.kind=4) (hb:cM m=true) (hs:fI m.subs=true) (h0:0<=m.flags) (h1:m.flags<=3) (h2:0<=m.af) (h3:m.af<=31) (c1:b6 m.hops 1=true) (c2:b6 m.seq 4=true) (c3:b6 m.aw 4=true) (ha:m.addr.length=4):gh m=((m.aD.length:Int)==4):=by
 apply FF;simp only [kt,beq_iff_eq];constructor
 ·rintro (h | h)
  ·have:=h.aD; omega
  ·have:=h.kind; omega
 ·intro ho;exact .inl ⟨hk,hb,⟨h0,h1⟩,⟨h2,h3⟩,ha,by omega,i9.1 c2,i9.1 c3,vn.1 c1,hs⟩
theorem SA {m:bD} (g:eZ m):vh (m,())=some ((gh m,()),()):=by
 have no:¬jr m->¬kI m->(some ((false,()),()):Option ((Bool × Unit) × Unit))=some ((gh m,()),()):=fun h h2=>by rw [rD (fun q=>(kt.1 q).elim h h2)]
 rw [ZG,mD,aa];dsimp only;cases hb:cM m with
 | false=>exact no (fun h=>by have:=h.bare; rw [hb] at this; cases this) (fun h=>by have:=h.bare; rw [hb] at this; cases this)
 | true=>
  rw [b7,xH g.subs.1,aa];dsimp only;cases hs:fI m.subs with
  | false=>exact no (fun h=>by have:=h.subs; rw [hs] at this; cases this) (fun h=>by have:=h.subs; rw [hs] at this; cases this)
  | true=>
   rw [b7];refine bR (fun hk=>by rw [kt.2 (.inr ⟨hk,hb,hs⟩)]) (fun hk6=>?_);have no':¬jr m->(some ((false,()),()):Option ((Bool × Unit) × Unit))=some ((gh m,()),()):=fun h=>no h (fun q=>hk6 q.kind)
   refine bR (fun hk=>?_) (fun q=>no' (fun h=>q h.kind));refine eV (fun h0=>?_) (fun q=>no' (fun h=>by have:=h.flags; omega));refine eV (fun h1=>?_) (fun q=>no' (fun h=>by have:=h.flags; omega));refine eV (fun h2=>?_) (fun q=>no' (fun h=>by have:=h.af; omega));refine eV (fun h3=>?_) (fun q=>no' (fun h=>by have:=h.af; omega));rw [T1 g.hops,aa,qR g.seq,aa,qR g.life,aa];dsimp only;cases c1:b6 m.hops 1 with
   | false=>exact no' (fun h=>by have:=vn.2 h.hops; rw [c1] at this; cases this)
   | true=>cases c2:b6 m.seq 4 with
    | false=>exact no' (fun h=>by have:=i9.2 h.seq; rw [c2] at this; cases this)
    | true=>cases c3:b6 m.aw 4 with
     | false=>exact no' (fun h=>by have:=i9.2 h.life; rw [c3] at this; cases this)
     | true=>
      rw [cQ,cQ,cQ];refine bR (fun ha=>?_) (fun q=>no' (fun h=>by have:=h.addr; omega));rw [NP hk hb hs h0 (by omega) h2 (by omega) c1 c2 c3 (by omega)]
theorem TJ {m:bD} (g:eZ m):u9 (m,())=some ((gh m,()),()):=by
 have no:¬jr m->¬kI m->(some ((false,()),()):Option ((Bool × Unit) × Unit))=some ((gh m,()),()):=fun h h2=>by rw [rD (fun q=>(kt.1 q).elim h h2)]
 have gl:=g.list;rw [e35,mC (by omega) g.subs.1,aa];dsimp only;cases hb:cM m with
 | false=>exact no (fun h=>by have:=h.bare; rw [hb] at this; cases this) (fun h=>by have:=h.bare; rw [hb] at this; cases this)
 | true=>
  rw [b7,Ae g.subs.1,aa];dsimp only;cases hs:fI m.subs with
  | false=>exact no (fun h=>by have:=h.subs; rw [hs] at this; cases this) (fun h=>by have:=h.subs; rw [hs] at this; cases this)
  | true=>
   rw [b7];refine bR (fun hk=>by rw [kt.2 (.inr ⟨hk,hb,hs⟩)]) (fun hk6=>?_);have no':¬jr m->(some ((false,()),()):Option ((Bool × Unit) × Unit))=some ((gh m,()),()):=fun h=>no h (fun q=>hk6 q.kind)
   refine bR (fun hk=>?_) (fun q=>no' (fun h=>q h.kind));refine eV (fun h0=>?_) (fun q=>no' (fun h=>by have:=h.flags; omega));refine eV (fun h1=>?_) (fun q=>no' (fun h=>by have:=h.flags; omega));refine eV (fun h2=>?_) (fun q=>no' (fun h=>by have:=h.af; omega));refine eV (fun h3=>?_) (fun q=>no' (fun h=>by have:=h.af; omega));rw [Xw,aa,rU,aa,rU,aa];dsimp only;cases c1:b6 m.hops 1 with
   | false=>exact no' (fun h=>by have:=vn.2 h.hops; rw [c1] at this; cases this)
   | true=>cases c2:b6 m.seq 4 with
    | false=>exact no' (fun h=>by have:=i9.2 h.seq; rw [c2] at this; cases this)
    | true=>cases c3:b6 m.aw 4 with
     | false=>exact no' (fun h=>by have:=i9.2 h.life; rw [c3] at this; cases this)
     | true=>
      rw [cQ,cQ,cQ];refine bR (fun ha=>?_) (fun q=>no' (fun h=>by have:=h.addr; omega));rw [NP hk hb hs h0 h1 h2 h3 c1 c2 c3 (by omega)]
end Go.VP
namespace Go.VP
open Go Go.VI
theorem fX6 {n:Nat} {m:bD} (g:eZ m):∀ (d k i:Nat),i+d=m.list.length->d < k->rM n k m i=some (((m.list.drop i).all kA && fI m.subs,()),()):=by
 have gl:=g.list;intro d
 induction d with
 | zero=>
  intro k i hd hk;obtain ⟨k,rfl⟩:∃ j,k=j+1:=⟨k - 1,by omega⟩;rw [XF,bN (by omega),List.drop_eq_nil_of_le (by omega),xH g.subs.1]; rfl
 | succ d ih=>
  intro k i hd hk;obtain ⟨k,rfl⟩:∃ j,k=j+1:=⟨k - 1,by omega⟩;have hi:i < m.list.length:=by omega
  have:=ih k (i+1) (by omega) (by omega);rw [show ((i+1:Nat):Int)=(i:Int)+1 by omega] at this;rw [XF,bP (by omega),ab (by omega),Int.toNat_natCast,ck hi,qR (g.ds _ (List.getElem_mem hi)),aa,bL (by omega) (by omega),this,List.drop_eq_getElem_cons hi,List.all_cons];unfold kA;refine bZ (fun q=>?_) (fun q=>?_)
  ·rw [decide_eq_false (by omega)]; rfl
  ·rw [decide_eq_true (by omega)];dsimp only;cases b6 m.list[i].seq 4 <;> rfl
theorem XO {n:Nat} {m:bD} (g:eZ m):∀ (d k i:Nat),i+d=m.list.length->d < k->yN n k m i=some (((m.list.drop i).all kA,()),()):=by
 have gl:=g.list;intro d
 induction d with
 | zero=>
  intro k i hd hk;obtain ⟨k,rfl⟩:∃ j,k=j+1:=⟨k - 1,by omega⟩;rw [M3,bN (by omega),List.drop_eq_nil_of_le (by omega)]; rfl
 | succ d ih=>
  intro k i hd hk;obtain ⟨k,rfl⟩:∃ j,k=j+1:=⟨k - 1,by omega⟩;have hi:i < m.list.length:=by omega
  have:=ih k (i+1) (by omega) (by omega);rw [show ((i+1:Nat):Int)=(i:Int)+1 by omega] at this;have hp:0<=(i:Int):=by omega
  rw [M3,bP (by omega)];simp only [ab hp,Int.toNat_natCast,ck hi,rU,aa];rw [bL (by omega) (by omega),this,List.drop_eq_getElem_cons hi,List.all_cons];unfold kA;refine bZ (fun q=>?_) (fun q=>?_)
  ·rw [decide_eq_false (by omega)]; rfl
  ·rw [decide_eq_true (by omega)];cases b6 m.list[i].seq 4 <;> rfl
theorem Sd {m:bD} (hk:m.kind=5) (hb:cM m=true) (hf:m.flags=0\/m.flags=1) (hl:1<=m.list.length/\m.list.length<=255):iP m=(m.list.all kA && fI m.subs):=by
 apply FF;simp only [Bool.and_eq_true,nE];exact ⟨fun h=>⟨h.list,h.subs⟩,fun ⟨a,b⟩=>⟨hk,hb,hf,hl,a,b⟩⟩
theorem V2 {m:bD} (g:eZ m):AG (m,())=some ((iP m,()),()):=by
 show I2 fuel _=_;have no:¬jA m->(some ((false,()),()):Option ((Bool × Unit) × Unit))=some ((iP m,()),()):=fun h=>by rw [rD (fun q=>h (nE.1 q))]
 rw [ek6];refine bZ (fun q=>no (fun h=>q h.kind)) (fun hk=>?_);rw [mD,aa];refine jU (fun q=>no (fun h=>by have:=h.bare; dsimp only at q; rw [q] at this; cases this)) (fun hb=>?_);have tail:(m.flags=0\/m.flags=1)->(if (m.list.length:Int)==0 then some ((false,()),()) else (if decide (255 < (m.list.length:Int)) then some ((false,()),()) else (rM fuel fuel m 0)))=some ((iP m,()),()):=by
  intro hf;refine bR (fun q=>no (fun h=>by have:=h.len; omega)) (fun h0=>?_);refine cF (fun q=>no (fun h=>by have:=h.len; omega)) (fun h1=>?_);rw [Sd hk hb hf (by omega)];have:=fX6 (n:=fuel) g m.list.length fuel 0 (by omega) (cn (by omega));rw [List.drop_zero] at this;exact this
 refine bZ (fun q=>?_) (fun q=>tail (.inl q));exact bZ (fun q2=>no (fun h=>by have:=h.flags; omega)) (fun q2=>tail (.inr q2))
theorem LE {m:bD} (g:eZ m):Bc (m,())=some ((iP m,()),()):=by
 show Ga fuel _=_;have no:¬jA m->(some ((false,()),()):Option ((Bool × Unit) × Unit))=some ((iP m,()),()):=fun h=>by rw [rD (fun q=>h (nE.1 q))]
 have gl:=g.list;rw [Yk];refine bZ (fun q=>no (fun h=>q h.kind)) (fun hk=>?_);rw [mC (by omega) g.subs.1,aa];refine jU (fun q=>no (fun h=>by have:=h.bare; dsimp only at q; rw [q] at this; cases this)) (fun hb=>?_);refine cF (fun q=>no (fun h=>by have:=h.flags; omega)) (fun f0=>?_);refine cF (fun q=>no (fun h=>by have:=h.flags; omega)) (fun f1=>?_);refine cF (fun q=>no (fun h=>by have:=h.len; omega)) (fun h0=>?_);refine cF (fun q=>no (fun h=>by have:=h.len; omega)) (fun h1=>?_);rw [Ae (l:=m.subs) g.subs.1,aa];have:=XO (n:=fuel) g m.list.length fuel 0 (by omega) (cn (by omega));rw [List.drop_zero,show ((0:Nat):Int)=0 from rfl] at this;rw [this,Sd hk hb (by omega) (by omega)];dsimp only;cases fI m.subs <;> simp
def gA (m:bD):Bs:=[1,bF (8 * m.flags),0,bF m.hops]++(be 4 m.aB++(m.addr++(be 4 m.seq++(m.aD++(be 4 m.seq2++bX m.subs)))))
def gr (m:bD):Bs:=[2,bF (64 * m.flags),bF m.af,bF m.hops]++(m.addr++(be 4 m.seq++(m.aD++(be 4 m.aw++bX m.subs))))
def lE (m:bD):Bs:=[4,0]++bX m.subs
def jJ:List gW->Bs
 | []=>[]
 | d::l=>(d.addr++be 4 d.seq)++jJ l
def jR (m:bD):Bs:=[3,bF (128 * m.flags),0,bF m.list.length]++(jJ m.list++bX m.subs)
theorem iG.has {n:Int} (h:iG n):IntKind.has .i64 n:=cx.2 ⟨by have:=h.1; omega,by have:=h.2; omega⟩
theorem Be {n:Int} (h:iG n):jw (n,4,())=some ((be 4 n,true,()),()):=xV (k:=4) h.has (by omega) (by omega) (i9.2 h)
theorem pT {n:Int} (h:iG n):dK (n,4,())=some ((be 4 n,()),()):=by
 have:=nX (k:=4) h.has (by omega) (by omega);rw [EW (i9.2 h)] at this;exact this
theorem C1 {n:Int} (h:iG n):sx (n,())=some ((be 4 n,()),()):=by
 rw [ez3,Be h]; rfl
theorem Ig {x:Int} {k:Nat} (hx:0<=x/\x < 65536) (hk:k<=15):bF (IntKind.wrap .u8 (cY .i64 x (k:Int)))=bF (2 ^ k * x):=by
 rw [CS hx hk,f8,lm];exact Int.mul_nonneg (Int.pow_nonneg (by decide)) hx.1
theorem qb {m:bD} (g:eZ m):(bX m.subs).length<=302000000:=by
 have h:=Hr g.subs;have:=qH m.subs;have:=g.subs1;omega
theorem kM {x:Int} (h:0<=x):bF (IntKind.wrap .u8 x)=bF x:=by rw [f8,lm h]
def mZ (m:bD):Bs × Bool:=if gc m=true then (gA m,true) else ([],false)
theorem fN8 {m:bD} (g:eZ m):xp (m,())=some (((mZ m).1,(mZ m).2,()),()):=by
 have hl:=qb g;rw [eR5,Lz g,aa];unfold mZ;dsimp only;cases hr:gc m with
 | false=>rfl
 | true=>
  have h:=kQ.1 hr;have ha:=h.addr;have ho:=h.aD;have b4:∀ n,(be 4 n).length=4:=cm 4;rw [b7,cQ,FT g.subs g.subs1,aa,qm h.subs,C1 h.aB,aa,C1 h.seq,aa,C1 h.seq2,aa];dsimp only;rw [show ((3:Int))=((3:Nat):Int) from rfl,Ig (by have:=h.flags; omega) (by omega),kM h.hops.1]
  repeat rw [ab (bW (by simp only [List.length_append,List.length_cons,List.length_nil,b4,ha,ho]; omega))]
  unfold gA;simp only [List.append_assoc]
  rfl
theorem fE0 {m:bD} (g:eZ m):xZ (m,())=some (((mZ m).1,(mZ m).2,()),()):=by
 have hl:=qb g;rw [ex0,Wv g,aa];unfold mZ;dsimp only;cases hr:gc m with
 | false=>rfl
 | true=>
  have h:=kQ.1 hr;have ha:=h.addr;have ho:=h.aD;have hf:=h.flags;have b4:∀ n,(be 4 n).length=4:=cm 4;rw [b7,cQ,GR g.subs g.subs1,aa,qm h.subs,pT h.aB,aa,pT h.seq,aa,pT h.seq2,aa];dsimp only;rw [bL (by omega) (by omega),kM (by omega),kM h.hops.1]
  repeat rw [ab (bW (by simp only [List.length_append,List.length_cons,List.length_nil,b4,ha,ho]; omega))]
  unfold gA;simp only [List.append_assoc]
  rfl
def nd (m:bD):Bs × Bool:=if gh m=true then (if m.kind=6 then lE m else gr m,true) else ([],false)
theorem fN9 {m:bD} (g:eZ m):xd (m,())=some (((nd m).1,(nd m).2,()),()):=by
 have hl:=qb g;rw [eR6,SA g,aa];unfold nd;dsimp only;cases hr:gh m with
 | false=>rfl
 | true=>
  have h:=kt.1 hr;have hs:fI m.subs=true:=h.elim (fun h=>h.subs) (fun h=>h.subs);have b4:∀ n,(be 4 n).length=4:=cm 4;rw [b7,cQ,FT g.subs g.subs1,aa,qm hs];dsimp only;refine bR (fun hk=>?_) (fun hk=>?_)
  ·rw [ab hk,ab (bW (by omega))]; rfl
  ·have h:=h.resolve_right (fun q=>hk q.kind);have ha:=h.addr;have ho:=h.aD;rw [ac hk,Be h.seq,aa,Be h.life,aa];dsimp only;rw [show ((6:Int))=((6:Nat):Int) from rfl,Ig (by have:=h.flags; omega) (by omega),kM h.hops.1,kM h.af.1]
   repeat rw [ab (bW (by simp only [List.length_append,List.length_cons,List.length_nil,b4,ha,ho]; omega))]
   unfold gr;simp only [List.append_assoc]
   rfl
theorem fE1 {m:bD} (g:eZ m):As (m,())=some (((nd m).1,(nd m).2,()),()):=by
 have hl:=qb g;rw [ex1,TJ g,aa];unfold nd;dsimp only;cases hr:gh m with
 | false=>rfl
 | true=>
  have h:=kt.1 hr;have hs:fI m.subs=true:=h.elim (fun h=>h.subs) (fun h=>h.subs);have b4:∀ n,(be 4 n).length=4:=cm 4;rw [b7,cQ,GR g.subs g.subs1,aa,qm hs];dsimp only;refine bR (fun hk=>?_) (fun hk=>?_)
  ·rw [ab hk,ab (bW (by omega))]; rfl
  ·have h:=h.resolve_right (fun q=>hk q.kind);have ha:=h.addr;have ho:=h.aD;have hf:=h.flags;rw [ac hk,pT h.seq,aa,pT h.life,aa];dsimp only;rw [bL (by omega) (by omega),kM (by omega),kM h.hops.1,kM h.af.1]
   repeat rw [ab (bW (by simp only [List.length_append,List.length_cons,List.length_nil,b4,ha,ho]; omega))]
   unfold gr;simp only [List.append_assoc]
   rfl
theorem vc {d:gW} (h:kA d=true):d.addr.length=4/\iG d.seq:=by
 unfold kA at h;simp only [Bool.and_eq_true,decide_eq_true_eq,i9] at h;exact h
def nJ (m:bD):Bs × Bool:=if iP m=true then (jR m,true) else ([],false)
theorem Y7 {n:Nat} {m:bD} (g:eZ m) (h:jA m):∀ (d k i:Nat) (acc:Bs),i+d=m.list.length->d < k->acc.length<=4+8 * i->vQ n k m acc i=some ((acc++(jJ (m.list.drop i)++bX m.subs),true,()),()):=by
 have gl:=g.list;have hl:=qb g;have hle:=h.len;intro d
 induction d with
 | zero=>
  intro k i acc hd hk ha;obtain ⟨k,rfl⟩:∃ j,k=j+1:=⟨k - 1,by omega⟩;rw [Lw,bN (by omega),List.drop_eq_nil_of_le (by omega),FT g.subs g.subs1,aa,qm h.subs];dsimp only;rw [ab (bW (by omega))]; rfl
 | succ d ih=>
  intro k i acc hd hk ha;obtain ⟨k,rfl⟩:∃ j,k=j+1:=⟨k - 1,by omega⟩;have hi:i < m.list.length:=by omega
  obtain ⟨h1,h2⟩:=vc (List.all_eq_true.1 h.list _ (List.getElem_mem hi));have b4:∀ n,(be 4 n).length=4:=cm 4;have:=ih k (i+1) (acc++m.list[i].addr++be 4 m.list[i].seq) (by omega) (by omega) (by simp only [List.length_append,h1,b4]; omega);rw [show ((i+1:Nat):Int)=(i:Int)+1 by omega] at this;rw [Lw,bP (by omega),ab (by omega),Int.toNat_natCast,ck hi,Be h2,aa];dsimp only;rw [ab (d7 (by omega)),ab (d7 (by rw [List.length_append,b4]; omega)),bL (by omega) (by omega),this,List.drop_eq_getElem_cons hi,jJ];simp only [List.append_assoc]
theorem fE2 {m:bD} (g:eZ m):BI (m,())=some (((nJ m).1,(nJ m).2,()),()):=by
 show Fj fuel _=_;rw [eR7,V2 g,aa];unfold nJ;dsimp only;cases hr:iP m with
 | false=>rfl
 | true=>
  have h:=nE.1 hr;have hle:=h.len;have:=Y7 (n:=fuel) g h m.list.length fuel 0 [3,bF (128 * m.flags),0,bF m.list.length] (by omega) (cn (by omega)) (by simp);rw [List.drop_zero] at this;rw [b7,cQ,show ((7:Int))=((7:Nat):Int) from rfl,Ig (by have:=h.flags; omega) (by omega),kM (by omega)];exact this
theorem fg9 {n:Nat} {m:bD} (g:eZ m) (h:jA m):∀ (d k i:Nat) (acc:Bs),i+d=m.list.length->d < k->acc.length<=4+8 * i->ww n k m acc i=some ((acc++(jJ (m.list.drop i)++bX m.subs),true,()),()):=by
 have gl:=g.list;have hl:=qb g;have hle:=h.len;intro d
 induction d with
 | zero=>
  intro k i acc hd hk ha;obtain ⟨k,rfl⟩:∃ j,k=j+1:=⟨k - 1,by omega⟩;rw [MB,bN (by omega),List.drop_eq_nil_of_le (by omega),GR g.subs g.subs1,aa,qm h.subs];dsimp only;rw [ab (bW (by omega))]; rfl
 | succ d ih=>
  intro k i acc hd hk ha;obtain ⟨k,rfl⟩:∃ j,k=j+1:=⟨k - 1,by omega⟩;have hi:i < m.list.length:=by omega
  obtain ⟨h1,h2⟩:=vc (List.all_eq_true.1 h.list _ (List.getElem_mem hi));have b4:∀ n,(be 4 n).length=4:=cm 4;have:=ih k (i+1) (acc++m.list[i].addr++be 4 m.list[i].seq) (by omega) (by omega) (by simp only [List.length_append,h1,b4]; omega);rw [show ((i+1:Nat):Int)=(i:Int)+1 by omega] at this;rw [MB,bP (by omega),ab (by omega),Int.toNat_natCast,ck hi,ab (bW (by omega)),ab (by omega),ck hi,pT h2,aa];dsimp only;rw [ab (bW (by rw [List.length_append,b4]; omega)),bL (by omega) (by omega),this,List.drop_eq_getElem_cons hi,jJ];simp only [List.append_assoc]
theorem ft7 {m:bD} (g:eZ m):wG (m,())=some (((nJ m).1,(nJ m).2,()),()):=by
 show IZ fuel _=_;rw [ex2,LE g,aa];unfold nJ;dsimp only;cases hr:iP m with
 | false=>rfl
 | true=>
  have h:=nE.1 hr;have hle:=h.len;have hf:=h.flags;have:=fg9 (n:=fuel) g h m.list.length fuel 0 [3,bF (128 * m.flags),0,bF m.list.length] (by omega) (cn (by omega)) (by simp);rw [List.drop_zero] at this;rw [b7,cQ,bL (by omega) (by omega),kM (by omega),kM (by omega),ab (bW (by simp))];exact this
end Go.VP
namespace Go.VP
open Go Go.VI
def zM:bD:=bE.mk 0 0 0 [] 0 0 [] 0 0 [] 0 [] 0 0 0 0 0 0 0 [] [] [] 0 [] []
theorem g34 {a b:Nat} (ha:a < 256) (hb:b < 256):cB .or .u8 (a:Int) (b:Int)=((a ||| b:Nat):Int):=by
 unfold cB;show IntKind.wrap .u8 (((BitVec.ofInt 8 (a:Int) ||| BitVec.ofInt 8 (b:Int)).toNat:Nat):Int)=_;have h:a ||| b < 256:=Nat.or_lt_two_pow (n:=8) ha hb;rw [BitVec.toNat_or,BitVec.ofInt_natCast,BitVec.ofInt_natCast,BitVec.toNat_ofNat,BitVec.toNat_ofNat,Nat.mod_eq_of_lt ha,Nat.mod_eq_of_lt hb,f8];omega
theorem Ie {x y:Int} {k:Nat} (hk:k<=8) (hx:0<=x/\x < 256) (hy:0<=y/\y < 256):cB .or .u8 (cB .and .u8 x ((2 ^ k - 1:Nat):Int)) y=0↔(x % 2 ^ k=0/\y=0):=by
 obtain ⟨a,rfl⟩:∃ a:Nat,x=a:=⟨x.toNat,by omega⟩;obtain ⟨b,rfl⟩:∃ b:Nat,y=b:=⟨y.toNat,by omega⟩;have hp:2 ^ k<=2 ^ 8:=Nat.pow_le_pow_right (by decide) hk;have hp0:0 < 2 ^ k:=Nat.pow_pos (by decide);have h1:=Nat.mod_lt a hp0;rw [LV (by omega) (by omega),Nat.and_two_pow_sub_one_eq_mod,g34 (by omega) (by omega)];have e:((a:Int) % 2 ^ k)=((a % 2 ^ k:Nat):Int):=by simp
 rw [e];constructor
 ·intro h;have h0:a % 2 ^ k ||| b=0:=by omega
  rw [Nat.or_eq_zero_iff] at h0;omega
 ·intro h;have e1:a % 2 ^ k=0:=by omega
  have e2:b=0:=by omega
  rw [e1,e2]; rfl
theorem Zy:∀ y:Fin 256,(y.val &&& 224=0)↔y.val < 32:=by decide +kernel
theorem g36 {x y:Int} (hx:0<=x/\x < 256) (hy:0<=y/\y < 256):cB .or .u8 (cB .and .u8 x 63) (cB .and .u8 y 224)=0↔(x % 64=0/\y < 32):=by
 obtain ⟨b,rfl⟩:∃ b:Nat,y=b:=⟨y.toNat,by omega⟩;have h2:cB .and .u8 (b:Int) 224=((b &&& 224:Nat):Int):=LV (b:=224) (by omega) (by omega);have h3:b &&& 224<=b:=Nat.and_le_left;have:=Ie (x:=x) (y:=((b &&& 224:Nat):Int)) (k:=6) (by omega) hx (by omega);rw [h2];have h4:=Zy ⟨b,by omega⟩;dsimp only at h4;rw [show ((2 ^ 6 - 1:Nat):Int)=63 from rfl,show (2:Int) ^ 6=64 from rfl] at this;rw [this];omega
theorem Ju {x:Int} {k:Nat} (hk:k<=8):cb .u8 x (k:Int)=x / 2 ^ k:=by
 unfold cb;rw [show min (k:Int).toNat IntKind.u8.bits=k by simp only [IntKind.bits]; omega];exact Int.fdiv_eq_ediv_of_nonneg _ (Int.pow_nonneg (by decide))
def sa (b:Bs):bD:=bE.mk 3 0 0 [] 0 0 [] 0 0 [] 0 [] (b5 (bH b 12 4)) (b5 (bH b 20 4)) 0 (bt b 1 / 8) (bt b 3) (b5 (bH b 4 4)) 0 (bH b 8 4) (bH b 16 4) [] 0 [] (dy (b.drop 24)).1
def fh (b:Bs) (p:Nat) (m:bD):bD × Int × Int:=if (dy (b.drop p)).2.2≠0 then (zM,p+(dy (b.drop p)).2.1,(dy (b.drop p)).2.2) else (m,0,0)
def j9 (b:Bs):bD × Int × Int:=
 if b.length < 24 then (zM,b.length,2) else if ¬(bt b 1 % 8=0/\bt b 2=0) then (zM,1,5) else fh b 24 (sa b)
theorem fO0 {b:Bs} (hb:b.length<=1000000):vz (b,())=some (bY (j9 b),()):=by
 rw [eQ2];unfold j9;refine cF (fun h=>by rw [ab (by omega)]; rfl) (fun h=>?_);have w0:dQ b 0 b.length:=.whole (by omega);have w1:=w0.fwd (n:=4) (by omega) (by omega);have w2:=w1.fwd (n:=4) (by omega) (by omega);have w3:=w2.fwd (n:=4) (by omega) (by omega);have w4:=w3.fwd (n:=4) (by omega) (by omega);have w5:=w4.fwd (n:=4) (by omega) (by omega);rw [ac (show ¬b.length < 24 by omega),cN (i:=1) (by omega),cN (i:=2) (by omega),cN (i:=3) (by omega)];simp only [aa];have e1:(((b[1]?.getD 0).toNat:Nat):Int)=bt b 1:=rfl;have e2:(((b[2]?.getD 0).toNat:Nat):Int)=bt b 2:=rfl;have e3:(((b[3]?.getD 0).toNat:Nat):Int)=bt b 3:=rfl;rw [e1,e2,e3];have hx:=cw b 1;have hy:=cw b 2;have hz:=cw b 3;have ao:=Ie (k:=3) (by omega) hx hy;rw [show ((2 ^ 3 - 1:Nat):Int)=7 from rfl,show (2:Int) ^ 3=8 from rfl] at ao;refine bZ (fun q=>?_) (fun q=>?_)
 ·rw [ab (fun c=>q (ao.2 c))]; rfl
 rw [ac (show ¬¬(bt b 1 % 8=0/\bt b 2=0) from fun c=>c (ao.1 q)),ab (by omega),w6 (by rw [List.length_drop]; omega),aa];have hp:=mN (b.drop 24);rw [List.length_drop] at hp;unfold fh;refine bZ (fun q2=>?_) (fun q2=>?_)
 ·rw [ab q2];dsimp only at q2 |-;rw [bL (by omega) (by omega),Int.add_comm]; rfl
 rw [ac (show ¬(dy (b.drop 24)).2.2≠0 from fun c=>c q2),mf,aa];dsimp only;rw [iV w0 (by omega) (by omega),aa];dsimp only;rw [gG w1 (by omega) (by omega) (by omega),aa];dsimp only;rw [iV w2 (by omega) (by omega),aa];dsimp only;rw [gG w3 (by omega) (by omega) (by omega),aa];dsimp only;rw [iV w4 (by omega) (by omega),aa];dsimp only;rw [gG w5 (by omega) (by omega) (by omega),aa];have hs:=Ju (x:=bt b 1) (k:=3) (by omega);rw [show ((3:Nat):Int)=3 from rfl,show (2:Int) ^ 3=8 from rfl] at hs;rw [hs,bL (by omega) (by omega),bL (by omega) (by omega)]
 rfl
theorem fE3 {b:Bs} (hb:b.length<=1000000):zG (b,())=some (bY (j9 b),()):=by
 rw [Ye];unfold j9;refine cF (fun h=>by rw [ab (by omega)]; rfl) (fun h=>?_);have nl:∀ p:Int,0<=p->p+4<=b.length->dh (bH b p 4,())=some ((b5 (bH b p 4),()),()):=fun p h0 h1=>lj (by have:=ew (s:=b) (p:=p) (n:=4) h0 (by omega) h1; omega)
 rw [ac (show ¬b.length < 24 by omega),cN (i:=1) (by omega),cN (i:=2) (by omega),cN (i:=3) (by omega)];simp only [aa];have e1:(((b[1]?.getD 0).toNat:Nat):Int)=bt b 1:=rfl;have e2:(((b[2]?.getD 0).toNat:Nat):Int)=bt b 2:=rfl;have e3:(((b[3]?.getD 0).toNat:Nat):Int)=bt b 3:=rfl;rw [e1,e2,e3];have hx:=cw b 1;have hy:=cw b 2;have hz:=cw b 3;rw [Int.tmod_eq_emod_of_nonneg hx.1];refine bZ (fun q=>?_) (fun q=>?_)
 ·rw [ab (fun c=>q c.1)]; rfl
 refine bZ (fun q1=>?_) (fun q1=>?_)
 ·rw [ab (fun c=>q1 c.2)]; rfl
 rw [ac (show ¬¬(bt b 1 % 8=0/\bt b 2=0) from fun c=>c ⟨q,q1⟩),ab (by omega),Aw (by rw [List.length_drop]; omega),aa];have hp:=mN (b.drop 24);rw [List.length_drop] at hp;unfold fh;refine bZ (fun q2=>?_) (fun q2=>?_)
 ·rw [ab q2];dsimp only at q2 |-;rw [bL (by omega) (by omega)]; rfl
 rw [ac (show ¬(dy (b.drop 24)).2.2≠0 from fun c=>c q2),ab (by omega),show (b.take 8).drop 4=bH b 4 4 from rfl,nl 4 (by omega) (by omega),aa,ab (by omega),ab (by omega),show (b.take 16).drop 12=bH b 12 4 from rfl,nl 12 (by omega) (by omega),aa,ab (by omega),ab (by omega),show (b.take 24).drop 20=bH b 20 4 from rfl,nl 20 (by omega) (by omega),aa,bL (x:=bt b 1) (by omega) (by omega),Int.tdiv_eq_ediv_of_nonneg hx.1,bL (by omega) (by omega),bL (by omega) (by omega)]
 rfl
def rq (b:Bs):bD:=bE.mk 4 0 0 [] 0 0 [] (bt b 2) 0 [] 0 [] (b5 (bH b 8 4)) 0 (b5 (bH b 16 4)) (bt b 1 / 64) (bt b 3) 0 0 (bH b 4 4) (bH b 12 4) [] 0 [] (dy (b.drop 20)).1
def oB (b:Bs):bD:=bE.mk 6 0 0 [] 0 0 [] 0 0 [] 0 [] 0 0 0 0 0 0 0 [] [] [] 0 [] (dy (b.drop 2)).1
def ib (b:Bs):bD × Int × Int:=
 if bt b 0=4 then (if b.length < 2 then (zM,b.length,2) else if ¬bt b 1=0 then (zM,1,5) else fh b 2 (oB b))
 else if b.length < 20 then (zM,b.length,2) else if ¬(bt b 1 % 64=0/\bt b 2 < 32) then (zM,1,5) else fh b 20 (rq b)
theorem g37 {b:Bs} (hb:b.length<=1000000):zd (b,())=some (bY (if b.length < 2 then (zM,(b.length:Int),(2:Int)) else if ¬bt b 1=0 then (zM,1,5) else fh b 2 (oB b)),()):=by
 rw [eQ4];refine cF (fun h=>by rw [ab (by omega)]; rfl) (fun h=>?_);rw [ac (show ¬b.length < 2 by omega),cN (i:=1) (by omega),aa];refine bZ (fun q=>?_) (fun q=>?_)
 ·rw [ab (show ¬bt b 1=0 from q)]; rfl
 rw [ac (show ¬¬bt b 1=0 from fun c=>c q),ab (by omega),w6 (by rw [List.length_drop]; omega),aa];have hp:=mN (b.drop 2);rw [List.length_drop] at hp;unfold fh;refine bZ (fun q2=>?_) (fun q2=>?_)
 ·rw [ab q2];dsimp only at q2 |-;rw [bL (by omega) (by omega),Int.add_comm]; rfl
 ·rw [ac (show ¬(dy (b.drop 2)).2.2≠0 from fun c=>c q2)]; rfl
theorem fO1 {b:Bs} (h0:1<=b.length) (hb:b.length<=1000000):Bo (b,())=some (bY (ib b),()):=by
 rw [eQ5];unfold ib;have hne:b≠[]:=by intro q; rw [q] at h0; simp at h0
 rw [ab (by simp [hne]),cN (i:=0) (by omega),aa];refine bR (fun q=>?_) (fun q=>?_)
 ·rw [ab (show bt b 0=4 from q),g37 hb]; rfl
 rw [ac (show ¬bt b 0=4 from q)];refine cF (fun h=>by rw [ab (by omega)]; rfl) (fun h=>?_);have w0:dQ b 0 b.length:=.whole (by omega);have w1:=w0.fwd (n:=4) (by omega) (by omega);have w2:=w1.fwd (n:=4) (by omega) (by omega);have w3:=w2.fwd (n:=4) (by omega) (by omega);have w4:=w3.fwd (n:=4) (by omega) (by omega);rw [ac (show ¬b.length < 20 by omega),cN (i:=1) (by omega),cN (i:=2) (by omega),cN (i:=3) (by omega)];simp only [aa];have e1:(((b[1]?.getD 0).toNat:Nat):Int)=bt b 1:=rfl;have e2:(((b[2]?.getD 0).toNat:Nat):Int)=bt b 2:=rfl;have e3:(((b[3]?.getD 0).toNat:Nat):Int)=bt b 3:=rfl;rw [e1,e2,e3];have hx:=cw b 1;have hy:=cw b 2;have hz:=cw b 3;have ao:=g36 hx hy;refine bZ (fun q=>?_) (fun q=>?_)
 ·rw [ab (fun c=>q (ao.2 c))]; rfl
 rw [ac (show ¬¬(bt b 1 % 64=0/\bt b 2 < 32) from fun c=>c (ao.1 q)),ab (by omega),w6 (by rw [List.length_drop]; omega),aa];have hp:=mN (b.drop 20);rw [List.length_drop] at hp;unfold fh;refine bZ (fun q2=>?_) (fun q2=>?_)
 ·rw [ab q2];dsimp only at q2 |-;rw [bL (by omega) (by omega),Int.add_comm]; rfl
 rw [ac (show ¬(dy (b.drop 20)).2.2≠0 from fun c=>c q2),mf,aa];dsimp only;rw [iV w0 (by omega) (by omega),aa];dsimp only;rw [iV w1 (by omega) (by omega),aa];dsimp only;rw [gG w2 (by omega) (by omega) (by omega),aa];dsimp only;rw [iV w3 (by omega) (by omega),aa];dsimp only;rw [gG w4 (by omega) (by omega) (by omega),aa];have hs:=Ju (x:=bt b 1) (k:=6) (by omega);rw [show ((6:Nat):Int)=6 from rfl,show (2:Int) ^ 6=64 from rfl] at hs;rw [hs,bL (by omega) (by omega),bL (by omega) (by omega),bL (by omega) (by omega)]
 rfl
theorem fE4 {b:Bs} (h0:1<=b.length) (hb:b.length<=1000000):z6 (b,())=some (bY (ib b),()):=by
 rw [ez7];unfold ib;have nl:∀ p:Int,0<=p->p+4<=b.length->dh (bH b p 4,())=some ((b5 (bH b p 4),()),()):=fun p h0 h1=>lj (by have:=ew (s:=b) (p:=p) (n:=4) h0 (by omega) h1; omega)
 rw [bP (by omega),cN (i:=0) (by omega),aa];refine bR (fun q=>?_) (fun q=>?_)
 ·rw [ab (show bt b 0=4 from q)];refine cF (fun h=>by rw [ab (by omega)]; rfl) (fun h=>?_);rw [ac (show ¬b.length < 2 by omega),cN (i:=1) (by omega),aa];refine bZ (fun q=>?_) (fun q=>?_)
  ·rw [ab (show ¬bt b 1=0 from q)]; rfl
  rw [ac (show ¬¬bt b 1=0 from fun c=>c q),ab (by omega),Aw (by rw [List.length_drop]; omega),aa];have hp:=mN (b.drop 2);rw [List.length_drop] at hp;unfold fh;refine bZ (fun q2=>?_) (fun q2=>?_)
  ·rw [ab q2];dsimp only at q2 |-;rw [bL (by omega) (by omega)]; rfl
  ·rw [ac (show ¬(dy (b.drop 2)).2.2≠0 from fun c=>c q2)]; rfl
 rw [ac (show ¬bt b 0=4 from q)];refine cF (fun h=>by rw [ab (by omega)]; rfl) (fun h=>?_);rw [ac (show ¬b.length < 20 by omega),cN (i:=1) (by omega),cN (i:=2) (by omega),cN (i:=3) (by omega)];simp only [aa];have e1:(((b[1]?.getD 0).toNat:Nat):Int)=bt b 1:=rfl;have e2:(((b[2]?.getD 0).toNat:Nat):Int)=bt b 2:=rfl;have e3:(((b[3]?.getD 0).toNat:Nat):Int)=bt b 3:=rfl;rw [e1,e2,e3];have hx:=cw b 1;have hy:=cw b 2;have hz:=cw b 3;rw [Int.tmod_eq_emod_of_nonneg hx.1];refine bZ (fun q=>?_) (fun q=>?_)
 ·rw [ab (fun c=>q c.1)]; rfl
 refine cF (fun q1=>?_) (fun q1=>?_)
 ·rw [ab (fun c=>by have:=c.2; omega)]; rfl
 rw [ac (show ¬¬(bt b 1 % 64=0/\bt b 2 < 32) from fun c=>c ⟨q,by omega⟩),ab (by omega),Aw (by rw [List.length_drop]; omega),aa];have hp:=mN (b.drop 20);rw [List.length_drop] at hp;unfold fh;refine bZ (fun q2=>?_) (fun q2=>?_)
 ·rw [ab q2];dsimp only at q2 |-;rw [bL (by omega) (by omega)]; rfl
 rw [ac (show ¬(dy (b.drop 20)).2.2≠0 from fun c=>c q2),ab (by omega),ab (by omega),show (b.take 12).drop 8=bH b 8 4 from rfl,nl 8 (by omega) (by omega),aa,ab (by omega),ab (by omega),show (b.take 20).drop 16=bH b 16 4 from rfl,nl 16 (by omega) (by omega),aa,bL (x:=bt b 1) (by omega) (by omega),Int.tdiv_eq_ediv_of_nonneg hx.1,bL (by omega) (by omega),bL (by omega) (by omega),bL (by omega) (by omega)]
 rfl
end Go.VP
namespace Go.VP
open Go Go.VI
def gk (b:Bs):Nat->Nat->List gW
 | 0,_=>[]
 | k+1,p=>⟨bH b p 4,b5 (bH b ((p:Int)+4) 4)⟩::gk b k (p+8)
def nC (b:Bs):bD:=bE.mk 5 0 0 [] 0 0 [] 0 0 [] 0 [] 0 0 0 (bt b 1 / 128) 0 0 0 [] [] (gk b (bt b 3).toNat 4) 0 [] (dy (b.drop (4+8 * (bt b 3).toNat))).1
def kl (b:Bs):bD × Int × Int:=
 if b.length < 4 then (zM,b.length,2) else if ¬(bt b 1 % 128=0/\bt b 2=0) then (zM,1,5) else if bt b 3=0 then (zM,3,8)
 else if b.length < 4+8 * (bt b 3).toNat then (zM,b.length,2) else fh b (4+8 * (bt b 3).toNat) (nC b)
theorem Ho:wQ<=100:=Nat.le_of_ble_eq_true (by kernel_rfl)
theorem YL {n:Nat} {b:Bs} {fl c:Int} (hb:b.length<=1000000) (hc:c<=255):∀ (d m i:Nat) (p:Int) (bad:Bool) (acc:List gW),(i:Int)+d=c->d < m->dQ b p b.length->(bad=true\/(b.length:Int) < p+8 * d)->acc.length<=i->
  rx n m b fl acc b p b.length bad c i=some (bY (zM,(b.length:Int),(2:Int)),()):=by
 intro d
 induction d with
 | zero=>
  intro m i p bad acc hd hm w hbad ha;obtain ⟨m,rfl⟩:∃ j,m=j+1:=⟨m - 1,by omega⟩;have hw:=w.hi;have:bad=true:=hbad.resolve_right (by omega);rw [zo,bN (by omega),this]; try rfl
 | succ d ih=>
  intro m i p bad acc hd hm w hbad ha;obtain ⟨m,rfl⟩:∃ j,m=j+1:=⟨m - 1,by omega⟩;rw [zo,bP (by omega),bL (by omega) (by omega)];have go:∀ (q:Int) (bd:Bool) (x:gW),dQ b q b.length->(bd=true\/(b.length:Int) < q+8 * d)->(if cE ((acc.length + [x].length) * wQ)=true then rx n m b fl (acc++[x]) b q b.length bd c ((i:Int)+1) else none)=some (bY (zM,(b.length:Int),(2:Int)),()):=by
   intro q bd x wq hq;rw [ab (ml (by simp; omega) Ho)];have:=ih m (i+1) q bd (acc++[x]) (by omega) (by omega) wq hq (by simp; omega);rw [show ((i+1:Nat):Int)=(i:Int)+1 by omega] at this;exact this
  by_cases h1:bad=true\/(b.length:Int) < p+4
  ·rw [oG w (h1.imp id .inr),aa];dsimp only;rw [ry w (by omega) (by omega) (.inl rfl),aa];exact go p true _ w (.inl rfl)
  ·have hbf:bad=false:=by cases bad <;> simp_all
   subst hbf;have w1:=w.fwd (n:=4) (by omega) (by omega);rw [iV w (by omega) (by omega),aa];dsimp only;by_cases h2:(b.length:Int) < p+4+4
   ·rw [ry w1 (by omega) (by omega) (.inr (by omega)),aa];exact go (p+4) true _ w1 (.inl rfl)
   ·rw [gG w1 (by omega) (by omega) (by omega),aa];exact go (p+4+4) false _ (w1.fwd (n:=4) (by omega) (by omega)) (.inr (by have:=hbad.resolve_left (by simp); omega))
theorem WM (b:Bs) (p:Nat) (h:p<=b.length):0<=(dy (b.drop p)).2.1/\(dy (b.drop p)).2.1<=b.length:=by
 have:=mN (b.drop p);rw [List.length_drop] at this;omega
def pV (b:Bs) (fl:Int) (l:List gW) (p:Nat):bD × Int × Int:=fh b p (bE.mk 5 0 0 [] 0 0 [] 0 0 [] 0 [] 0 0 0 fl 0 0 0 [] [] l 0 [] (dy (b.drop p)).1)
theorem ft9 {n:Nat} {b:Bs} {fl c:Int} (hb:b.length<=1000000) (hc:c<=255):∀ (d m i p:Nat) (acc:List gW),(i:Int)+d=c->d < m->p+8 * d<=b.length->acc.length<=i->
  rx n m b fl acc b p b.length false c i=some (bY (pV b fl (acc++gk b d p) (p+8 * d)),()):=by
 intro d
 induction d with
 | zero=>
  intro m i p acc hd hm hp ha;obtain ⟨m,rfl⟩:∃ j,m=j+1:=⟨m - 1,by omega⟩;have ht:=WM b p (by omega);rw [zo,bN (by omega),cV,ab (by omega),Int.toNat_natCast,w6 (by rw [List.length_drop]; omega),aa,gk,List.append_nil];unfold pV fh;rw [Nat.mul_zero,Nat.add_zero];refine bZ (fun q2=>?_) (fun q2=>?_)
  ·rw [ab q2];dsimp only at q2 |-;rw [bL (by omega) (by omega)]; try rfl
  ·rw [ac (fun c=>c q2)]; try rfl
 | succ d ih=>
  intro m i p acc hd hm hp ha;obtain ⟨m,rfl⟩:∃ j,m=j+1:=⟨m - 1,by omega⟩;have w:dQ b p b.length:=⟨by omega,by omega,by omega,by omega⟩;have w1:=w.fwd (n:=4) (by omega) (by omega);have:=ih m (i+1) (p+8) (acc++[⟨bH b p 4,b5 (bH b ((p:Int)+4) 4)⟩]) (by omega) (by omega) (by omega) (by simp; omega);rw [show ((i+1:Nat):Int)=(i:Int)+1 by omega,show ((p+8:Nat):Int)=(p:Int)+4+4 by omega,show p+8+8 * d=p+8 * (d+1) by omega] at this;rw [zo,bP (by omega),bL (by omega) (by omega),iV w (by omega) (by omega),aa];dsimp only;rw [gG w1 (by omega) (by omega) (by omega),aa];dsimp only;rw [ab (ml (by simp; omega) Ho),this,gk];simp only [List.append_assoc,List.singleton_append]
theorem fE6 {b:Bs} (hb:b.length<=1000000):F3 (b,())=some (bY (kl b),()):=by
 show Ec fuel _=_;rw [eQ3];unfold kl;refine cF (fun h=>by rw [ab (by omega)]; try rfl) (fun h=>?_);rw [ac (show ¬b.length < 4 by omega),cN (i:=1) (by omega),aa,cN (i:=2) (by omega),aa,cN (i:=3) (by omega)];have e1:(((b[1]?.getD 0).toNat:Nat):Int)=bt b 1:=rfl;have e2:(((b[2]?.getD 0).toNat:Nat):Int)=bt b 2:=rfl;have e3:(((b[3]?.getD 0).toNat:Nat):Int)=bt b 3:=rfl;rw [e1,e2];have hx:=cw b 1;have hy:=cw b 2;have hz:=cw b 3;have ao:=Ie (k:=7) (by omega) hx hy;rw [show ((2 ^ 7 - 1:Nat):Int)=127 from rfl,show (2:Int) ^ 7=128 from rfl] at ao;refine bZ (fun q=>?_) (fun q=>?_)
 ·rw [ab (fun c=>q (ao.2 c))]; try rfl
 rw [ac (show ¬¬(bt b 1 % 128=0/\bt b 2=0) from fun c=>c (ao.1 q)),aa];refine bR (fun q=>by rw [ab (show bt b 3=0 from q)]; try rfl) (fun q=>?_);have w0:dQ b 0 b.length:=.whole (by omega);have w1:=w0.fwd (n:=4) (by omega) (by omega);have hs:=Ju (x:=bt b 1) (k:=7) (by omega);rw [show ((7:Nat):Int)=7 from rfl,show (2:Int) ^ 7=128 from rfl] at hs;rw [ac (show ¬bt b 3=0 from q),aa,mf,aa];dsimp only;rw [iV w0 (by omega) (by omega),aa,aa,e3,e1,hs,bL (x:=bt b 1 / 128) (by omega) (by omega),bL (x:=bt b 3) (by omega) (by omega)];dsimp only;by_cases hl:b.length < 4+8 * (bt b 3).toNat
 ·rw [ab hl];have key:=YL (n:=fuel) (fl:=bt b 1 / 128) (c:=bt b 3) hb (by omega) (bt b 3).toNat fuel 0 (0+4) false [] (by omega) (cn (by omega)) w1 (.inr (by omega)) (by simp);rw [show ((0:Nat):Int)=0 from rfl] at key;rw [key]
 ·rw [ac hl];have key:=ft9 (n:=fuel) (fl:=bt b 1 / 128) (c:=bt b 3) hb (by omega) (bt b 3).toNat fuel 0 4 [] (by omega) (cn (by omega)) (by omega) (by simp);rw [show ((4:Nat):Int)=0+4 from rfl,show ((0:Nat):Int)=0 from rfl,List.nil_append] at key;rw [key];unfold pV nC
  rfl
theorem fc2 {n:Nat} {b:Bs} {fl c:Int} (hb:b.length<=1000000) (hc:c<=255):∀ (d m i:Nat) (acc:List gW),(i:Int)+d=c->d < m->4+8 * i+8 * d<=b.length->acc.length<=i->
  yS n m b c fl acc i=some (bY (pV b fl (acc++gk b d (4+8 * i)) (4+8 * i+8 * d)),()):=by
 intro d
 induction d with
 | zero=>
  intro m i acc hd hm hp ha;obtain ⟨m,rfl⟩:∃ j,m=j+1:=⟨m - 1,by omega⟩;have ht:=WM b (4+8 * i) (by omega);rw [Li,bN (by omega),bL (x:=8 * c) (by omega) (by omega),bL (x:=4+8 * c) (by omega) (by omega),ab (by omega),show (4+8 * c).toNat=4+8 * i by omega,Aw (by rw [List.length_drop]; omega),aa,gk,List.append_nil];unfold pV fh;rw [Nat.mul_zero,Nat.add_zero];refine bZ (fun q2=>?_) (fun q2=>?_)
  ·rw [ab q2];dsimp only at q2 |-;rw [bL (by omega) (by omega),show (4+8 * c)=((4+8 * i:Nat):Int) by omega]; try rfl
  ·rw [ac (fun c=>c q2)]; try rfl
 | succ d ih=>
  intro m i acc hd hm hp ha;obtain ⟨m,rfl⟩:∃ j,m=j+1:=⟨m - 1,by omega⟩;have e1:(4+8 * (i:Int))=((4+8 * i:Nat):Int):=by omega
  have e2:(8+8 * (i:Int))=((4+8 * i:Nat):Int)+4:=by omega
  have e3:(12+8 * (i:Int))=((4+8 * i:Nat):Int)+4+4:=by omega
  have hn:dh (bH b (((4+8 * i:Nat):Int)+4) 4,())=some ((b5 (bH b (((4+8 * i:Nat):Int)+4) 4),()),()):=lj (by have:=ew (s:=b) (p:=((4+8 * i:Nat):Int)+4) (n:=4) (by omega) (by omega) (by omega); omega);have:=ih m (i+1) (acc++[⟨bH b ((4+8 * i:Nat):Int) 4,b5 (bH b (((4+8 * i:Nat):Int)+4) 4)⟩]) (by omega) (by omega) (by omega) (by simp; omega);rw [show ((i+1:Nat):Int)=(i:Int)+1 by omega,show 4+8 * (i+1)+8 * d=4+8 * i+8 * (d+1) by omega,show 4+8 * (i+1)=4+8 * i+8 by omega] at this;rw [Li,bP (by omega),bL (x:=8 * (i:Int)) (by omega) (by omega),bL (x:=4+8 * (i:Int)) (by omega) (by omega),bL (x:=8+8 * (i:Int)) (by omega) (by omega),bL (x:=12+8 * (i:Int)) (by omega) (by omega),bL (by omega) (by omega),e1,e2,e3,ab (by omega),ab (by omega)];rw [show (b.take (((4+8 * i:Nat):Int)+4+4).toNat).drop (((4+8 * i:Nat):Int)+4).toNat=bH b (((4+8 * i:Nat):Int)+4) 4 from rfl,show (b.take (((4+8 * i:Nat):Int)+4).toNat).drop ((4+8 * i:Nat):Int).toNat=bH b ((4+8 * i:Nat):Int) 4 from rfl,hn,aa];dsimp only;rw [ab (ml (by simp; omega) Ho),this,gk];simp only [List.append_assoc,List.singleton_append]
theorem fu0 {b:Bs} (hb:b.length<=1000000):Cy (b,())=some (bY (kl b),()):=by
 show Jm fuel _=_;rw [ey3];unfold kl;refine cF (fun h=>by rw [ab (by omega)]; try rfl) (fun h=>?_);rw [ac (show ¬b.length < 4 by omega),cN (i:=1) (by omega),aa,cN (i:=2) (by omega),cN (i:=3) (by omega)];have e1:(((b[1]?.getD 0).toNat:Nat):Int)=bt b 1:=rfl;have e2:(((b[2]?.getD 0).toNat:Nat):Int)=bt b 2:=rfl;have e3:(((b[3]?.getD 0).toNat:Nat):Int)=bt b 3:=rfl;rw [e1];have hx:=cw b 1;have hy:=cw b 2;have hz:=cw b 3;rw [Int.tmod_eq_emod_of_nonneg hx.1];refine bZ (fun q=>?_) (fun q=>?_)
 ·rw [ab (fun c=>q c.1)]; try rfl
 rw [aa,e2];refine bZ (fun q1=>?_) (fun q1=>?_)
 ·rw [ab (fun c=>q1 c.2)]; try rfl
 rw [ac (show ¬¬(bt b 1 % 128=0/\bt b 2=0) from fun c=>c ⟨q,q1⟩),aa,e3,bL (x:=bt b 3) (by omega) (by omega)];refine bR (fun q=>by rw [ab q]; try rfl) (fun q=>?_);rw [ac q,bL (x:=8 * bt b 3) (by omega) (by omega),bL (x:=4+8 * bt b 3) (by omega) (by omega)];refine cF (fun h=>by rw [ab (by omega)]; try rfl) (fun h=>?_);rw [ac (show ¬b.length < 4+8 * (bt b 3).toNat by omega),aa,e1,bL (x:=bt b 1) (by omega) (by omega),Int.tdiv_eq_ediv_of_nonneg hx.1,bL (by omega) (by omega)];have key:=fc2 (n:=fuel) (fl:=bt b 1 / 128) (c:=bt b 3) hb (by omega) (bt b 3).toNat fuel 0 [] (by omega) (cn (by omega)) (by omega) (by simp);rw [show ((0:Nat):Int)=0 from rfl,Nat.mul_zero,Nat.add_zero,List.nil_append] at key;rw [key];unfold pV nC
 rfl
end Go.VP
namespace Go.VP
open Go Go.VI
def eM (m:bD):Bool:=gc m || (gh m || iP m)
def dP (m:bD):Bs:=if gc m=true then gA m else if gh m=true then (if m.kind=6 then lE m else gr m) else if iP m=true then jR m else []
def eP (l:List bD):Bs × Int × Int:=match dA eM l 0 with
 | some i=>([],(i:Int),1)
 | none=>match l with
  | []=>([],0,8)
  | [m]=>if 65535 < (dP m).length then ([],0,10) else (dP m,0,0)
  | _=>([],1,8)
def fG (b:Bs):bD × Int × Int:=if bt b 0=1 then j9 b else if bt b 0=3 then kl b else ib b
def iI (b:Bs):List bD × Int × Int:=
 if 65535 < b.length then ([],65535,10) else if b.length=0 then ([],0,2) else if bt b 0 < 1\/4 < bt b 0 then ([],0,4)
 else if (fG b).2.2≠0 then ([],(fG b).2.1,(fG b).2.2) else ([(fG b).1],0,0)
theorem VS {m:bD} (g:eZ m):tf (m,())=some ((eM m,()),()):=by
 rw [ek7,Lz g,aa];unfold eM;dsimp only;cases gc m with
 | true=>rfl
 | false=>
  rw [cV,SA g,aa];dsimp only;cases gh m with
  | true=>rfl
  | false=>rw [cV,V2 g]; try rfl
theorem fO2 {b:Bs} (h0:1<=b.length) (hb:b.length<=1000000):wC (b,())=some (bY (fG b),()):=by
 rw [eQ6,cN (i:=0) (by omega),aa];unfold fG;refine bR (fun q=>?_) (fun q=>?_)
 ·rw [ab (show bt b 0=1 from q),fO0 hb]; try rfl
 rw [ac (show ¬bt b 0=1 from q)];refine bR (fun q=>?_) (fun q=>?_)
 ·rw [ab (show bt b 0=3 from q),fE6 hb]; try rfl
 rw [ac (show ¬bt b 0=3 from q),fO1 h0 hb]; try rfl
theorem fu1 {b:Bs} (hb:b.length<=1000000000):xO (b,())=some (bY (iI b),()):=by
 rw [ei5];unfold iI;refine cF (fun h=>by rw [ab (by omega)]; try rfl) (fun h=>?_);rw [ac (show ¬65535 < b.length by omega)];refine bR (fun h=>by rw [ab (by omega)]; try rfl) (fun h1=>?_);rw [ac (show ¬b.length=0 by omega),cN (i:=0) (by omega),aa,aa];refine cF (fun h=>by rw [ab (show bt b 0 < 1\/4 < bt b 0 from .inl h)]; try rfl) (fun h2=>?_);refine cF (fun h=>by rw [ab (show bt b 0 < 1\/4 < bt b 0 from .inr h)]; try rfl) (fun h3=>?_);rw [ac (show ¬(bt b 0 < 1\/4 < bt b 0) from fun c=>c.elim h2 h3),fO2 (by omega) (by omega),aa];refine bZ (fun q=>?_) (fun q=>?_)
 ·rw [ab q]; try rfl
 ·rw [ac (fun c=>c q)]; try rfl
theorem fO3 {l:List bD} (g:∀ m∈l,eZ m) (hl:l.length<=1000000):ED (l,())=some (bY (eP l),()):=by
 show Iz fuel (l,())=_;rw [e57];have main:∀ (d m i:Nat),i+d=l.length->d < m->dA eM l 0=dA eM (l.drop i) i->yv fuel m l i=some (bY (eP l),()):=by
  intro d
  induction d with
  | zero=>
   intro m i hd hm hb;obtain ⟨m,rfl⟩:∃ k,m=k+1:=⟨m - 1,by omega⟩;rw [List.drop_eq_nil_of_le (by omega)] at hb;have hn:dA eM l 0=none:=hb;have hok:=kJ hn;rw [OA,bN (by omega)]
   match l,g,hn,hok with
   | [],_,_,_=>rfl
   | x::y::r,_,hn,_=>
    have he:eP (x::y::r)=([],1,8):=by unfold eP; rw [hn]
    rw [he,ac (by simp; omega),bP (by simp; omega)]
   | [x],g,hn,hok=>
    have g:=g x (by simp);have hx:=hok x (by simp);have he:eP [x]=if 65535 < (dP x).length then ([],0,10) else (dP x,0,0):=by unfold eP; rw [hn]
    have fin:∀ s:Bs,s=dP x->(if decide (65535 < (s.length:Int)) then some ((([]:Bs),0,10,()),()) else some ((s,0,0,()),()))=some (bY (eP [x]),()):=by
     intro s hs;rw [he,<- hs];refine cF (fun h=>?_) (fun h=>?_)
     ·rw [ab (by omega)]
     ·rw [ac (by omega)]
    rw [ac (by simp),bN (by simp),show [x][0]?=some x from rfl];simp only [aa];rw [fN8 g,aa];dsimp only;unfold mZ;cases h1:gc x with
    | true=>
     simp only [if_true];rw [b7];exact fin _ (by unfold dP; rw [ab h1])
    | false=>
     rw [cV,cK,fN9 g,aa];dsimp only;unfold nd;cases h2:gh x with
     | true=>
      simp only [if_true];rw [b7];exact fin _ (by unfold dP; rw [ac (show ¬gc x=true by rw [h1]; simp),ab h2])
     | false=>
      rw [cV,cK,fE2 g,aa];have h3:iP x=true:=by unfold eM at hx; rw [h1,h2] at hx; simpa using hx
      refine fin _ ?_;unfold nJ dP;rw [ab h3,ac (show ¬gc x=true by rw [h1]; simp),ac (show ¬gh x=true by rw [h2]; simp),ab h3]
  | succ d ih=>
   intro m i hd hm hb;obtain ⟨m,rfl⟩:∃ k,m=k+1:=⟨m - 1,by omega⟩;have hi:i < l.length:=by omega
   rw [List.drop_eq_getElem_cons hi,dA] at hb;rw [OA,bP (by omega),ab (by omega),Int.toNat_natCast,ck hi,VS (g _ (List.getElem_mem hi)),aa];dsimp only;cases ho:eM l[i] with
   | true=>
    rw [ab ho] at hb;have:=ih m (i+1) (by omega) (by omega) hb;rw [b7,bL (by omega) (by omega)];exact this
   | false=>
    rw [ac (by rw [ho]; simp)] at hb;rw [cK];unfold eP; rw [hb]
 exact main l.length fuel 0 (by omega) (cn (by omega)) rfl
theorem KM {m:bD} (g:eZ m):tF (m,())=some ((eM m,()),()):=by
 rw [e37,Wv g,aa];unfold eM;dsimp only;cases gc m with
 | true=>rfl
 | false=>
  rw [cV,TJ g,aa];dsimp only;cases gh m with
  | true=>rfl
  | false=>rw [cV,LE g]; try rfl
theorem fE7 {b:Bs} (h0:1<=b.length) (hb:b.length<=1000000):yY (b,())=some (bY (fG b),()):=by
 rw [ez8,cN (i:=0) (by omega),aa];unfold fG;refine bR (fun q=>?_) (fun q=>?_)
 ·rw [ab (show bt b 0=1 from q),fE3 hb]; try rfl
 rw [ac (show ¬bt b 0=1 from q)];refine bR (fun q=>?_) (fun q=>?_)
 ·rw [ab (show bt b 0=3 from q),fu0 hb]; try rfl
 rw [ac (show ¬bt b 0=3 from q),fE4 h0 hb]; try rfl
theorem fh0 {b:Bs} (hb:b.length<=1000000000):Ac (b,())=some (bY (iI b),()):=by
 rw [e60];unfold iI;refine cF (fun h=>by rw [ab (by omega)]; try rfl) (fun h=>?_);rw [ac (show ¬65535 < b.length by omega)];refine bR (fun h=>by rw [ab (by omega)]; try rfl) (fun h1=>?_);rw [ac (show ¬b.length=0 by omega),cN (i:=0) (by omega),aa,aa];refine cF (fun h=>by rw [ab (show bt b 0 < 1\/4 < bt b 0 from .inl h)]; try rfl) (fun h2=>?_);refine cF (fun h=>by rw [ab (show bt b 0 < 1\/4 < bt b 0 from .inr h)]; try rfl) (fun h3=>?_);rw [ac (show ¬(bt b 0 < 1\/4 < bt b 0) from fun c=>c.elim h2 h3),fE7 (by omega) (by omega),aa];refine bZ (fun q=>?_) (fun q=>?_)
 ·rw [ab q]; try rfl
 ·rw [ac (fun c=>c q)]; try rfl
theorem fE8 {l:List bD} (g:∀ m∈l,eZ m) (hl:l.length<=1000000):Hn (l,())=some (bY (eP l),()):=by
 show JH fuel (l,())=_;rw [dO4];have main:∀ (d m i:Nat),i+d=l.length->d < m->dA eM l 0=dA eM (l.drop i) i->yk fuel m l i=some (bY (eP l),()):=by
  intro d
  induction d with
  | zero=>
   intro m i hd hm hb;obtain ⟨m,rfl⟩:∃ k,m=k+1:=⟨m - 1,by omega⟩;rw [List.drop_eq_nil_of_le (by omega)] at hb;have hn:dA eM l 0=none:=hb;have hok:=kJ hn;rw [N4,bN (by omega)]
   match l,g,hn,hok with
   | [],_,_,_=>rfl
   | x::y::r,_,hn,_=>
    have he:eP (x::y::r)=([],1,8):=by unfold eP; rw [hn]
    rw [he,ac (by simp; omega),bP (by simp; omega)]
   | [x],g,hn,hok=>
    have g:=g x (by simp);have hx:=hok x (by simp);have he:eP [x]=if 65535 < (dP x).length then ([],0,10) else (dP x,0,0):=by unfold eP; rw [hn]
    have fin:∀ s:Bs,s=dP x->(if decide (65535 < (s.length:Int)) then some ((([]:Bs),0,10,()),()) else some ((s,0,0,()),()))=some (bY (eP [x]),()):=by
     intro s hs;rw [he,<- hs];refine cF (fun h=>?_) (fun h=>?_)
     ·rw [ab (by omega)]
     ·rw [ac (by omega)]
    rw [ac (by simp),bN (by simp),show [x][0]?=some x from rfl];simp only [aa];rw [fE0 g,aa];dsimp only;unfold mZ;cases h1:gc x with
    | true=>
     simp only [if_true];rw [b7];exact fin _ (by unfold dP; rw [ab h1])
    | false=>
     rw [cV,cK,fE1 g,aa];dsimp only;unfold nd;cases h2:gh x with
     | true=>
      simp only [if_true];rw [b7];exact fin _ (by unfold dP; rw [ac (show ¬gc x=true by rw [h1]; simp),ab h2])
     | false=>
      rw [cV,cK,ft7 g,aa];have h3:iP x=true:=by unfold eM at hx; rw [h1,h2] at hx; simpa using hx
      refine fin _ ?_;unfold nJ dP;rw [ab h3,ac (show ¬gc x=true by rw [h1]; simp),ac (show ¬gh x=true by rw [h2]; simp),ab h3]
  | succ d ih=>
   intro m i hd hm hb;obtain ⟨m,rfl⟩:∃ k,m=k+1:=⟨m - 1,by omega⟩;have hi:i < l.length:=by omega
   rw [List.drop_eq_getElem_cons hi,dA] at hb;rw [N4,bP (by omega),ab (by omega),Int.toNat_natCast,ck hi,KM (g _ (List.getElem_mem hi)),aa];dsimp only;cases ho:eM l[i] with
   | true=>
    rw [ab ho] at hb;have:=ih m (i+1) (by omega) (by omega) hb;rw [b7,bL (by omega) (by omega)];exact this
   | false=>
    rw [ac (by rw [ho]; simp)] at hb;rw [cK];unfold eP; rw [hb]
 exact main l.length fuel 0 (by omega) (cn (by omega)) rfl
end Go.VP
namespace Go.VP
open Go Go.VI
theorem kP {b x r:Bs} {p n:Nat} (h:b.drop p=x++r) (hx:x.length=n):b.drop (p+n)=r/\bH b p (n:Int)=x:=by
 rw [yu,h,<- List.drop_drop,h];exact ⟨List.drop_left' hx,List.take_left' hx⟩
theorem kT (b:Bs) (p:Nat):bH b p 4++b.drop (p+4)=b.drop p:=by
 have:=yu b p 4;rw [show ((4:Nat):Int)=4 from rfl] at this;rw [this,<- List.drop_drop,List.take_append_drop]
theorem oW {b:Bs} {p:Nat} (h:p+4<=b.length):(bH b p 4).length=4:=by
 have:=ew (s:=b) (p:=p) (n:=4) (by omega) (by omega) (by omega);omega
theorem sV {b:Bs} {p:Nat} (h:p+4<=b.length):iG (b5 (bH b p 4)):=by
 have:=kC (bH b p 4);rw [oW h] at this;exact ⟨this.1,by have:=this.2; omega⟩
theorem pQ {b:Bs} {p:Nat} (h:p+4<=b.length):be 4 (b5 (bH b p 4))=bH b p 4:=Ay 4 _ (oW h)
theorem qU {n:Int} (h:iG n):b5 (be 4 n)=n:=oM 4 n h.1 (by have:=h.2; omega)
theorem pl {c:Int} (h:0<=c/\c < 256):((bF c).toNat:Int)=c:=by rw [fD]; omega
theorem zQ {m x:bD} (h:cM m=true) (hx:dv m=some x):m=x:=by
 unfold cM at h;rw [hx] at h;exact (ma.1 h).symm
theorem Bd {m:bD} (h:dv m=some m):cM m=true:=by
 unfold cM; rw [h]; exact iA m
theorem kE.is {m:bD} (h:kE m):m=bE.mk 3 0 0 [] 0 0 [] 0 0 [] 0 [] m.seq m.seq2 0 m.flags m.hops m.aB 0 m.addr m.aD [] 0 [] m.subs:=by
 have hk:=h.kind;have:=zQ h.bare (by unfold dv; rw [ac (by omega),ac (by omega),ab hk]);rw [hk] at this;exact this
theorem fX7 {m:bD} (h:kE m):j9 (gA m)=(m,0,0)/\bt (gA m) 0=1:=by
 have b4:∀ n,(be 4 n).length=4:=cm 4;have hf:=h.flags;have hh:=h.hops;have hae:=jd.1 h.subs;obtain ⟨d1,c1⟩:=kP (b:=gA m) (p:=4) (n:=4) (x:=be 4 m.aB) rfl (b4 _);obtain ⟨d2,c2⟩:=kP d1 h.addr;obtain ⟨d3,c3⟩:=kP d2 (b4 _);obtain ⟨d4,c4⟩:=kP d3 h.aD;obtain ⟨d5,c5⟩:=kP d4 (b4 _);have hlen:=congrArg List.length d5;rw [List.length_drop] at hlen;have hL:24<=(gA m).length:=by unfold gA; simp only [List.length_append,List.length_cons,List.length_nil,b4,h.addr,h.aD]; omega
 have e1:bt (gA m) 1=8 * m.flags:=pl (by omega);have e2:bt (gA m) 2=0:=rfl;have e3:bt (gA m) 3=m.hops:=pl hh;refine ⟨?_,rfl⟩;unfold j9;rw [ac (by omega),e1,e2,ac (by omega)];unfold fh;rw [show (4+4+4+4+4+4:Nat)=24 from rfl] at d5;rw [d5,nR hae,ac (show ¬(0:Int)≠0 by decide)];unfold sa;rw [d5,nR hae,e1,e3];have c1:bH (gA m) 4 4=_:=c1;have c2:bH (gA m) 8 4=_:=c2;have c3:bH (gA m) 12 4=_:=c3;have c4:bH (gA m) 16 4=_:=c4;have c5:bH (gA m) 20 4=_:=c5;rw [c1,c2,c3,c4,c5,qU h.aB,qU h.seq,qU h.seq2,show 8 * m.flags / 8=m.flags by omega];rw [<- h.is]
theorem Fq {b:Bs} (h:¬b.length < 4):[bF (bt b 0),bF (bt b 1),bF (bt b 2),bF (bt b 3)]++b.drop 4=b:=by
 obtain ⟨w,x,y,z,r,rfl⟩:=uw h;show [bF (w.toNat:Int),bF (x.toNat:Int),bF (y.toNat:Int),bF (z.toNat:Int)]++r=_;rw [mA,mA,mA,mA]; rfl
theorem BE {b:Bs} {p:Nat} {m:bD} (h:(fh b p m).2.2=0):fh b p m=(m,0,0)/\k9 (dy (b.drop p)).1/\bX (dy (b.drop p)).1=b.drop p/\2 * (dy (b.drop p)).1.length<=b.length:=by
 unfold fh at h |-;by_cases q:(dy (b.drop p)).2.2≠0
 ·rw [ab q] at h; exact absurd h q
 ·rw [ac q];obtain ⟨_,k1,k2,k3⟩:=fX0 (Classical.byContradiction q);rw [List.length_drop] at k3;exact ⟨rfl,k1,k2,by omega⟩
theorem Yh {b:Bs} (h0:bt b 0=1) (h:(j9 b).2.2=0):j9 b=(sa b,0,0)/\kE (sa b)/\gA (sa b)=b/\(sa b).subs.length<=b.length:=by
 unfold j9 at h |-;by_cases h1:b.length < 24
 ·rw [ab h1] at h; cases h
 by_cases h2:¬(bt b 1 % 8=0/\bt b 2=0)
 ·rw [ac h1,ab h2] at h; cases h
 rw [ac h1,ac h2] at h |-;obtain ⟨k1,k2,k3,k4⟩:=BE h;have h2:=Classical.byContradiction h2;have hx:=cw b 1;have hz:=cw b 3;refine ⟨k1,⟨rfl,Bd rfl,by show 0<=bt b 1 / 8/\bt b 1 / 8<=31; omega,oW (p:=8) (by omega),oW (p:=16) (by omega),sV (p:=4) (by omega),sV (p:=12) (by omega),sV (p:=20) (by omega),hz,jd.2 k2⟩,?_,by show (dy (b.drop 24)).1.length<=_; omega⟩;show [1,bF (8 * (bt b 1 / 8)),0,bF (bt b 3)]++(be 4 (b5 (bH b (4:Nat) 4))++(bH b (8:Nat) 4++(be 4 (b5 (bH b (12:Nat) 4))++(bH b (16:Nat) 4++(be 4 (b5 (bH b (20:Nat) 4))++bX (dy (b.drop 24)).1)))))=b;rw [k3,pQ (by omega),pQ (by omega),pQ (by omega),kT b 20,kT b 16,kT b 12,kT b 8,kT b 4,show 8 * (bt b 1 / 8)=bt b 1 by omega];have:=Fq (b:=b) (by omega);rw [h0,h2.2] at this;exact this
theorem jr.is {m:bD} (h:jr m):m=bE.mk 4 0 0 [] 0 0 [] m.af 0 [] 0 [] m.seq 0 m.aw m.flags m.hops 0 0 m.addr m.aD [] 0 [] m.subs:=by
 have hk:=h.kind;have:=zQ h.bare (by unfold dv; rw [ac (by omega),ac (by omega),ac (by omega),ab hk]);rw [hk] at this;exact this
theorem kI.is {m:bD} (h:kI m):m=bE.mk 6 0 0 [] 0 0 [] 0 0 [] 0 [] 0 0 0 0 0 0 0 [] [] [] 0 [] m.subs:=by
 have hk:=h.kind;have:=zQ h.bare (by unfold dv; rw [ac (by omega),ac (by omega),ac (by omega),ac (by omega),ac (by omega),ab hk]);rw [hk] at this;exact this
theorem fX8 {m:bD} (h:jr m):ib (gr m)=(m,0,0)/\bt (gr m) 0=2:=by
 have b4:∀ n,(be 4 n).length=4:=cm 4;have hf:=h.flags;have hh:=h.hops;have hp:=h.af;have hae:=jd.1 h.subs;obtain ⟨d1,c1⟩:=kP (b:=gr m) (p:=4) (n:=4) (x:=m.addr) rfl h.addr;obtain ⟨d2,c2⟩:=kP d1 (b4 _);obtain ⟨d3,c3⟩:=kP d2 h.aD;obtain ⟨d4,c4⟩:=kP d3 (b4 _);have hL:20<=(gr m).length:=by unfold gr; simp only [List.length_append,List.length_cons,List.length_nil,b4,h.addr,h.aD]; omega
 have e0:bt (gr m) 0=2:=rfl;have e1:bt (gr m) 1=64 * m.flags:=pl (by omega);have e2:bt (gr m) 2=m.af:=pl (by omega);have e3:bt (gr m) 3=m.hops:=pl hh;refine ⟨?_,rfl⟩;unfold ib;rw [e0,ac (by decide),ac (by omega),e1,e2,ac (by omega)];unfold fh;rw [show (4+4+4+4+4:Nat)=20 from rfl] at d4;rw [d4,nR hae,ac (show ¬(0:Int)≠0 by decide)];unfold rq;rw [d4,nR hae,e1,e2,e3];have c1:bH (gr m) 4 4=_:=c1;have c2:bH (gr m) 8 4=_:=c2;have c3:bH (gr m) 12 4=_:=c3;have c4:bH (gr m) 16 4=_:=c4;rw [c1,c2,c3,c4,qU h.seq,qU h.life,show 64 * m.flags / 64=m.flags by omega];rw [<- h.is]
theorem fX9 {m:bD} (h:kI m):ib (lE m)=(m,0,0)/\bt (lE m) 0=4:=by
 have hae:=jd.1 h.subs;have d:(lE m).drop 2=bX m.subs:=rfl;have e0:bt (lE m) 0=4:=rfl;have e1:bt (lE m) 1=0:=rfl;refine ⟨?_,rfl⟩;unfold ib;rw [e0,ab rfl,ac (by unfold lE; simp),e1,ac (by decide)];unfold fh;rw [d,nR hae,ac (show ¬(0:Int)≠0 by decide)];unfold oB;rw [d,nR hae];rw [<- h.is]
theorem fO5 {b:Bs} (h4:¬bt b 0=4) (h0:bt b 0=2) (h:(ib b).2.2=0):ib b=(rq b,0,0)/\jr (rq b)/\gr (rq b)=b/\(rq b).subs.length<=b.length:=by
 unfold ib at h |-;rw [ac h4] at h |-;by_cases h1:b.length < 20
 ·rw [ab h1] at h; cases h
 by_cases h2:¬(bt b 1 % 64=0/\bt b 2 < 32)
 ·rw [ac h1,ab h2] at h; cases h
 rw [ac h1,ac h2] at h |-;obtain ⟨k1,k2,k3,k4⟩:=BE h;have h2:=Classical.byContradiction h2;have hx:=cw b 1;have hy:=cw b 2;have hz:=cw b 3;refine ⟨k1,⟨rfl,Bd rfl,by show 0<=bt b 1 / 64/\bt b 1 / 64<=3; omega,by show 0<=bt b 2/\bt b 2<=31; omega,oW (p:=4) (by omega),oW (p:=12) (by omega),sV (p:=8) (by omega),sV (p:=16) (by omega),hz,jd.2 k2⟩,?_,by show (dy (b.drop 20)).1.length<=_; omega⟩;show [2,bF (64 * (bt b 1 / 64)),bF (bt b 2),bF (bt b 3)]++(bH b (4:Nat) 4++(be 4 (b5 (bH b (8:Nat) 4))++(bH b (12:Nat) 4++(be 4 (b5 (bH b (16:Nat) 4))++bX (dy (b.drop 20)).1))))=b;rw [k3,pQ (by omega),pQ (by omega),kT b 16,kT b 12,kT b 8,kT b 4,show 64 * (bt b 1 / 64)=bt b 1 by omega];have:=Fq (b:=b) (by omega);rw [h0] at this;exact this
theorem YP {b:Bs} (hb:1<=b.length) (h0:bt b 0=4) (h:(ib b).2.2=0):ib b=(oB b,0,0)/\kI (oB b)/\lE (oB b)=b/\(oB b).subs.length<=b.length:=by
 unfold ib at h |-;rw [ab h0] at h |-;by_cases h1:b.length < 2
 ·rw [ab h1] at h; cases h
 by_cases h2:¬bt b 1=0
 ·rw [ac h1,ab h2] at h; cases h
 rw [ac h1,ac h2] at h |-;obtain ⟨k1,k2,k3,k4⟩:=BE h;have h2:=Classical.byContradiction h2;refine ⟨k1,⟨rfl,Bd rfl,jd.2 k2⟩,?_,by show (dy (b.drop 2)).1.length<=_; omega⟩;show [4,0]++bX (dy (b.drop 2)).1=b;rw [k3]
 match b,h1,h0,h2 with
 | w::x::r,_,h0,h2=>
  have e0:w=4:=kq (a:=w) (b:=4) h0;have e1:x=0:=kq (a:=x) (b:=0) h2;rw [e0,e1]; rfl
 | [],h1,_,_=>simp at h1
 | [_],h1,_,_=>simp at h1
theorem jA.is {m:bD} (h:jA m):m=bE.mk 5 0 0 [] 0 0 [] 0 0 [] 0 [] 0 0 0 m.flags 0 0 0 [] [] m.list 0 [] m.subs:=by
 have hk:=h.kind;have:=zQ h.bare (by unfold dv; rw [ac (by omega),ac (by omega),ac (by omega),ac (by omega),ab hk]);rw [hk] at this;exact this
theorem Xj {b:Bs}:∀ (l:List gW) (p:Nat) (r:Bs),(∀ d∈l,kA d=true)->b.drop p=jJ l++r->gk b l.length p=l/\b.drop (p+8 * l.length)=r
 | [],p,r,_,h=>⟨rfl,h⟩
 | d::l,p,r,hl,h=>by
  obtain ⟨h1,h2⟩:=vc (hl d (List.mem_cons_self ..));unfold jJ at h;rw [List.append_assoc,List.append_assoc] at h;obtain ⟨d1,c1⟩:=kP h h1;obtain ⟨d2,c2⟩:=kP d1 (cm 4 _);obtain ⟨k1,k2⟩:=Xj l (p+4+4) r (fun x hx=>hl x (List.mem_cons_of_mem _ hx)) d2;have c1:bH b p 4=d.addr:=c1;have c2:bH b ((p:Int)+4) 4=be 4 d.seq:=c2;refine ⟨?_,by rw [<- k2]; congr 1; simp; omega⟩;rw [List.length_cons,gk,c1,c2,qU h2,k1]
theorem fY0 {m:bD} (h:jA m):kl (jR m)=(m,0,0)/\bt (jR m) 0=3:=by
 have hf:=h.flags;have hl:=h.len;have hae:=jd.1 h.subs;have e1:bt (jR m) 1=128 * m.flags:=pl (by omega);have e2:bt (jR m) 2=0:=rfl;have e3:bt (jR m) 3=m.list.length:=pl (by omega);obtain ⟨k1,k2⟩:=Xj (b:=jR m) m.list 4 (bX m.subs) (List.all_eq_true.1 h.list) rfl;have hdl:∀ l:List gW,(∀ d∈l,kA d=true)->(jJ l).length=8 * l.length:=fun l=>by
  induction l with
  | nil=>intro _; rfl
  | cons d l ih=>
   intro hh;have:=(vc (hh d (List.mem_cons_self ..))).1;unfold jJ;rw [List.length_append,List.length_append,ih (fun x hx=>hh x (List.mem_cons_of_mem _ hx)),this,cm,List.length_cons];omega
 have hL:(jR m).length=4+8 * m.list.length+(bX m.subs).length:=by
  unfold jR;rw [List.length_append,List.length_append,hdl _ (List.all_eq_true.1 h.list)];simp only [List.length_cons,List.length_nil]; omega
 refine ⟨?_,rfl⟩;unfold kl;rw [ac (by omega),e1,e2,ac (by omega),e3,ac (by omega),Int.toNat_natCast,ac (by omega)];unfold fh;rw [k2,nR hae,ac (show ¬(0:Int)≠0 by decide)];unfold nC;rw [e1,e3,Int.toNat_natCast,k1,k2,nR hae,show 128 * m.flags / 128=m.flags by omega];rw [<- h.is]
theorem Vv (b:Bs):∀ (k p:Nat),(gk b k p).length=k
 | 0,_=>rfl
 | k+1,p=>by rw [gk,List.length_cons,Vv b k]
theorem TP {b:Bs}:∀ (k p:Nat),p+8 * k<=b.length->(∀ d∈gk b k p,kA d=true)/\jJ (gk b k p)++b.drop (p+8 * k)=b.drop p
 | 0,p,_=>⟨(fun d hd=>by cases hd),rfl⟩
 | k+1,p,h=>by
  obtain ⟨h1,h2⟩:=TP (b:=b) k (p+8) (by omega);have e:((p:Int)+4)=((p+4:Nat):Int):=by omega
  refine ⟨fun d hd=>?_,?_⟩
  ·rw [gk] at hd;rcases List.mem_cons.1 hd with rfl | hd
   ·unfold kA;rw [Bool.and_eq_true,decide_eq_true_eq,i9,e];exact ⟨oW (by omega),sV (by omega)⟩
   ·exact h1 d hd
  ·rw [gk,jJ,e,pQ (by omega),List.append_assoc,List.append_assoc,show p+8 * (k+1)=p+8+8 * k by omega,h2];show bH b p 4++(bH b ((p+4:Nat):Int) 4++b.drop (p+4+4))=_;rw [kT,kT]
theorem fO7 {b:Bs} (h0:bt b 0=3) (h:(kl b).2.2=0):kl b=(nC b,0,0)/\jA (nC b)/\jR (nC b)=b/\(nC b).subs.length<=b.length:=by
 unfold kl at h |-;by_cases h1:b.length < 4
 ·rw [ab h1] at h; cases h
 by_cases h2:¬(bt b 1 % 128=0/\bt b 2=0)
 ·rw [ac h1,ab h2] at h; cases h
 by_cases h3:bt b 3=0
 ·rw [ac h1,ac h2,ab h3] at h; cases h
 by_cases h4:b.length < 4+8 * (bt b 3).toNat
 ·rw [ac h1,ac h2,ac h3,ab h4] at h; cases h
 rw [ac h1,ac h2,ac h3,ac h4] at h |-;obtain ⟨k1,k2,k3,k4⟩:=BE h;have h2:=Classical.byContradiction h2;have hx:=cw b 1;have hz:=cw b 3;obtain ⟨g1,g2⟩:=TP (b:=b) (bt b 3).toNat 4 (by omega);have hlen:=Vv b (bt b 3).toNat 4;refine ⟨k1,⟨rfl,Bd rfl,by show bt b 1 / 128=0\/bt b 1 / 128=1; omega,by show 1<=(gk b (bt b 3).toNat 4).length/\(gk b (bt b 3).toNat 4).length<=255; omega,List.all_eq_true.2 g1,jd.2 k2⟩,?_,by show (dy (b.drop (4+8 * (bt b 3).toNat))).1.length<=_; omega⟩;show [3,bF (128 * (bt b 1 / 128)),0,bF ((gk b (bt b 3).toNat 4).length:Int)]++(jJ (gk b (bt b 3).toNat 4)++bX (dy (b.drop (4+8 * (bt b 3).toNat))).1)=b;rw [k3,g2,hlen,show 128 * (bt b 1 / 128)=bt b 1 by omega,show (((bt b 3).toNat:Nat):Int)=bt b 3 by omega];have:=Fq (b:=b) (by omega);rw [h0,h2.2] at this;exact this
end Go.VP
namespace Go.VP
open Go Go.VI
theorem T9 {m:bD} (h:eM m=true):kE m\/jr m\/kI m\/jA m:=by
 unfold eM at h;simp only [Bool.or_eq_true,kQ,kt,nE] at h;rcases h with h | (h | h) | h
 ·exact .inl h
 ·exact .inr (.inl h)
 ·exact .inr (.inr (.inl h))
 ·exact .inr (.inr (.inr h))
theorem zl {m:bD} (h:kE m\/jr m\/kI m\/jA m):eM m=true:=by
 unfold eM;simp only [Bool.or_eq_true,kQ,kt,nE];rcases h with h | h | h | h
 ·exact .inl h
 ·exact .inr (.inl (.inl h))
 ·exact .inr (.inl (.inr h))
 ·exact .inr (.inr h)
theorem TS {m:bD} (h:kE m):dP m=gA m:=by unfold dP; rw [ab (kQ.2 h)]
theorem Rx {m:bD} (h:jr m):dP m=gr m:=by
 have:=h.kind;unfold dP; rw [ac (fun q=>by have:=(kQ.1 q).kind; omega),ab (kt.2 (.inl h)),ac (by omega)]
theorem Ng {m:bD} (h:kI m):dP m=lE m:=by
 have:=h.kind;unfold dP; rw [ac (fun q=>by have:=(kQ.1 q).kind; omega),ab (kt.2 (.inr h)),ab (by omega)]
theorem Me {m:bD} (h:jA m):dP m=jR m:=by
 have:=h.kind;unfold dP; rw [ac (fun q=>by have:=(kQ.1 q).kind; omega),ac (fun q=>by rcases kt.1 q with q | q <;> (have:=q.kind; omega)),ab (nE.2 h)]
theorem g38 {m:bD} (h:eM m=true):fG (dP m)=(m,0,0)/\1<=bt (dP m) 0/\bt (dP m) 0<=4/\(dP m).length≠0:=by
 have ne:∀ b:Bs,1<=bt b 0->b.length≠0:=fun b hb q=>by
  have:b=[]:=List.eq_nil_of_length_eq_zero q;subst this;have:bt [] 0=0:=rfl;omega
 unfold fG;rcases T9 h with h | h | h | h
 ·obtain ⟨k1,k2⟩:=fX7 h;rw [TS h,k2,ab rfl];exact ⟨k1,by omega,by omega,ne _ (by omega)⟩
 ·obtain ⟨k1,k2⟩:=fX8 h;rw [Rx h,k2,ac (by decide),ac (by decide)];exact ⟨k1,by omega,by omega,ne _ (by omega)⟩
 ·obtain ⟨k1,k2⟩:=fX9 h;rw [Ng h,k2,ac (by decide),ac (by decide)];exact ⟨k1,by omega,by omega,ne _ (by omega)⟩
 ·obtain ⟨k1,k2⟩:=fY0 h;rw [Me h,k2,ac (by decide),ab rfl];exact ⟨k1,by omega,by omega,ne _ (by omega)⟩
theorem Nm {m:bD} (h:eM m=true):eP [m]=if 65535 < (dP m).length then ([],0,10) else (dP m,0,0):=by
 unfold eP;rw [tt (fun x hx=>by rw [List.mem_singleton.1 hx]; exact h)]
theorem fO8 {l:List bD} (h:(eP l).2.2=0):∃ m,l=[m]/\eM m=true/\eP l=(dP m,0,0)/\(dP m).length<=65535:=by
 have h0:=h;unfold eP at h0;split at h0
 ·cases h0
 ·rename_i hb;have hok:=kJ hb;split at h0
  ·cases h0
  ·rename_i m;have hm:=hok m (by simp);rw [Nm hm] at h |-;by_cases q:65535 < (dP m).length
   ·rw [ab q] at h; cases h
   ·rw [ac q]; exact ⟨m,rfl,hm,rfl,by omega⟩
  ·cases h0
theorem fY1 {l:List bD} (h:(eP l).2.2=0):iI (eP l).1=(l,0,0)/\(eP l).1.length<=65535:=by
 obtain ⟨m,rfl,hm,he,hl⟩:=fO8 h;rw [he];obtain ⟨k1,k2,k3,k4⟩:=g38 hm;refine ⟨?_,hl⟩;dsimp only;unfold iI;rw [ac (by omega),ac k4,ac (by omega),k1,ac (show ¬(0:Int)≠0 by decide)]
theorem zf {b:Bs} {p:Nat} {m:bD} (hp:p<=b.length):0<=(fh b p m).2.1/\(fh b p m).2.1<=b.length:=by
 have:=mN (b.drop p);rw [List.length_drop] at this;unfold fh;split
 ·dsimp only; omega
 ·dsimp only; omega
theorem fh1 {b:Bs} (h:1<=b.length):0<=(fG b).2.1/\(fG b).2.1<=b.length:=by
 unfold fG;split
 ·unfold j9;split
  ·dsimp only; omega
  split
  ·dsimp only; omega
  ·exact zf (by omega)
 split
 ·unfold kl;split
  ·dsimp only; omega
  split
  ·dsimp only; omega
  split
  ·dsimp only; omega
  split
  ·dsimp only; omega
  ·exact zf (by omega)
 ·unfold ib;split
  ·split
   ·dsimp only; omega
   split
   ·dsimp only; omega
   ·exact zf (by omega)
  ·split
   ·dsimp only; omega
   split
   ·dsimp only; omega
   ·exact zf (by omega)
theorem ZW {b:Bs} (h:(iI b).2.2≠0):(iI b).1=[]/\0<=(iI b).2.1/\(iI b).2.1<=b.length:=by
 unfold iI at h |-;split
 ·exact ⟨rfl,by dsimp only; omega,by dsimp only; omega⟩
 ·rename_i h1;rw [ac h1] at h;split
  ·exact ⟨rfl,by dsimp only; omega,by dsimp only; omega⟩
  ·rename_i h2;rw [ac h2] at h;split
   ·exact ⟨rfl,by dsimp only; omega,by dsimp only; omega⟩
   ·rename_i h3;rw [ac h3] at h;split
    ·exact ⟨rfl,fh1 (by omega)⟩
    ·rename_i h4;rw [ac h4] at h; exact absurd rfl h
theorem fO9 {b:Bs} (h:(iI b).2.2=0):∃ m,iI b=([m],0,0)/\eM m=true/\dP m=b/\eP [m]=(b,0,0)/\b.length<=65535/\m.subs.length<=b.length:=by
 unfold iI at h |-;by_cases h1:65535 < b.length
 ·rw [ab h1] at h; cases h
 by_cases h2:b.length=0
 ·rw [ac h1,ab h2] at h; cases h
 by_cases h3:bt b 0 < 1\/4 < bt b 0
 ·rw [ac h1,ac h2,ab h3] at h; cases h
 by_cases h4:(fG b).2.2≠0
 ·rw [ac h1,ac h2,ac h3,ab h4] at h; exact absurd h h4
 rw [ac h1,ac h2,ac h3,ac h4];have h4:=Classical.byContradiction h4;have fin:∀ m,fG b=(m,0,0)->eM m=true->dP m=b->m.subs.length<=b.length->∃ m',([(fG b).1],(0:Int),(0:Int))=([m'],0,0)/\eM m'=true/\dP m'=b/\eP [m']=(b,0,0)/\b.length<=65535/\m'.subs.length<=b.length:=fun m e hm hp hs=>by
  refine ⟨m,by rw [e],hm,hp,?_,by omega,hs⟩;rw [Nm hm,hp,ac h1]
 by_cases c1:bt b 0=1
 ·have e:fG b=j9 b:=by unfold fG; rw [ab c1]
  rw [e] at h4 fin |-;obtain ⟨k1,k2,k3,k4⟩:=Yh c1 h4;exact fin _ k1 (zl (.inl k2)) (by rw [TS k2,k3]) k4
 by_cases c3:bt b 0=3
 ·have e:fG b=kl b:=by unfold fG; rw [ac c1,ab c3]
  rw [e] at h4 fin |-;obtain ⟨k1,k2,k3,k4⟩:=fO7 c3 h4;exact fin _ k1 (zl (.inr (.inr (.inr k2)))) (by rw [Me k2,k3]) k4
 have e:fG b=ib b:=by unfold fG; rw [ac c1,ac c3]
 rw [e] at h4 fin |-;by_cases c4:bt b 0=4
 ·obtain ⟨k1,k2,k3,k4⟩:=YP (by omega) c4 h4;exact fin _ k1 (zl (.inr (.inr (.inl k2)))) (by rw [Ng k2,k3]) k4
 ·obtain ⟨k1,k2,k3,k4⟩:=fO5 c4 (by have:=cw b 0; omega) h4;exact fin _ k1 (zl (.inr (.inl k2))) (by rw [Rx k2,k3]) k4
theorem k9.fewS {l:List cj} (h:k9 l) (hl:l.length<=1000000):em l:=⟨by omega,fun y hy=>by have:=(h y hy).2.2; omega⟩
theorem fP0 {m:bD} (h:eM m=true) (hs:m.subs.length<=1000000):eZ m:=by
 have z:IntKind.has .i64 0:=cx.2 (by omega);have w8:∀ {n:Int},W8 n->IntKind.has .i64 n:=fun h=>cx.2 (by have:=h.1; have:=h.2; omega)
 rcases T9 h with h | h | h | h
 ·have hl:m.list=[]:=congrArg bE.list h.is;have hi:m.aw=0:=congrArg bE.aw h.is;exact ⟨h.aB.has,h.seq.has,h.seq2.has,w8 h.hops,by rw [hi]; exact z,by rw [hl]; simp,by rw [hl]; intro d hd; (cases hd),(jd.1 h.subs).fewS hs,hs⟩
 ·have hl:m.list=[]:=congrArg bE.list h.is;have h1:m.aB=0:=congrArg bE.aB h.is;have h2:m.seq2=0:=congrArg bE.seq2 h.is;exact ⟨by rw [h1]; exact z,h.seq.has,by rw [h2]; exact z,w8 h.hops,h.life.has,by rw [hl]; simp,by rw [hl]; intro d hd; (cases hd),(jd.1 h.subs).fewS hs,hs⟩
 ·have hl:m.list=[]:=congrArg bE.list h.is;have h1:m.aB=0:=congrArg bE.aB h.is;have h2:m.seq2=0:=congrArg bE.seq2 h.is;have h3:m.seq=0:=congrArg bE.seq h.is;have h4:m.hops=0:=congrArg bE.hops h.is;have h5:m.aw=0:=congrArg bE.aw h.is;exact ⟨by rw [h1]; exact z,by rw [h3]; exact z,by rw [h2]; exact z,by rw [h4]; exact z,by rw [h5]; exact z,by rw [hl]; simp,by rw [hl]; intro d hd; (cases hd),(jd.1 h.subs).fewS hs,hs⟩
 ·have h1:m.aB=0:=congrArg bE.aB h.is;have h2:m.seq2=0:=congrArg bE.seq2 h.is;have h3:m.seq=0:=congrArg bE.seq h.is;have h4:m.hops=0:=congrArg bE.hops h.is;have h5:m.aw=0:=congrArg bE.aw h.is;exact ⟨by rw [h1]; exact z,by rw [h3]; exact z,by rw [h2]; exact z,by rw [h4]; exact z,by rw [h5]; exact z,by have:=h.len; omega,fun d hd=>(vc (List.all_eq_true.1 h.list d hd)).2.has,(jd.1 h.subs).fewS hs,hs⟩
end Go.VP
namespace Go.VP
open Go Go.VI
structure zT (m:bD):Prop where
 rip:RM m
 ng:oo m
 av:eZ m
 lean:fr m
theorem g50 {m:bD} (g:pt m) (h:oD m):zT m:=by
 have hl:=h.lite;have g0:=g;obtain ⟨g1,g2,g3,g4,g5,g6,g7,g8,g9,g10,g11,g12,g13,g14,g15,g16,g17,g18,g19,g20,g21,g22,g23,_⟩:=g;have h1:=hl.list;have h2:=hl.subs;exact ⟨g33 g0 h,⟨g9,g8,g2,by omega,by omega⟩,⟨g18,g13,g14,g17,g15,by omega,fun d hd=>(g22.2 d hd).2.1,hl.fewS,by omega⟩,g49 g0 hl⟩
open Classical in
def iu (p:Int) (m:bD):Bool:=if p=1 then fw m else if p=2 then fX m else if p=3 then eM m else if p=4 then gb m else false
end Go.VP
namespace Go.VP
open Go Go.VI
theorem Tw (s:Bs):∀ (p:Int),(∀ q,cP p s=.error q->p<=q/\q<=p+s.length)/\(∀ l,cP p s=.ok l->∀ t∈l,p<=t.at_/\t.at_<=p+s.length):=by
 induction h:s.length using Nat.strongRecOn generalizing s with
 | ind n ih=>
  intro p;subst h
  match s with
  | []=>
   rw [iY];exact ⟨(fun q h=>by cases h),(fun l h=>by cases h; intro t ht; cases ht)⟩
  | t::r=>
   by_cases ht:t=0
   ·subst ht;rw [nu];obtain ⟨i1,i2⟩:=ih r.length (by simp) r rfl (p+1);cases hr:cP (p+1) r with
    | error q=>
     refine ⟨fun q' h=>?_,(fun l h=>by cases h)⟩;cases h;have:=i1 q hr;simp only [List.length_cons]; omega
    | ok l=>
     refine ⟨(fun q' h=>by cases h),fun l' h x hx=>?_⟩;cases h;rcases List.mem_cons.1 hx with rfl | hx
     ·dsimp only; omega
     ·have:=i2 l hr x hx;simp only [List.length_cons]; omega
   ·match r with
    | []=>
     rw [ot ht];exact ⟨(fun q h=>by cases h; simp; omega),(fun l h=>by cases h)⟩
    | n::d=>
     by_cases hn:d.length < n.toNat
     ·rw [pd ht hn];exact ⟨(fun q h=>by cases h; simp only [List.length_cons]; omega),(fun l h=>by cases h)⟩
     ·rw [lT ht (by omega)];have hdl:(d.drop n.toNat).length=d.length - n.toNat:=List.length_drop;obtain ⟨i1,i2⟩:=ih (d.drop n.toNat).length (by rw [hdl]; simp; omega) (d.drop n.toNat) rfl (p+2+n.toNat);rw [hdl] at i1 i2;cases hr:cP (p+2+n.toNat) (d.drop n.toNat) with
      | error q=>
       refine ⟨fun q' h=>?_,(fun l h=>by cases h)⟩;cases h;have:=i1 q hr;simp only [List.length_cons]; omega
      | ok l=>
       refine ⟨(fun q' h=>by cases h),fun l' h x hx=>?_⟩;cases h;rcases List.mem_cons.1 hx with rfl | hx
       ·simp only [List.length_cons]; omega
       ·have:=i2 l hr x hx;simp only [List.length_cons]; omega
theorem Ny:∀ (l:List dc) (c:bS) (acc:List bD),(cR c l acc).2.2.2≠0->∃ t∈l,(cR c l acc).2.2.1=t.at_
 | [],c,acc,h=>absurd rfl h
 | t::r,c,acc,h=>by
  rw [cR] at h |-;by_cases he:(dN c t.aA t.data).2.2≠0
  ·rw [ab he]; exact ⟨t,List.mem_cons_self ..,rfl⟩
  ·rw [ac he] at h |-;obtain ⟨x,hx,e⟩:=Ny r _ _ h;exact ⟨x,List.mem_cons_of_mem _ hx,e⟩
theorem fc3 {b:Bs} (h:(gH b).2.2≠0):(gH b).1=[]/\0<=(gH b).2.1/\(gH b).2.1<=b.length:=by
 refine ⟨(DG b).elim (fun q=>q.2) (fun ⟨l,_,_,_,_,q⟩=>absurd (by rw [q]) h),?_⟩;unfold gH at h |-;by_cases h0:(dC b).2.2≠0
 ·rw [ab h0]; exact (fz9 h0).2
 rw [ac h0] at h |-;obtain ⟨l1,l2,_,_,l5,_,l7⟩:=vr (Classical.byContradiction h0);have hr:=nY b;have hbl:((iH b).length:Int)=b.length - (4+(dC b).1.length):=by unfold iH; rw [List.length_drop]; omega
 have p1:=Tw (dC b).1 4;have p2:=Tw (iH b) (4+((dC b).1.length:Int));cases h1:cP 4 (dC b).1 with
 | error q=>
  have:=p1.1 q h1;dsimp only; omega
 | ok l=>
  rw [h1] at h;cases h2:cP (4+((dC b).1.length:Int)) (iH b) with
  | error q=>
   have:=p2.1 q h2;dsimp only; omega
  | ok k=>
   rw [h2] at h;dsimp only at h |-;obtain ⟨t,ht,e⟩:=Ny l c0 [] h;have:=p1.2 l h1 t ht;omega
def ff (p:Int) (b:Bs):List bD × Int × Int:=if p=1 then dJ b else if p=2 then fZ b else if p=3 then iI b else if p=4 then gH b else ([],0,1)
def d9 (p:Int) (l:List bD):Bs × Int × Int:=if p=1 then eW l else if p=2 then fS l else if p=3 then eP l else if p=4 then pH l else ([],0,1)
def fH (p:Int) (m:bD):Prop:=(p=1->RM m)/\(p=2->oo m)/\(p=3->eZ m)/\(p=4->fr m)
theorem zT.p {m:bD} (g:zT m) (p:Int):fH p m:=⟨fun _=>g.rip,fun _=>g.ng,fun _=>g.av,fun _=>g.lean⟩
theorem fP1 {p:Int} {m:bD} (g:fH p m):ym (p,m,())=some ((iu p m,()),()):=by
 rw [Yx];unfold iu;refine bR (fun h=>by rw [ab h,FL (g.1 h)]; rfl) (fun h1=>?_);rw [ac h1];refine bR (fun h=>by rw [ab h,Qc (g.2.1 h)]; rfl) (fun h2=>?_);rw [ac h2];refine bR (fun h=>by rw [ab h,VS (g.2.2.1 h)]; rfl) (fun h3=>?_);rw [ac h3];refine bR (fun h=>by rw [ab h,IQ (g.2.2.2 h)]; rfl) (fun h4=>?_);rw [ac h4]
theorem XT {p:Int} {m:bD} (g:fH p m):AH (p,m,())=some ((iu p m,()),()):=by
 rw [e44];unfold iu;refine bR (fun h=>by rw [ab h,DZ (g.1 h)]; rfl) (fun h1=>?_);rw [ac h1];refine bR (fun h=>by rw [ab h,VE (g.2.1 h)]; rfl) (fun h2=>?_);rw [ac h2];refine bR (fun h=>by rw [ab h,KM (g.2.2.1 h)]; rfl) (fun h3=>?_);rw [ac h3];refine bR (fun h=>by rw [ab h,EE (g.2.2.2 h)]; rfl) (fun h4=>?_);rw [ac h4]
theorem fF4 {p:Int} {b:Bs} (hb:b.length<=100000):xf (p,b,())=some (bY (ff p b),()):=by
 rw [e68];unfold ff;refine bR (fun h=>by rw [ab h,ZA hb]; rfl) (fun h1=>?_);rw [ac h1];refine bR (fun h=>by rw [ab h,ft3 (by omega)]; rfl) (fun h2=>?_);rw [ac h2];refine bR (fun h=>by rw [ab h,fu1 (by omega)]; rfl) (fun h3=>?_);rw [ac h3];refine bR (fun h=>by rw [ab h,fA1]; rfl) (fun h4=>?_);rw [ac h4]
theorem fu3 {p:Int} {b:Bs} (hb:b.length<=100000):rQ (p,b,())=some (bY (ff p b),()):=by
 rw [e71];unfold ff;refine bR (fun h=>by rw [ab h,fC3 hb]; rfl) (fun h1=>?_);rw [ac h1];refine bR (fun h=>by rw [ab h,fg5 (by omega)]; rfl) (fun h2=>?_);rw [ac h2];refine bR (fun h=>by rw [ab h,fh0 (by omega)]; rfl) (fun h3=>?_);rw [ac h3];refine bR (fun h=>by rw [ab h,fq7]; rfl) (fun h4=>?_);rw [ac h4]
theorem fY2 {p:Int} {l:List bD} (g:∀ m∈l,fH p m) (hl:l.length<=100000) (h1:p=1->l.length<=1000):An (p,l,())=some (bY (d9 p l),()):=by
 rw [dN6];unfold d9;refine bR (fun h=>by rw [ab h,Zu (fun m hm=>(g m hm).1 h) (h1 h)]; rfl) (fun h1=>?_);rw [ac h1];refine bR (fun h=>by rw [ab h,fN3 (fun m hm=>(g m hm).2.1 h) (by omega)]; rfl) (fun h2=>?_);rw [ac h2];refine bR (fun h=>by rw [ab h,fO3 (fun m hm=>(g m hm).2.2.1 h) (by omega)]; rfl) (fun h3=>?_);rw [ac h3];refine bR (fun h=>by rw [ab h,fW1 hl (fun m hm=>(g m hm).2.2.2 h)]; rfl) (fun h4=>?_);rw [ac h4]
theorem Jl {p:Int} {l:List bD} (g:∀ m∈l,fH p m) (hl:l.length<=100000) (h1:p=1->l.length<=1000):qQ (p,l,())=some (bY (d9 p l),()):=by
 rw [dO7];unfold d9;refine bR (fun h=>by rw [ab h,fW7 (fun m hm=>(g m hm).1 h) (h1 h)]; rfl) (fun h1=>?_);rw [ac h1];refine bR (fun h=>by rw [ab h,fD7 (fun m hm=>(g m hm).2.1 h) (by omega)]; rfl) (fun h2=>?_);rw [ac h2];refine bR (fun h=>by rw [ab h,fE8 (fun m hm=>(g m hm).2.2.1 h) (by omega)]; rfl) (fun h3=>?_);rw [ac h3];refine bR (fun h=>by rw [ab h,fM3 hl (fun m hm=>(g m hm).2.2.2 h)]; rfl) (fun h4=>?_);rw [ac h4]
theorem fF5 {l:List bD} (h:(eW l).2.2=0):dJ (eW l).1=(l,0,0)/\(eW l).1.length<=504:=by
 unfold eW at h |-;cases hb:iR l 0 with
 | some i=>rw [hb] at h; simp at h
 | none=>
  rw [hb] at h;have hok:=wB hb;cases l with
  | nil=>simp at h
  | cons f r=>
   dsimp only at h |-;have hmo:((0:Nat):Int)<=gp f:=by unfold gp; split <;> omega
   obtain ⟨h1,h2⟩:=Tq (f::r) 0 _ hmo h;rw [DR (f::r) 0 _ (by simpa using h1) h2];have ht:∀ m∈r,gx f m:=fun m hm=>by
    obtain ⟨j,hj,e⟩:=List.mem_iff_getElem.1 hm;have:=h2 (j+1) (by simpa using hj) (by omega);rw [List.getElem_cons_succ,e] at this;exact this
   have hmo2:(((f::r).length:Nat):Int)<=gp f:=by simpa using h1
   refine ⟨fs9 hok ht (fun c=>?_) hmo2,?_⟩
   ·cases r with
    | nil=>rfl
    | cons x _=>exact absurd c (ht x (by simp)).2.2.2.2
   ·have hfl:=Ea hok;have hhl:=DB (hok f (by simp));dsimp only;rw [List.length_append,hfl];unfold gp at hmo2;by_cases ha:f.aC=[]
    ·rw [ab ha] at hmo2 hhl; omega
    ·rw [ac ha] at hmo2 hhl; omega
theorem g39 {p:Int} {l:List bD} (h:(d9 p l).2.2=0):ff p (d9 p l).1=(l,0,0)/\(d9 p l).1.length<=65535:=by
 unfold d9 at h |-;unfold ff;by_cases h1:p=1
 ·simp only [ab h1] at h |-;have:=fF5 h;exact ⟨this.1,by omega⟩
 simp only [ac h1] at h |-;by_cases h2:p=2
 ·simp only [ab h2] at h |-; exact fX4 h
 simp only [ac h2] at h |-;by_cases h3:p=3
 ·simp only [ab h3] at h |-; exact fY1 h
 simp only [ac h3] at h |-;by_cases h4:p=4
 ·simp only [ab h4] at h |-;obtain ⟨hB,s,d,k1,k2,k3,k4,k5⟩:=fW0 h;have hp:=YX k4 k2;rw [k3] at k5 |-;exact ⟨hp,by dsimp only at k5 |-; omega⟩
 ·simp only [ac h4] at h; cases h
theorem fu4 {p:Int} {b:Bs} (h:(ff p b).2.2≠0):(ff p b).1=[]/\0<=(ff p b).2.1/\(ff p b).2.1<=b.length:=by
 unfold ff at h |-;by_cases h1:p=1
 ·simp only [ab h1] at h |-; exact Y8 h
 simp only [ac h1] at h |-;by_cases h2:p=2
 ·simp only [ab h2] at h |-; exact fg7 h
 simp only [ac h2] at h |-;by_cases h3:p=3
 ·simp only [ab h3] at h |-; exact ZW h
 simp only [ac h3] at h |-;by_cases h4:p=4
 ·simp only [ab h4] at h |-; exact fc3 h
 ·simp only [ac h4] at h |-;exact ⟨trivial,by simp,by simp⟩
theorem QK {m:bD} (h:eR m):oo m/\mG m:=by
 have hl:m.list=[]:=congrArg bE.list h.is;have hs:m.subs=[]:=congrArg bE.subs h.is;have:=h.tag;have:=h.af;have:=h.cmd;exact ⟨⟨cx.2 (by omega),cx.2 (by omega),cx.2 (by omega),by rw [hl]; simp,by rw [hs]; simp⟩,by rw [hl]; simp,by rw [hs]; simp⟩
theorem fF6 {b:Bs}:∀ m∈(dJ b).1,cG m->RM m:=fun m hm ho=>by
 have hs:=fs4 (b:=b) (P:=fun m=>m.list.length<=1000000000/\m.subs.length<=1000000000) (fun c v s e=>by simp [dG]) m hm;obtain ⟨_,_,_,_,_,_,_,h⟩:=ho;exact ⟨cx.2 (by omega),cx.2 (by omega),hs.1,hs.2⟩
theorem fP2 {p:Int} {b:Bs} (hb:b.length<=100000) (h:(ff p b).2.2=0):(ff p b).2.1=0/\(∀ m∈(ff p b).1,iu p m=true/\fH p m/\mG m)/\(ff p b).1.length<=65535/\(p=1->(ff p b).1.length<=1000):=by
 unfold ff at h |-;unfold iu fH;by_cases h1:p=1
 ·simp only [ab h1] at h |-;obtain ⟨r,r1,r2,r3,r4,r5⟩:=fs7 h;have hrm:=fF6 (b:=b);rw [r1] at hrm |-;exact ⟨rfl,fun m hm=>⟨jn.2 (r4 m hm),⟨fun _=>hrm m hm (r4 m hm),fun q=>by omega,fun q=>by omega,fun q=>by omega⟩,(hrm m hm (r4 m hm)).list,(hrm m hm (r4 m hm)).subs⟩,by dsimp only; omega,fun _=>by dsimp only; omega⟩
 simp only [ac h1] at h |-;by_cases h2:p=2
 ·simp only [ab h2] at h |-;obtain ⟨k0,k1,k2,k3,_,_⟩:=fN5 h;exact ⟨k0,fun m hm=>⟨mv.2 (k1 m hm),⟨fun q=>by omega,fun _=>(QK (k1 m hm)).1,fun q=>by omega,fun q=>by omega⟩,(QK (k1 m hm)).2⟩,by omega,fun q=>absurd q h1⟩
 simp only [ac h2] at h |-;by_cases h3:p=3
 ·simp only [ab h3] at h |-;obtain ⟨m,k1,k2,k3,k4,k5,k6⟩:=fO9 h;rw [k1];have hg:=fP0 k2 (by omega);exact ⟨rfl,fun x hx=>by rw [List.mem_singleton.1 hx]; exact ⟨k2,⟨fun q=>by omega,fun q=>by omega,fun _=>hg,fun q=>by omega⟩,by have:=hg.list; omega,by have:=hg.subs1; omega⟩,by simp,fun q=>absurd q h1⟩
 simp only [ac h3] at h |-;by_cases h4:p=4
 ·simp only [ab h4] at h |-;obtain ⟨k1,k2⟩:=fa0 b;refine ⟨?_,fun m hm=>⟨lq.2 (k1 m hm).1,⟨fun q=>by omega,fun q=>by omega,fun q=>by omega,fun _=>(k1 m hm).2⟩,(k1 m hm).2.small⟩,k2,fun q=>absurd q h1⟩;rcases DG b with ⟨q,_⟩ | ⟨l,_,_,_,_,q⟩
  ·exact absurd h q
  ·rw [q]
 ·simp only [ac h4] at h; cases h
end Go.VP
namespace Go.VP
open Go Go.VI
def ej (p most:Int) (l:List bD):Bool:=decide ((d9 p l).2.2=0/\((d9 p l).1.length:Int)<=most)
theorem UE {p most:Int} {l:List bD} (g:∀ m∈l,fH p m) (hl:l.length<=1000):tN (p,l,most,())=some (((d9 p l).1,ej p most l,()),()):=by
 rw [dG8,fY2 g (by omega) (fun _=>hl),aa];unfold ej;refine bR (fun q=>?_) (fun q=>?_)
 ·by_cases h:((d9 p l).1.length:Int)<=most
  ·rw [decide_eq_true (show (d9 p l).2.2=0/\_ from ⟨q,h⟩)]; dsimp only [bY]; rw [decide_eq_true h]
  ·rw [decide_eq_false (show ¬((d9 p l).2.2=0/\_) from fun c=>h c.2)]; dsimp only [bY]; rw [decide_eq_false h]
 ·rw [decide_eq_false (show ¬((d9 p l).2.2=0/\_) from fun c=>q c.1)]
theorem fP3 {p most:Int} {l:List bD} (g:∀ m∈l,fH p m) (hl:l.length<=1000):vT (p,l,most,())=some ((ej p most l,()),()):=by
 rw [ev4,UE g hl]; rfl
def fx (p most:Int) (l:List bD):Nat->Nat->Nat
 | 0,n=>n
 | k+1,n=>if ej p most (l.take (n+1))=true then fx p most l k (n+1) else n
def fq (p most:Int) (l:List bD):Nat:=fx p most l l.length 0
theorem xm {p most:Int} {l:List bD}:∀ (k n:Nat),n<=fx p most l k n/\fx p most l k n<=n+k
 | 0,n=>⟨Nat.le_refl _,Nat.le_refl _⟩
 | k+1,n=>by
  unfold fx;split
  ·have:=xm (p:=p) (most:=most) (l:=l) k (n+1); omega
  ·omega
theorem Rm {p most:Int} {l:List bD}:∀ (k n:Nat),n < fx p most l k n->ej p most (l.take (fx p most l k n))=true
 | 0,n,h=>by unfold fx at h; omega
 | k+1,n,h=>by
  unfold fx at h |-;split at h
  ·rename_i hf;rw [ab hf];by_cases q:n+1 < fx p most l k (n+1)
   ·exact Rm k (n+1) q
   ·have:=xm (p:=p) (most:=most) (l:=l) k (n+1);rw [show fx p most l k (n+1)=n+1 by omega]; exact hf
  ·omega
def fO (p most:Int):Nat->List bD->List (List bD)
 | 0,_=>[]
 | k+1,l=>if l=[] then [] else l.take (fq p most l)::fO p most k (l.drop (fq p most l))
def T2 (p most:Int) (l:List bD):List Bs:=(fO p most l.length l).map fun c=>(d9 p c).1
def kX (p:Int) (l:List bD) (n:Nat):Bs:=if n=0 then [] else (d9 p (l.take n)).1
theorem DL:rV<=100000:=Nat.le_of_ble_eq_true (by kernel_rfl)
theorem fu6 {n m0:Nat} {p most:Int} {l:List bD} {acc:List Bs} (hl:l.length<=1000) (ha:acc.length<=1000) (g:∀ m∈l,fH p m):∀ (d k i:Nat),i+d=l.length->d < k->
  zp n m0 k p l most acc (kX p l i) i=nV n m0 p most (l.drop (fx p most l d i)) (acc++[kX p l (fx p most l d i)]):=by
 have fin:∀ (i:Nat),i<=l.length->(if cE ((acc.length + [kX p l i].length) * rV)=true then (if 0<=(i:Int)/\(i:Int)<=(l.length:Int) then (nV n m0 p most (l.drop (i:Int).toNat) (acc++[kX p l i])) else none) else none)=nV n m0 p most (l.drop i) (acc++[kX p l i]):=fun i hi=>by
  rw [ab (d7 (Nat.le_trans (Nat.mul_le_mul (show acc.length + [kX p l i].length<=1001 by simp; omega) DL) (by decide))),ab (by omega),Int.toNat_natCast]
 intro d
 induction d with
 | zero=>
  intro k i h hk;obtain ⟨k,rfl⟩:∃ j,k=j+1:=⟨k - 1,by omega⟩;rw [ML,bN (by omega),fx];exact fin i (by omega)
 | succ d ih=>
  intro k i h hk;obtain ⟨k,rfl⟩:∃ j,k=j+1:=⟨k - 1,by omega⟩;have hg:∀ m∈l.take (i+1),fH p m:=fun m hm=>g m (List.mem_of_mem_take hm)
  rw [ML,bP (by omega),bL (x:=(i:Int)+1) (by omega) (by omega),ab (by omega),show ((i:Int)+1).toNat=i+1 by omega,UE hg (by rw [List.length_take]; omega),aa,fx];dsimp only;cases hf:ej p most (l.take (i+1)) with
  | false=>
   rw [cK,cV];exact fin i (by omega)
  | true=>
   rw [b7,cQ];have:=ih k (i+1) (by omega) (by omega);rw [show ((i+1:Nat):Int)=(i:Int)+1 by omega,show kX p l (i+1)=(d9 p (l.take (i+1))).1 by unfold kX; rw [ac (by omega)]] at this;exact this
theorem I1 {p most:Int} {m:bD} {r:List bD} (h:ej p most [m]=true):1<=fq p most (m::r):=by
 unfold fq;rw [List.length_cons,fx];rw [ab (by simpa using h)];exact (xm _ _).1
theorem Gd {p most:Int} {l:List bD}:fq p most l<=l.length:=by
 have:=(xm (p:=p) (most:=most) (l:=l) l.length 0).2;unfold fq; omega
theorem fu7 {n:Nat} {p most:Int} (hn:2000<=n):∀ (d k:Nat) (l:List bD) (acc:List Bs),l.length<=d->d < k->l.length+acc.length<=1000->(∀ m∈l,fH p m/\ej p most [m]=true)->
  nV n k p most l acc=some ((acc++(fO p most d l).map (fun c=>(d9 p c).1),0,0,()),()):=by
 intro d
 induction d with
 | zero=>
  intro k l acc hd hk hl g;obtain ⟨k,rfl⟩:∃ j,k=j+1:=⟨k - 1,by omega⟩;rw [VT,bN (by omega)];simp [fO]
 | succ d ih=>
  intro k l acc hd hk hl g;obtain ⟨k,rfl⟩:∃ j,k=j+1:=⟨k - 1,by omega⟩;rw [VT];cases l with
  | nil=>rw [bN (by simp)]; simp [fO]
  | cons m r=>
   have h1:=I1 (r:=r) (g m (by simp)).2;have h2:=Gd (p:=p) (most:=most) (l:=m::r);have:=fu6 (n:=n) (m0:=k) (most:=most) (acc:=acc) (l:=m::r) (by simp at hl |-; omega) (by omega) (fun x hx=>(g x hx).1) (m::r).length n 0 (by omega) (by simp at hl |-; omega);rw [show kX p (m::r) 0=[] from rfl,show ((0:Nat):Int)=0 from rfl,show fx p most (m::r) (m::r).length 0=fq p most (m::r) from rfl] at this;rw [bP (by simp only [List.length_cons]; omega),this,ih k _ _ (by rw [List.length_drop]; simp at hd h2 |-; omega) (by omega) (by rw [List.length_drop,List.length_append]; simp at hl h2 |-; omega) (fun x hx=>g x (List.mem_of_mem_drop hx))];have hc:fO p most (d+1) (m::r)=(m::r).take (fq p most (m::r))::fO p most d ((m::r).drop (fq p most (m::r))):=by rw [fO,ac (by simp)]
   rw [hc,List.map_cons,List.append_assoc];have hld:kX p (m::r) (fq p most (m::r))=(d9 p ((m::r).take (fq p most (m::r)))).1:=by unfold kX; rw [ac (by omega)]
   rw [hld]; rfl
theorem UX {l:List bD} {i:Nat} (h:i < l.length):(l.take (i+1)).drop i=[l[i]]:=by
 rw [List.take_succ_eq_append_getElem h,List.drop_left' (by rw [List.length_take]; omega)]
def gO (p most:Int) (l:List bD):Int × Int:=
 if p < 1\/4 < p then (0,1) else match dA (iu p) l 0 with
  | some i=>((i:Int),1)
  | none=>match dA (fun m=>ej p most [m]) l 0 with
   | some i=>((i:Int),11)
   | none=>(0,0)
theorem fh3 {n:Nat} {p most:Int} {l:List bD} (hl:l.length<=1000) (g:∀ m∈l,fH p m):∀ (d k i:Nat),i+d=l.length->d < k->
  A9 n k p l most i=some ((match dA (fun m=>ej p most [m]) (l.drop i) i with | some j=>(((j:Nat):Int),11,()) | none=>(0,0,())),()):=by
 intro d
 induction d with
 | zero=>
  intro k i h hk;obtain ⟨k,rfl⟩:∃ j,k=j+1:=⟨k - 1,by omega⟩;rw [W4,bN (by omega),List.drop_eq_nil_of_le (by omega)]; rfl
 | succ d ih=>
  intro k i h hk;obtain ⟨k,rfl⟩:∃ j,k=j+1:=⟨k - 1,by omega⟩;have hi:i < l.length:=by omega
  have:=ih k (i+1) (by omega) (by omega);rw [show ((i+1:Nat):Int)=(i:Int)+1 by omega] at this;rw [W4,bP (by omega),bL (x:=(i:Int)+1) (by omega) (by omega),ab (by omega),show ((i:Int)+1).toNat=i+1 by omega,Int.toNat_natCast,UX hi,fP3 (fun m hm=>by rw [List.mem_singleton.1 hm]; exact g _ (List.getElem_mem hi)) (by simp),aa,List.drop_eq_getElem_cons hi,dA];dsimp only;cases hf:ej p most [l[i]] with
  | false=>rw [cK,cV]
  | true=>rw [b7,cQ]; exact this
theorem X6 {p most:Int} {l:List bD} (hl:l.length<=1000) (g:∀ m∈l,fH p m):IL (p,l,most,())=some (((gO p most l).1,(gO p most l).2,()),()):=by
 show B3 fuel _=_;rw [ei2];unfold gO;refine cF (fun h=>by rw [ab (Or.inl h)]) (fun h1=>?_);refine cF (fun h=>by rw [ab (Or.inr h)]) (fun h2=>?_);rw [ac (show ¬(p < 1\/4 < p) by omega)];have main:∀ (d k i:Nat),i+d=l.length->d < k->zA fuel k p l most i=some ((match dA (iu p) (l.drop i) i with | some j=>(((j:Nat):Int),1,()) | none=>(match dA (fun m=>ej p most [m]) l 0 with | some j=>(((j:Nat):Int),11,()) | none=>(0,0,()))),()):=by
  intro d
  induction d with
  | zero=>
   intro k i h hk;obtain ⟨k,rfl⟩:∃ j,k=j+1:=⟨k - 1,by omega⟩;have:=fh3 (n:=fuel) (most:=most) hl g l.length fuel 0 (by omega) (cn (by omega));rw [List.drop_zero,show ((0:Nat):Int)=0 from rfl] at this;rw [RC,bN (by omega),List.drop_eq_nil_of_le (by omega),this]; rfl
  | succ d ih=>
   intro k i h hk;obtain ⟨k,rfl⟩:∃ j,k=j+1:=⟨k - 1,by omega⟩;have hi:i < l.length:=by omega
   have:=ih k (i+1) (by omega) (by omega);rw [show ((i+1:Nat):Int)=(i:Int)+1 by omega] at this;rw [RC,bP (by omega),ab (by omega),Int.toNat_natCast,ck hi,fP1 (g _ (List.getElem_mem hi)),aa,bL (by omega) (by omega),List.drop_eq_getElem_cons hi,dA];dsimp only;cases hf:iu p l[i] with
   | false=>rw [cK,cV]
   | true=>rw [b7,cQ]; exact this
 have:=main l.length fuel 0 (by omega) (cn (by omega));rw [List.drop_zero,show ((0:Nat):Int)=0 from rfl] at this;rw [this];cases dA (iu p) l 0 with
 | some i=>rfl
 | none=>cases dA (fun m=>ej p most [m]) l 0 <;> rfl
def eU (p most:Int) (l:List bD):List Bs × Int × Int:=if (gO p most l).2≠0 then ([],gO p most l) else (T2 p most l,0,0)
theorem WS {p most:Int} {l:List bD} (h:(gO p most l).2=0):1<=p/\p<=4/\(∀ m∈l,iu p m=true/\ej p most [m]=true):=by
 unfold gO at h;split at h
 ·cases h
 ·rename_i hp;split at h
  ·cases h
  ·rename_i h1;split at h
   ·cases h
   ·rename_i h2;exact ⟨by omega,by omega,fun m hm=>⟨kJ h1 m hm,kJ h2 m hm⟩⟩
theorem fY3 {p most:Int} {l:List bD} (hl:l.length<=1000) (g:∀ m∈l,fH p m):Fp (p,l,most,())=some (bY (eU p most l),()):=by
 show E6 fuel _=_;rw [ev5,X6 hl g,aa];unfold eU;refine bZ (fun q=>by rw [ab q]) (fun q=>?_);rw [ac (show ¬(gO p most l).2≠0 from fun c=>c q)];have hc:=(WS (show (gO p most l).2=0 from q)).2.2;rw [fu7 (n:=fuel) (Nat.le_of_lt (cn (by omega))) l.length fuel l [] (Nat.le_refl _) (cn (by omega)) (by simp; omega) (fun m hm=>⟨g m hm,(hc m hm).2⟩)]
 rfl
theorem Qu {p most:Int}:∀ (k:Nat) (l:List bD),l.length<=k->(∀ m∈l,ej p most [m]=true)->(fO p most k l).flatten=l/\(∀ c∈fO p most k l,c≠[]/\ej p most c=true)/\(fO p most k l).length<=l.length
 | 0,l,h,_=>by
  have:l=[]:=List.eq_nil_of_length_eq_zero (by omega);subst this;exact ⟨rfl,(fun c hc=>by cases hc),Nat.le_refl _⟩
 | k+1,[],h,_=>⟨by simp [fO],(fun c hc=>by simp [fO] at hc),by simp [fO]⟩
 | k+1,m::r,h,hf=>by
  have h1:=I1 (r:=r) (hf m (by simp));have h2:=Gd (p:=p) (most:=most) (l:=m::r);have hc:fO p most (k+1) (m::r)=(m::r).take (fq p most (m::r))::fO p most k ((m::r).drop (fq p most (m::r))):=by rw [fO,ac (by simp)]
  have hfit:ej p most ((m::r).take (fq p most (m::r)))=true:=Rm _ _ h1;have hdl:((m::r).drop (fq p most (m::r))).length=(m::r).length - fq p most (m::r):=List.length_drop;obtain ⟨k1,k2,k3⟩:=Qu k ((m::r).drop (fq p most (m::r))) (by omega) (fun x hx=>hf x (List.mem_of_mem_drop hx));rw [hc];refine ⟨by rw [List.flatten_cons,k1,List.take_append_drop],fun c hcc=>?_,by rw [List.length_cons]; omega⟩;rcases List.mem_cons.1 hcc with rfl | hcc
  ·refine ⟨fun q=>?_,hfit⟩;have:=congrArg List.length q;rw [List.length_take] at this;simp only [List.length_nil] at this;omega
  ·exact k2 c hcc
end Go.VP
namespace Go.VP
open Go Go.VI
theorem SE {p most:Int} {l:List bD} (g:∀ m∈l,fH p m) (hl:l.length<=1000):vo (p,l,most,())=some ((ej p most l,()),()):=by
 rw [Zq,Jl g (by omega) (fun _=>hl),aa];unfold ej;refine bR (fun q=>?_) (fun q=>?_)
 ·by_cases h:((d9 p l).1.length:Int)<=most
  ·rw [decide_eq_true (show (d9 p l).2.2=0/\_ from ⟨q,h⟩)]; dsimp only [bY]; rw [decide_eq_true h]
  ·rw [decide_eq_false (show ¬((d9 p l).2.2=0/\_) from fun c=>h c.2)]; dsimp only [bY]; rw [decide_eq_false h]
 ·rw [decide_eq_false (show ¬((d9 p l).2.2=0/\_) from fun c=>q c.1)]
theorem fh4 {n m0:Nat} {p most:Int} {l:List bD} {acc:List Bs} {i:Nat} (hl:l.length<=1000) (ha:acc.length<=1000) (g:∀ m∈l,fH p m):∀ (d k j:Nat),i+j+d=l.length->d < k->
  xk n m0 k p l most acc i j=sD n m0 p l most (acc++[(d9 p ((l.drop i).take (fx p most (l.drop i) d j))).1]) ((i:Int)+fx p most (l.drop i) d j):=by
 have htt:∀ k,(l.take (i+k)).drop i=(l.drop i).take k:=fun k=>by rw [List.drop_take]; congr 1; omega
 intro d
 induction d with
 | zero=>
  intro k j h hk;obtain ⟨k,rfl⟩:∃ j,k=j+1:=⟨k - 1,by omega⟩;rw [Vm,bL (x:=(i:Int)+j) (by omega) (by omega),bN (by omega),ab (by omega),show ((i:Int)+j).toNat=i+j by omega,Int.toNat_natCast,htt,Jl (fun m hm=>g m (List.mem_of_mem_drop (List.mem_of_mem_take hm))) (by rw [List.length_take]; omega) (fun _=>by rw [List.length_take]; omega),aa,fx];exact ab (d7 (Nat.le_trans (Nat.mul_le_mul (show acc.length + [(d9 p ((l.drop i).take j)).1].length<=1001 by simp; omega) DL) (by decide)))
 | succ d ih=>
  intro k j h hk;obtain ⟨k,rfl⟩:∃ j,k=j+1:=⟨k - 1,by omega⟩;rw [Vm,bL (x:=(i:Int)+j) (by omega) (by omega),bL (x:=(i:Int)+j+1) (by omega) (by omega),bL (x:=(j:Int)+1) (by omega) (by omega),bP (by omega),ab (by omega),show ((i:Int)+j+1).toNat=i+(j+1) by omega,show ((i:Int)+j).toNat=i+j by omega,Int.toNat_natCast,htt,htt,SE (fun m hm=>g m (List.mem_of_mem_drop (List.mem_of_mem_take hm))) (by rw [List.length_take]; omega),aa,fx];dsimp only;cases hf:ej p most ((l.drop i).take (j+1)) with
  | false=>
   rw [cV,ab (by omega),Jl (fun m hm=>g m (List.mem_of_mem_drop (List.mem_of_mem_take hm))) (by rw [List.length_take]; omega) (fun _=>by rw [List.length_take]; omega),aa];exact ab (d7 (Nat.le_trans (Nat.mul_le_mul (show acc.length + [(d9 p ((l.drop i).take j)).1].length<=1001 by simp; omega) DL) (by decide)))
  | true=>
   have:=ih k (j+1) (by omega) (by omega);rw [show ((j+1:Nat):Int)=(j:Int)+1 by omega] at this;rw [cQ];exact this
theorem Yg {n:Nat} {p most:Int} {l:List bD} (hn:2000<=n) (hl:l.length<=500) (g:∀ m∈l,fH p m/\ej p most [m]=true):∀ (d k i:Nat) (acc:List Bs),(l.drop i).length<=d->d < k->i<=l.length->acc.length<=i->
  sD n k p l most acc i=some ((acc++(fO p most d (l.drop i)).map (fun c=>(d9 p c).1),0,0,()),()):=by
 intro d
 induction d with
 | zero=>
  intro k i acc hd hk hi ha;obtain ⟨k,rfl⟩:∃ j,k=j+1:=⟨k - 1,by omega⟩;have hdl:(l.drop i).length=l.length - i:=List.length_drop;rw [O9,bN (by omega)];simp [fO]
 | succ d ih=>
  intro k i acc hd hk hi ha;obtain ⟨k,rfl⟩:∃ j,k=j+1:=⟨k - 1,by omega⟩;have hdl:(l.drop i).length=l.length - i:=List.length_drop;rw [O9];by_cases hz:i=l.length
  ·rw [bN (by omega),List.drop_eq_nil_of_le (by omega)]; simp [fO]
  ·have hgL:∀ m∈l.drop i,fH p m/\ej p most [m]=true:=fun m hm=>g m (List.mem_of_mem_drop hm)
   have h3:=fh4 (n:=n) (m0:=k) (most:=most) (acc:=acc) (i:=i) (l:=l) (by omega) (by omega) (fun x hx=>(g x hx).1) (l.length - i - 1) n 1 (by omega) (by omega);have hcn:fx p most (l.drop i) (l.length - i - 1) 1=fq p most (l.drop i):=by
    unfold fq;rw [hdl,show l.length - i=(l.length - i - 1)+1 by omega,fx];rw [List.drop_eq_getElem_cons (show i < l.length by omega)] at hgL |-;rw [ab (show ej p most ((l[i]::l.drop (i+1)).take (0+1))=true from (hgL _ (List.mem_cons_self ..)).2)]
    rfl
   rw [hcn,show ((1:Nat):Int)=1 from rfl] at h3;have hc1:1<=fq p most (l.drop i):=by
    rw [List.drop_eq_getElem_cons (show i < l.length by omega)] at hgL |-;exact I1 (hgL _ (List.mem_cons_self ..)).2
   have hc2:=Gd (p:=p) (most:=most) (l:=l.drop i);have:=ih k (i+fq p most (l.drop i)) (acc++[(d9 p ((l.drop i).take (fq p most (l.drop i)))).1]) (by rw [List.length_drop]; omega) (by omega) (by omega) (by rw [List.length_append,List.length_singleton]; omega);rw [show ((i+fq p most (l.drop i):Nat):Int)=(i:Int)+fq p most (l.drop i) by omega] at this;have hne:l.drop i≠[]:=fun q=>by rw [q] at hdl; simp at hdl; omega
   rw [bP (by omega),h3,this,fO,ac hne,List.map_cons,List.append_assoc,<- List.drop_drop]
   rfl
theorem fP5 {p most:Int} {l:List bD} (hl:l.length<=500) (g:∀ m∈l,fH p m):tE (p,l,most,())=some (bY (eU p most l),()):=by
 show Ct fuel _=_;rw [ej9];unfold eU;refine cF (fun h=>by unfold gO; rw [ab (Or.inl h)]; rfl) (fun h1=>?_);refine cF (fun h=>by unfold gO; rw [ab (Or.inr h)]; rfl) (fun h2=>?_);have hp:¬(p < 1\/4 < p):=by omega
 have l1:∀ (d k i:Nat),i+d=l.length->d < k->(∀ m∈l,iu p m=true)->dA (fun m=>ej p most [m]) l 0=dA (fun m=>ej p most [m]) (l.drop i) i->vN fuel k p l most i=some (bY (eU p most l),()):=by
  intro d
  induction d with
  | zero=>
   intro k i h hk hR hb;obtain ⟨k,rfl⟩:∃ j,k=j+1:=⟨k - 1,by omega⟩;rw [List.drop_eq_nil_of_le (by omega)] at hb;have hb:dA (fun m=>ej p most [m]) l 0=none:=hb;have hc:gO p most l=(0,0):=by unfold gO; rw [ac hp,tt hR,hb]
   have hg:∀ m∈l,fH p m/\ej p most [m]=true:=fun m hm=>⟨g m hm,kJ hb m hm⟩
   have:=Yg (n:=fuel) (most:=most) (Nat.le_of_lt (cn (by omega))) hl hg l.length fuel 0 [] (by simp) (cn (by omega)) (by omega) (by simp);rw [List.drop_zero,show ((0:Nat):Int)=0 from rfl] at this;rw [PH,bN (by omega),this];unfold eU;rw [hc,ac (show ¬((0:Int),(0:Int)).2≠0 from fun c=>c rfl)]
   rfl
  | succ d ih=>
   intro k i h hk hR hb;obtain ⟨k,rfl⟩:∃ j,k=j+1:=⟨k - 1,by omega⟩;have hi:i < l.length:=by omega
   have:=ih k (i+1) (by omega) (by omega) hR;rw [show ((i+1:Nat):Int)=(i:Int)+1 by omega] at this;rw [List.drop_eq_getElem_cons hi,dA] at hb;rw [PH,bP (by omega),bL (x:=(i:Int)+1) (by omega) (by omega),ab (by omega),show ((i:Int)+1).toNat=i+1 by omega,Int.toNat_natCast,UX hi,SE (fun m hm=>by rw [List.mem_singleton.1 hm]; exact g _ (List.getElem_mem hi)) (by simp),aa];dsimp only;cases hf:ej p most [l[i]] with
   | false=>
    rw [hf,cV] at hb;have hc:gO p most l=((i:Int),11):=by unfold gO; rw [ac hp,tt hR,hb]
    rw [cK];unfold eU;rw [hc,ab (show ((i:Int),(11:Int)).2≠0 from fun c=>by cases c)]
   | true=>
    rw [hf,cQ] at hb;rw [b7]; exact this hb
 have main:∀ (d k i:Nat),i+d=l.length->d < k->dA (iu p) l 0=dA (iu p) (l.drop i) i->AB fuel k p l most i=some (bY (eU p most l),()):=by
  intro d
  induction d with
  | zero=>
   intro k i h hk hb;obtain ⟨k,rfl⟩:∃ j,k=j+1:=⟨k - 1,by omega⟩;rw [List.drop_eq_nil_of_le (by omega)] at hb;have hb:dA (iu p) l 0=none:=hb;have:=l1 l.length fuel 0 (by omega) (cn (by omega)) (kJ hb) (by rw [List.drop_zero]);rw [show ((0:Nat):Int)=0 from rfl] at this;rw [Rw,bN (by omega),this]
  | succ d ih=>
   intro k i h hk hb;obtain ⟨k,rfl⟩:∃ j,k=j+1:=⟨k - 1,by omega⟩;have hi:i < l.length:=by omega
   have:=ih k (i+1) (by omega) (by omega);rw [show ((i+1:Nat):Int)=(i:Int)+1 by omega] at this;rw [List.drop_eq_getElem_cons hi,dA] at hb;rw [Rw,bP (by omega),ab (by omega),Int.toNat_natCast,ck hi,XT (g _ (List.getElem_mem hi)),aa,bL (by omega) (by omega)];dsimp only;cases hf:iu p l[i] with
   | false=>
    rw [hf,cV] at hb;have hc:gO p most l=((i:Int),1):=by unfold gO; rw [ac hp,hb]
    rw [cK];unfold eU;rw [hc,ab (show ((i:Int),(1:Int)).2≠0 from fun c=>by cases c)]
   | true=>
    rw [hf,cQ] at hb;rw [b7]; exact this hb
 have:=main l.length fuel 0 (by omega) (cn (by omega)) (by rw [List.drop_zero]);rw [show ((0:Nat):Int)=0 from rfl] at this;rw [this]
 rfl
theorem X9 {a:List Bs} (ha:a.length<=100000):FX (a,a,())=some ((true,()),()):=by
 show EK fuel _=_;rw [Yc];refine bZ (fun q=>absurd rfl q) (fun _=>?_);have:∀ (d k i:Nat),i+d=a.length->d < k->A7 fuel k a a i=some ((true,()),()):=by
  intro d
  induction d with
  | zero=>
   intro k i h hk;obtain ⟨k,rfl⟩:∃ j,k=j+1:=⟨k - 1,by omega⟩;rw [Vu,bN (by omega)]
  | succ d ih=>
   intro k i h hk;obtain ⟨k,rfl⟩:∃ j,k=j+1:=⟨k - 1,by omega⟩;have hi:i < a.length:=by omega
   have:=ih k (i+1) (by omega) (by omega);rw [show ((i+1:Nat):Int)=(i:Int)+1 by omega] at this;rw [Vu,bP (by omega),ab (by omega),Int.toNat_natCast,ck hi,ab (by omega),ck hi,bL (by omega) (by omega),this];exact ac (by simp)
 exact this a.length fuel 0 (by omega) (cn (by omega))
end Go.VP
namespace Go.VP
open Go Go.VI
theorem fP6 {p most:Int} {l:List bD} (h:ej p most l=true):(d9 p l).2.2=0/\((d9 p l).1.length:Int)<=most:=by
 unfold ej at h; exact of_decide_eq_true h
end Go.VP
