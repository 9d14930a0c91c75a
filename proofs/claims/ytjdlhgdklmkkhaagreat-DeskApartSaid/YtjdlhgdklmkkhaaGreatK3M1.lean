import Derived.Test.YtjdlhgdklmkkhaaGreatK3FQ13
import Derived.Test.YtjdlhgdklmkkhaaGreatK3FQ14
import Derived.Test.YtjdlhgdklmkkhaaGreatK3FH
import Derived.Test.YtjdlhgdklmkkhaaGreatK3FQ9
import Derived.Test.YtjdlhgdklmkkhaaGreatK3M0
import Derived.Test.YtjdlhgdklmkkhaaGreatK3FQ0
import Derived.Test.YtjdlhgdklmkkhaaGreatK3FQ10
import Derived.Test.YtjdlhgdklmkkhaaGreatK3FQ11
set_option linter.unusedVariables false
set_option linter.unusedSimpArgs false
set_option maxRecDepth 100000
namespace Go.VP
open Go Go.VI
abbrev Raw:=ai4
abbrev dc5:Raw:=⟨0,0,0,0,0,0,0,0,[],[]⟩
abbrev rrd (d:Bs) (p:Int) (b:Bool):ac4:=⟨d,p,d.length,b⟩
theorem wfd {d:Bs} {p:Int} (h:d.length≤1000000) (h0:0≤p) (h1:p≤d.length):WfC d p d.length:=⟨h0,h1,by omega,by omega⟩
theorem bY6 {d:Bs} {p n:Int} (h:d.length≤1000000) (h0:0≤p) (hn:1≤n∧n≤7) (h2:p+n≤d.length):ad0 (rrd d p false,n,())=some ((num (aa2 d p n),()),(rrd d (p+n) false,())):=by
 rw [bn9,as2 (wfd h h0 (by omega)) hn.1 hn.2 h2]; rfl
theorem eB9 {d:Bs} {p n:Int} {b:Bool} (h:d.length≤1000000) (h0:0≤p) (h1:p≤d.length) (hn:1≤n∧n≤7) (h2:b=true∨(d.length:Int) < p+n):ad0 (rrd d p b,n,())=some ((0,()),(rrd d p true,())):=by
 rw [bn9,bZ5 (wfd h h0 h1) hn.1 hn.2 h2]; rfl
theorem dZ3 {d:Bs} {p n:Int} (h:d.length≤1000000) (h0:0≤p) (hn:0≤n) (h2:p+n≤d.length):ai1 (rrd d p false,n,())=some ((aa2 d p n,()),(rrd d (p+n) false,())):=by
 rw [bg7,av6 (wfd h h0 (by omega)) hn h2]; rfl
theorem ef0 {d:Bs} {p n:Int} {b:Bool} (h:d.length≤1000000) (h0:0≤p) (h1:p≤d.length) (h2:b=true∨n < 0∨(d.length:Int) < p+n):ai1 (rrd d p b,n,())=some (([],()),(rrd d p true,())):=by
 rw [bg7,bl0 (wfd h h0 h1) h2]; rfl
theorem aE6 {d:Bs} {p n:Int} {b:Bool} (h:d.length≤1000000) (h0:0≤p) (h1:p≤d.length) (hn:1≤n∧n≤7):∃ v q c,ad0 (rrd d p b,n,())=some ((v,()),(rrd d q c,()))∧0≤q∧q≤d.length∧(c=false→b=false∧q=p+n)∧(0≤v):=by
 by_cases hb:b=true
 ·exact ⟨_,_,_,eB9 h h0 h1 hn (.inl hb),h0,h1,(fun h=>by cases h),by omega⟩
 ·rw [Bool.not_eq_true] at hb
  subst hb
  by_cases hl:p+n≤d.length
  ·exact ⟨_,_,_,bY6 h h0 hn hl,by omega,hl,fun _=>⟨rfl,rfl⟩,(aR4 _).1⟩
  ·exact ⟨_,_,_,eB9 h h0 h1 hn (.inr (by omega)),h0,h1,(fun h=>by cases h),by omega⟩
theorem fa5 {d:Bs} {p n:Int} {b:Bool} (h:d.length≤1000000) (h0:0≤p) (h1:p≤d.length) (hn:0≤n):∃ v q c,ai1 (rrd d p b,n,())=some ((v,()),(rrd d q c,()))∧0≤q∧q≤d.length∧(c=false→b=false∧q=p+n):=by
 by_cases hb:b=true
 ·exact ⟨_,_,_,ef0 h h0 h1 (.inl hb),h0,h1,fun h=>by cases h⟩
 ·rw [Bool.not_eq_true] at hb
  subst hb
  by_cases hl:p+n≤d.length
  ·exact ⟨_,_,_,dZ3 h h0 hn hl,by omega,hl,fun _=>⟨rfl,rfl⟩⟩
  ·exact ⟨_,_,_,ef0 h h0 h1 (.inr (.inr (by omega))),h0,h1,fun h=>by cases h⟩
def as3 (ae plen:Int):Bool:=!decide (aY3 ae≤plen∧plen≤ay5 ae)
def ah1 (ae plen om:Int):Int:=ad9 plen - ag2 ae - om
def am7 (d:Bs) (p ae plen om:Int):Bs × Int:=if as3 ae plen=true∨ah1 ae plen om < 0 then ([],6) else if (d.length:Int) < p+ah1 ae plen om then ([],2) else (aa2 d p (ah1 ae plen om),0)
theorem et6 {n:Int} (h:0≤n∧n≤255):0≤ad9 n∧ad9 n≤32:=by unfold ad9; split <;> omega
theorem bo4 (ae:Int):0≤ag2 ae∧ag2 ae≤8:=by unfold ag2; split <;> (try split) <;> (try split) <;> omega
theorem ef1 {d:Bs} {p ae plen om:Int} (h:d.length≤1000000) (h0:0≤p) (h1:p≤d.length) (hae:0≤ae∧ae < 4) (hp:0≤plen∧plen≤255) (ho:0≤om∧om≤255) :
  ∃ r,ak3 (rrd d p false,ae,plen,om,())=some (((am7 d p ae plen om).1,(am7 d p ae plen om).2,()),(r,()))∧((am7 d p ae plen om).2=0→r=rrd d (p+ah1 ae plen om) false∧0≤ah1 ae plen om∧p+ah1 ae plen om≤d.length):=by
 have hl:=et6 hp
 have hb:=bo4 ae
 rw [ci7,aH5,Option.bind_some,if_pos hae,ee2 (by omega),Option.bind_some]
 change ∃ r,(if decide (plen < aY3 ae)=true then _ else (if decide (ay5 ae < plen)=true then _ else (if decide (IntKind.wrap .i64 (IntKind.wrap .i64 (ad9 plen - ag2 ae) - om) < 0)=true then _ else ((ai1 (rrd d p false,IntKind.wrap .i64 (IntKind.wrap .i64 (ad9 plen - ag2 ae) - om),())).bind fun r3=>(if r3.2.1.c_Bad=true then some ((([]:List UInt8),2,()),(r3.2.1,())) else some ((r3.1.1,0,()),(r3.2.1,())))))))=_∧_
 rw [w64 (x:=ad9 plen - ag2 ae) (by omega) (by omega),w64 (by omega) (by omega)]
 unfold am7 as3
 by_cases c1:plen < aY3 ae
 ·have e:(!decide (aY3 ae≤plen∧plen≤ay5 ae))=true:=by simp; omega
  rw [ifd c1,if_pos (.inl e)]; exact ⟨_,rfl,fun h=>by cases h⟩
 by_cases c2:ay5 ae < plen
 ·have e:(!decide (aY3 ae≤plen∧plen≤ay5 ae))=true:=by simp; omega
  rw [ifn c1,ifd c2,if_pos (.inl e)]; exact ⟨_,rfl,fun h=>by cases h⟩
 have e:¬(!decide (aY3 ae≤plen∧plen≤ay5 ae))=true:=by simp; omega
 rw [ifn c1,ifn c2]
 have er:ad9 plen - ag2 ae - om=ah1 ae plen om:=rfl
 rw [er]
 by_cases c3:ah1 ae plen om < 0
 ·rw [ifd c3,if_pos (.inr c3)]; exact ⟨_,rfl,fun h=>by cases h⟩
 ·rw [ifn c3,if_neg (fun h=>h.elim e c3)]
  by_cases c4:(d.length:Int) < p+ah1 ae plen om
  ·rw [if_pos c4,ef0 h h0 h1 (.inr (.inr c4)),Option.bind_some]; exact ⟨_,rfl,fun h=>by cases h⟩
  ·rw [if_neg c4,dZ3 h h0 (by omega) (by omega),Option.bind_some]; exact ⟨_,rfl,fun _=>⟨rfl,by omega,by omega⟩⟩
theorem dM4 {d:Bs} {p:Int} (h:d.length≤1000000) (h0:0≤p) (h1:p≤d.length):∃ r,al7 (rrd d p false,())=some (ag4 (ar7 (d.drop p.toNat)),(r,())):=by
 have e:aa2 d p ((d.length:Int) - p)=d.drop p.toNat:=by
  unfold aa2
  rw [show (p+((d.length:Int) - p)).toNat=d.length by omega,List.take_length]
 rw [cv7,df1 (wfd h h0 h1),Option.bind_some]
 dsimp only
 rw [dZ3 h h0 (by omega) (by omega),Option.bind_some]
 dsimp only
 rw [e,bZ8 (by simp; omega)]
 exact ⟨_,rfl⟩
def al1 (ae:Int) (b:Bs) (plen:Int):Bs:=ai2 (if ae=3 then an6++aH7 b 8 else aH7 b (szA ae)) plen
theorem aj2 (s:Bs) (n:Int):(aH7 s n).length=max s.length n.toNat:=by unfold aH7; simp; omega
theorem ef2 {ae plen:Int} {b:Bs} (hae:0≤ae∧ae < 4) (hp:IntKind.has .i64 plen) (hb:b.length≤1000) (h3:ae=3→b.length≤8):aD2 (ae,b,plen,())=some ((al1 ae b plen,()),()):=by
 rw [dq4,aH5,Option.bind_some,if_pos hae]
 change ((ap1 (b,IntKind.wrap .i64 (szA ae - ag2 ae),())).bind _)=_
 have hsz:0≤szA ae∧szA ae≤16:=by unfold szA; split <;> (try split) <;> (try split) <;> omega
 have hbs:=bo4 ae
 rw [w64 (by omega) (by omega),cC4 (by omega),Option.bind_some]
 unfold al1
 refine aa9 (fun h=>?_) (fun h=>?_)
 ·subst h
  have e:szA 3 - ag2 3=8:=rfl
  rw [e,bZ9,Option.bind_some,if_pos rfl]
  have hl:aC3 (aH7 b 8)=(an6++aH7 b 8,true):=by unfold aC3; rw [if_pos (by rw [aj2]; have:=h3 rfl; omega)]
  rw [hl,bo1 (by simp [aj2,an6]; omega) hp,Option.bind_some]
 ·have e:szA ae - ag2 ae=szA ae:=by
   rcases aY4 hae with rfl | rfl | rfl | rfl
   ·rfl
   ·rfl
   ·rfl
   ·exact absurd rfl h
  rw [e,if_neg h,bo1 (by rw [aj2]; omega) hp]; rfl
def aL2 (ty:Int) (d:Bs):Msg × Bool × Int:=
 if (d.length:Int) < (if ty=10 then 14 else 2) then (aS9,false,2)
 else if 3 < bt d 0 then (aS9,false,0)
 else
  let p:Int:=if ty=10 then 14 else 2
  let b:=am7 d p (bt d 0) (bt d 1) 0
  if b.2≠0 then (aS9,false,b.2)
  else
   let x:=ar7 (d.drop (p+ah1 (bt d 0) (bt d 1) 0).toNat)
   if x.2.2≠0∨x.2.1=false then (aS9,false,x.2.2)
   else if ty=10 then (if bt d 0=0∨bt d 4=0 then (aS9,false,0) else (⟨13,0,0,[],0,bt d 0,al1 (bt d 0) b.1 (bt d 1),bt d 1,0,[],0,aa2 d 6 8,num (aa2 d 2 2),0,0,0,bt d 4,0,0,[],[],[],0,[],x.1⟩,true,0))
   else (⟨12,0,0,[],0,bt d 0,al1 (bt d 0) b.1 (bt d 1),bt d 1,0,[],0,[],0,0,0,0,0,0,0,[],[],[],0,[],x.1⟩,true,0)
theorem bM1 {ae plen:Int} (hae:0≤ae∧ae < 4) (hg:as3 ae plen=false):0≤ah1 ae plen 0∧ah1 ae plen 0≤16∧(ae=0→ah1 ae plen 0=0)∧(ae=3→ah1 ae plen 0≤8)∧(0≤plen∧plen≤128):=by
 unfold as3 at hg
 have hp:aY3 ae≤plen∧plen≤ay5 ae:=by simpa using hg
 obtain ⟨h1,h2,h3,h4,h5,h6⟩:=at9 hae hp
 unfold ah1
 refine ⟨by omega,by omega,fun h=>?_,fun h=>?_,h4,h5⟩
 ·subst h; have:szA 0=0:=rfl; omega
 ·subst h; have:szA 3=16:=rfl; have:ag2 3=8:=rfl; omega
theorem dM5 {d:Bs} {p ae plen:Int} (hae:0≤ae∧ae < 4) (h0:0≤p) (h:(am7 d p ae plen 0).2=0):(am7 d p ae plen 0).1=aa2 d p (ah1 ae plen 0)∧as3 ae plen=false∧p+ah1 ae plen 0≤d.length∧((am7 d p ae plen 0).1.length:Int)=ah1 ae plen 0:=by
 unfold am7 at h ⊢
 split at h
 ·cases h
 ·rename_i hg
  have hg':as3 ae plen=false:=by
   cases hx:as3 ae plen with
   | false=>rfl
   | true=>exact absurd (.inl hx) hg
  have:=bM1 hae hg'
  split at h
  ·cases h
  ·rename_i hl
   rw [if_neg hg,if_neg hl]
   exact ⟨rfl,hg',by omega,ah7 h0 (by omega) (by omega)⟩
theorem dc6 {d:Bs} {p ae plen om:Int} (h:as3 ae plen=false) (h0:0≤ah1 ae plen om) (h2:¬(d.length:Int) < p+ah1 ae plen om):am7 d p ae plen om=(aa2 d p (ah1 ae plen om),0):=by
 unfold am7; rw [h,if_neg (by simp; omega),if_neg h2]
theorem bd3 {d:Bs} {p:Nat} {q:Int} (hq:q=p) (h:p+1≤d.length):num (aa2 d q 1)=bt d p:=by subst hq; exact cv9 h
theorem en9 {ty at_:Int} {d:Bs} (hd:d.length≤1000) (ht:ty=9∨ty=10):bg6 (⟨ty,at_,d⟩,())=some (ag4 (aL2 ty d),()):=by
 have b0:=ae6 d 0
 have b1:=ae6 d 1
 have b4:=ae6 d 4
 have nw:=bw0 d
 rw [dK0]
 dsimp only
 rw [nw,Option.bind_some]
 dsimp only
 rcases ht with rfl | rfl
 ·by_cases hl:(d.length:Int) < 2
  ·obtain ⟨v1,q1,c1,e1,k1,k2,k3,k4⟩:=aE6 (d:=d) (p:=0) (n:=1) (b:=false) (by omega) (by omega) (by omega) (by omega)
   obtain ⟨v2,q2,c2,e2,l1,l2,l3,l4⟩:=aE6 (d:=d) (p:=q1) (n:=1) (b:=c1) (by omega) k1 k2 (by omega)
   have hc:c2=true:=by
    cases c2 with
    | true=>rfl
    | false=>
     obtain ⟨rfl,g2⟩:=l3 rfl
     obtain ⟨_,g3⟩:=k3 rfl
     omega
   rw [e1,Option.bind_some]; dsimp only
   rw [e2,Option.bind_some]; dsimp only
   rw [if_neg (show ¬((9:Int)==10)=true by decide),if_pos hc]
   unfold aL2
   rw [if_neg (show ¬(9:Int)=10 by decide),if_pos hl]
  ·rw [bY6 (by omega) (by omega) (by omega) (by omega),Option.bind_some]; dsimp only
   rw [bY6 (by omega) (by omega) (by omega) (by omega),Option.bind_some]; dsimp only
   rw [if_neg (show ¬((9:Int)==10)=true by decide),at2,bd3 (p:=0) (q:=0) rfl (by omega),bd3 (p:=1) (q:=0+1) rfl (by omega)]
   unfold aL2
   rw [if_neg (show ¬(9:Int)=10 by decide),if_neg hl]
   by_cases ha:3 < bt d 0
   ·rw [ifd ha,if_pos ha]
   ·have hae:0≤bt d 0∧bt d 0 < 4:=by omega
    rw [ifn ha,if_neg ha]
    obtain ⟨r,e3,e4⟩:=ef1 (d:=d) (p:=0+1+1) (ae:=bt d 0) (plen:=bt d 1) (om:=0) (by omega) (by omega) (by omega) hae (by omega) (by omega)
    rw [e3,Option.bind_some]
    dsimp only
    rw [show (0:Int)+1+1=2 from rfl] at e4 ⊢
    by_cases hp:(am7 d 2 (bt d 0) (bt d 1) 0).2=0
    ·obtain ⟨f1,f2,f3,f4⟩:=dM5 hae (by omega) hp
     have f5:=bM1 hae f2
     obtain ⟨rfl,g1,g2⟩:=e4 hp
     obtain ⟨r',e5⟩:=dM4 (d:=d) (p:=2+ah1 (bt d 0) (bt d 1) 0) (by omega) (by omega) g2
     rw [hp,if_neg (show ¬((0:Int) != 0)=true by decide),if_neg (show ¬(0:Int)≠0 by decide),e5,Option.bind_some]
     dsimp only [ag4]
     rw [ef2 hae (af2.2 (by omega)) (by omega) (by omega),Option.bind_some]
     generalize ar7 (d.drop (2+ah1 (bt d 0) (bt d 1) 0).toNat)=x
     obtain ⟨x1,x2,x3⟩:=x
     dsimp only
     by_cases hx:x3=0
     ·subst hx
      cases x2
      ·rfl
      ·rfl
     ·rw [if_pos (show (x3 != 0)=true by simp [hx]),if_pos (.inl hx)]
    ·rw [if_pos (show ((am7 d 2 (bt d 0) (bt d 1) 0).2 != 0)=true by simp [hp]),if_pos hp]
 ·by_cases hl:(d.length:Int) < 14
  ·obtain ⟨v1,q1,c1,e1,k1,k2,k3,k4⟩:=aE6 (d:=d) (p:=0) (n:=1) (b:=false) (by omega) (by omega) (by omega) (by omega)
   obtain ⟨v2,q2,c2,e2,l1,l2,l3,l4⟩:=aE6 (d:=d) (p:=q1) (n:=1) (b:=c1) (by omega) k1 k2 (by omega)
   obtain ⟨v3,q3,c3,e3,m1,m2,m3,m4⟩:=aE6 (d:=d) (p:=q2) (n:=2) (b:=c2) (by omega) l1 l2 (by omega)
   obtain ⟨v4,q4,c4,e4,n1,n2,n3,n4⟩:=aE6 (d:=d) (p:=q3) (n:=1) (b:=c3) (by omega) m1 m2 (by omega)
   obtain ⟨v5,q5,c5,e5,o1,o2,o3,o4⟩:=aE6 (d:=d) (p:=q4) (n:=1) (b:=c4) (by omega) n1 n2 (by omega)
   obtain ⟨v6,q6,c6,e6,p1,p2,p3⟩:=fa5 (d:=d) (p:=q5) (n:=8) (b:=c5) (by omega) o1 o2 (by omega)
   have hc:c6=true:=by
    cases c6 with
    | true=>rfl
    | false=>
     obtain ⟨rfl,g2⟩:=p3 rfl
     obtain ⟨rfl,g3⟩:=o3 rfl
     obtain ⟨rfl,g4⟩:=n3 rfl
     obtain ⟨rfl,g5⟩:=m3 rfl
     obtain ⟨rfl,g6⟩:=l3 rfl
     obtain ⟨_,g7⟩:=k3 rfl
     omega
   rw [e1,Option.bind_some]; dsimp only
   rw [e2,Option.bind_some]; dsimp only
   rw [if_pos (show ((10:Int)==10)=true from rfl),e3,Option.bind_some]; dsimp only
   rw [e4,Option.bind_some]; dsimp only
   rw [e5,Option.bind_some]; dsimp only
   rw [e6,Option.bind_some]; dsimp only
   rw [if_pos hc]
   unfold aL2
   rw [if_pos (show (10:Int)=10 from rfl),if_pos hl]
  ·rw [bY6 (by omega) (by omega) (by omega) (by omega),Option.bind_some]; dsimp only
   rw [bY6 (by omega) (by omega) (by omega) (by omega),Option.bind_some]; dsimp only
   rw [if_pos (show ((10:Int)==10)=true from rfl),bY6 (by omega) (by omega) (by omega) (by omega),Option.bind_some]; dsimp only
   rw [bY6 (by omega) (by omega) (by omega) (by omega),Option.bind_some]; dsimp only
   rw [bY6 (by omega) (by omega) (by omega) (by omega),Option.bind_some]; dsimp only
   rw [dZ3 (by omega) (by omega) (by omega) (by omega),Option.bind_some]; dsimp only
   rw [at2,bd3 (p:=0) (q:=0) rfl (by omega),bd3 (p:=1) (q:=0+1) rfl (by omega),bd3 (p:=4) (q:=0+1+1+2) rfl (by omega)]
   unfold aL2
   rw [if_pos (show (10:Int)=10 from rfl),if_neg hl]
   by_cases ha:3 < bt d 0
   ·rw [ifd ha,if_pos ha]
   ·have hae:0≤bt d 0∧bt d 0 < 4:=by omega
    rw [ifn ha,if_neg ha]
    obtain ⟨r,e3,e4⟩:=ef1 (d:=d) (p:=0+1+1+2+1+1+8) (ae:=bt d 0) (plen:=bt d 1) (om:=0) (by omega) (by omega) (by omega) hae (by omega) (by omega)
    rw [e3,Option.bind_some]
    dsimp only
    rw [show (0:Int)+1+1+2+1+1+8=14 from rfl] at e4 ⊢
    by_cases hp:(am7 d 14 (bt d 0) (bt d 1) 0).2=0
    ·obtain ⟨f1,f2,f3,f4⟩:=dM5 hae (by omega) hp
     have f5:=bM1 hae f2
     obtain ⟨rfl,g1,g2⟩:=e4 hp
     obtain ⟨r',e5⟩:=dM4 (d:=d) (p:=14+ah1 (bt d 0) (bt d 1) 0) (by omega) (by omega) g2
     rw [hp,if_neg (show ¬((0:Int) != 0)=true by decide),if_neg (show ¬(0:Int)≠0 by decide),e5,Option.bind_some]
     dsimp only [ag4]
     rw [ef2 hae (af2.2 (by omega)) (by omega) (by omega),Option.bind_some]
     generalize ar7 (d.drop (14+ah1 (bt d 0) (bt d 1) 0).toNat)=x
     obtain ⟨x1,x2,x3⟩:=x
     dsimp only
     by_cases hx:x3=0
     ·subst hx
      cases x2
      ·rfl
      ·rw [if_neg (show ¬((0:Int) != 0)=true by decide),ah3,if_neg (show ¬((0:Int)≠0∨true=false) by decide),if_pos (show ((10:Int)==10)=true from rfl),if_pos (show (10:Int)=10 from rfl)]
       by_cases h0:bt d 0=0
       ·rw [if_pos (show (bt d 0==0)=true by simp [h0]),if_pos (show bt d 0=0∨bt d 4=0 from .inl h0)]
       ·rw [if_neg (show ¬(bt d 0==0)=true by simp [h0])]
        by_cases h4:bt d 4=0
        ·rw [if_pos (show (bt d 4==0)=true by simp [h4]),if_pos (show bt d 0=0∨bt d 4=0 from .inr h4)]
        ·rw [if_neg (show ¬(bt d 4==0)=true by simp [h4]),if_neg (show ¬(bt d 0=0∨bt d 4=0) from fun h=>h.elim h0 h4)]
         rfl
     ·rw [if_pos (show (x3 != 0)=true by simp [hx]),if_pos (.inl hx)]
    ·rw [if_pos (show ((am7 d 14 (bt d 0) (bt d 1) 0).2 != 0)=true by simp [hp]),if_pos hp]
end Go.VP
namespace Go.VP
open Go Go.VI
def ae7 (d:Bs):Raw × Bool × Int:=
 if (d.length:Int) < 10 then (dc5,false,2)
 else if 3 < bt d 0 then (dc5,false,0)
 else
  let b:=am7 d 10 (bt d 0) (bt d 2) (bt d 3)
  if b.2≠0 then (dc5,false,b.2)
  else
   let x:=ar7 (d.drop (10+ah1 (bt d 0) (bt d 2) (bt d 3)).toNat)
   if x.2.2≠0 then (dc5,false,x.2.2)
   else (⟨bt d 0,bt d 1,bt d 2,bt d 3,num (aa2 d 4 2),num (aa2 d 6 2),num (aa2 d 8 2),if x.2.1=true then 1 else 0,b.1,x.1⟩,true,0)
theorem eU5 {ty at_:Int} {d:Bs} (hd:d.length≤1000):bu5 (⟨ty,at_,d⟩,())=some (ag4 (ae7 d),()):=by
 have b0:=ae6 d 0
 have b2:=ae6 d 2
 have b3:=ae6 d 3
 obtain ⟨c,hc⟩:=dq8
 have f4:fuel=(c+999999999995)+5:=by omega
 have f3:fuel=(c+999999999996)+4:=by omega
 have nw:=bw0 d
 have st0:∀ (k:Nat) (a b e f:Int) (s:Bs) (p q:Int) (x:Bool) (i:Int),i < 4→True:=fun _ _ _ _ _ _ _ _ _ _ _=>trivial
 obtain ⟨v1,q1,c1,e1,j1,k1,l1,_⟩:=aE6 (d:=d) (p:=0) (n:=1) (b:=false) (by omega) (by omega) (by omega) (by omega)
 obtain ⟨v2,q2,c2,e2,j2,k2,l2,_⟩:=aE6 (d:=d) (p:=q1) (n:=1) (b:=c1) (by omega) j1 k1 (by omega)
 obtain ⟨v3,q3,c3,e3,j3,k3,l3,_⟩:=aE6 (d:=d) (p:=q2) (n:=1) (b:=c2) (by omega) j2 k2 (by omega)
 obtain ⟨v4,q4,c4,e4,j4,k4,l4,_⟩:=aE6 (d:=d) (p:=q3) (n:=1) (b:=c3) (by omega) j3 k3 (by omega)
 obtain ⟨v5,q5,c5,e5,j5,k5,l5,_⟩:=aE6 (d:=d) (p:=q4) (n:=2) (b:=c4) (by omega) j4 k4 (by omega)
 obtain ⟨v6,q6,c6,e6,j6,k6,l6,_⟩:=aE6 (d:=d) (p:=q5) (n:=2) (b:=c5) (by omega) j5 k5 (by omega)
 obtain ⟨v7,q7,c7,e7,j7,k7,l7,_⟩:=aE6 (d:=d) (p:=q6) (n:=2) (b:=c6) (by omega) j6 k6 (by omega)
 have w1:∀ i:Int,0≤i→i < 100→IntKind.wrap .i64 (i+1)=i+1:=fun i h0 h1=>w64 (by omega) (by omega)
 have run:bu5 (⟨ty,at_,d⟩,())=(if c7=true then some ((dc5,false,2,()),()) else (if (decide (3 < v1))=true then some ((dc5,false,0,()),()) else ((ak3 (rrd d q7 c7,v1,v3,v4,())).bind fun r9=>(if (r9.1.2.1 != 0)=true then some ((dc5,false,r9.1.2.1,()),()) else ((al7 (r9.2.1,())).bind fun r10=>(if (r10.1.2.2.1 != 0)=true then some ((dc5,false,r10.1.2.2.1,()),()) else (if r10.1.2.1=true then some (((ai4.mk v1 v2 v3 v4 v5 v6 v7 1 r9.1.1 r10.1.1),true,0,()),()) else some (((ai4.mk v1 v2 v3 v4 v5 v6 v7 0 r9.1.1 r10.1.1),true,0,()),())))))))):=by
  show ch0 fuel _=_
  rw [dB1]
  dsimp only
  rw [nw,Option.bind_some]
  dsimp only
  have z:∀ n:Nat,aq0 n fuel 0 0 0 0 d 0 d.length false 0=aq0 n ((c+999999999995)+5) 0 0 0 0 d 0 d.length false 0:=fun n=>by rw [← f4]
  have z2:∀ n:Nat,at0 n fuel v1 v2 v3 v4 0 0 0 d q4 d.length c4 0=at0 n ((c+999999999996)+4) v1 v2 v3 v4 0 0 0 d q4 d.length c4 0:=fun n=>by rw [← f3]
  rw [z,ax3,if_pos (show decide ((0:Int) < 4)=true from rfl),if_pos (show (0:Int)=0 from rfl),e1,Option.bind_some,w1 0 (by omega) (by omega)]
  dsimp only
  rw [ax3,if_pos (show decide ((0:Int)+1 < 4)=true from rfl),if_neg (show ¬(0:Int)+1=0 by decide),if_pos (show (0:Int)+1=1 from rfl),e2,Option.bind_some,w1 (0+1) (by omega) (by omega)]
  dsimp only
  rw [ax3,if_pos (show decide ((0:Int)+1+1 < 4)=true from rfl),if_neg (show ¬(0:Int)+1+1=0 by decide),if_neg (show ¬(0:Int)+1+1=1 by decide),if_pos (show (0:Int)+1+1=2 from rfl),e3,Option.bind_some,w1 (0+1+1) (by omega) (by omega)]
  dsimp only
  rw [ax3,if_pos (show decide ((0:Int)+1+1+1 < 4)=true from rfl),if_neg (show ¬(0:Int)+1+1+1=0 by decide),if_neg (show ¬(0:Int)+1+1+1=1 by decide),if_neg (show ¬(0:Int)+1+1+1=2 by decide),if_pos (show (0:Int)+1+1+1=3 from rfl),e4,Option.bind_some,w1 (0+1+1+1) (by omega) (by omega)]
  dsimp only
  rw [ax3,if_neg (show ¬decide ((0:Int)+1+1+1+1 < 4)=true by decide),z2,aH6,if_pos (show decide ((0:Int) < 3)=true from rfl),if_pos (show (0:Int)=0 from rfl),e5,Option.bind_some,w1 0 (by omega) (by omega)]
  dsimp only
  rw [aH6,if_pos (show decide ((0:Int)+1 < 3)=true from rfl),if_neg (show ¬(0:Int)+1=0 by decide),if_pos (show (0:Int)+1=1 from rfl),e6,Option.bind_some,w1 (0+1) (by omega) (by omega)]
  dsimp only
  rw [aH6,if_pos (show decide ((0:Int)+1+1 < 3)=true from rfl),if_neg (show ¬(0:Int)+1+1=0 by decide),if_neg (show ¬(0:Int)+1+1=1 by decide),if_pos (show (0:Int)+1+1=2 from rfl),e7,Option.bind_some,w1 (0+1+1) (by omega) (by omega)]
  dsimp only
  rw [aH6,if_neg (show ¬decide ((0:Int)+1+1+1 < 3)=true by decide)]
 rw [run]
 unfold ae7
 by_cases hl:(d.length:Int) < 10
 ·have hc7:c7=true:=by
   cases c7 with
   | true=>rfl
   | false=>
    obtain ⟨rfl,g7⟩:=l7 rfl
    obtain ⟨rfl,g6⟩:=l6 rfl
    obtain ⟨rfl,g5⟩:=l5 rfl
    obtain ⟨rfl,g4⟩:=l4 rfl
    obtain ⟨rfl,g3⟩:=l3 rfl
    obtain ⟨rfl,g2⟩:=l2 rfl
    obtain ⟨_,g1⟩:=l1 rfl
    omega
  rw [if_pos hc7,if_pos hl]
 ·
  have one:∀ {p n v q:Int} {c:Bool},ad0 (rrd d p false,n,())=some ((v,()),(rrd d q c,()))→0≤p→(1≤n∧n≤7)→p+n≤d.length→v=num (aa2 d p n)∧q=p+n∧c=false:=by
   intro p n v q c h h0 hn hl
   rw [bY6 (by omega) h0 hn hl] at h
   simp only [Option.some.injEq,Prod.mk.injEq,and_true,ac4.mk.injEq,true_and] at h
   exact ⟨h.1.symm,h.2.1.symm,h.2.2.symm⟩
  obtain ⟨rfl,rfl,rfl⟩:=one e1 (by omega) (by omega) (by omega)
  obtain ⟨rfl,rfl,rfl⟩:=one e2 (by omega) (by omega) (by omega)
  obtain ⟨rfl,rfl,rfl⟩:=one e3 (by omega) (by omega) (by omega)
  obtain ⟨rfl,rfl,rfl⟩:=one e4 (by omega) (by omega) (by omega)
  obtain ⟨rfl,rfl,rfl⟩:=one e5 (by omega) (by omega) (by omega)
  obtain ⟨rfl,rfl,rfl⟩:=one e6 (by omega) (by omega) (by omega)
  obtain ⟨rfl,rfl,rfl⟩:=one e7 (by omega) (by omega) (by omega)
  rw [at2,if_neg hl,bd3 (p:=0) (q:=0) rfl (by omega),bd3 (p:=1) (q:=0+1) rfl (by omega),bd3 (p:=2) (q:=0+1+1) rfl (by omega),bd3 (p:=3) (q:=0+1+1+1) rfl (by omega)]
  by_cases ha:3 < bt d 0
  ·rw [ifd ha,if_pos ha]
  ·have hae:0≤bt d 0∧bt d 0 < 4:=by omega
   obtain ⟨r,e3,e4⟩:=ef1 (d:=d) (p:=0+1+1+1+1+2+2+2) (ae:=bt d 0) (plen:=bt d 2) (om:=bt d 3) (by omega) (by omega) (by omega) hae (by omega) (by omega)
   rw [ifn ha,if_neg ha,e3,Option.bind_some]
   dsimp only
   rw [show (0:Int)+1+1+1+1+2+2+2=10 from rfl] at e4 ⊢
   by_cases hp:(am7 d 10 (bt d 0) (bt d 2) (bt d 3)).2=0
   ·obtain ⟨rfl,g1,g2⟩:=e4 hp
    obtain ⟨r',e5⟩:=dM4 (d:=d) (p:=10+ah1 (bt d 0) (bt d 2) (bt d 3)) (by omega) (by omega) g2
    rw [hp,if_neg (show ¬((0:Int) != 0)=true by decide),if_neg (show ¬(0:Int)≠0 by decide),e5,Option.bind_some]
    dsimp only [ag4]
    generalize ar7 (d.drop (10+ah1 (bt d 0) (bt d 2) (bt d 3)).toNat)=x
    obtain ⟨x1,x2,x3⟩:=x
    dsimp only
    by_cases hx:x3=0
    ·subst hx
     cases x2 <;> rfl
    ·rw [if_pos (show (x3 != 0)=true by simp [hx]),if_pos hx]
   ·rw [if_pos (show ((am7 d 10 (bt d 0) (bt d 2) (bt d 3)).2 != 0)=true by simp [hp]),if_pos hp]
end Go.VP
namespace Go.VP
open Go Go.VI
theorem et7 (b k:Nat):bG8 (bG8 b k) k=bG8 b k:=by
 unfold bG8; rw [Nat.mul_div_cancel _ (Nat.pow_pos (by decide))]
theorem et8 (b:UInt8) (k:Int):bG9 (bG9 b k) k=bG9 b k:=by
 apply UInt8.toNat.inj; rw [bh0,bh0,et7]
theorem bY7:∀ (s:Bs) (n:Int),ai2 (ai2 s n) n=ai2 s n
 | [],_=>rfl
 | b::r,n=>by simp only [ai2,et8,bY7 r]
theorem dR2:an6.length=8:=rfl
theorem eC0 {x:Bs} {n:Int} (h:64≤n) (hx:x.length=8):aj0 (ai2 (an6++x) n)=true:=by
 rw [bw2,cp5 (s:=an6) (by rw [dR2]; omega)]
 exact dQ7 (by rw [aY1]; exact hx)
theorem cJ4 {ae plen:Int} {b:Bs} (hae:0≤ae∧ae < 4) (hb:(b.length:Int)≤szA ae - ag2 ae):((al1 ae b plen).length:Int)=szA ae:=by
 unfold al1
 rw [aY1]
 rcases aY4 hae with rfl | rfl | rfl | rfl
 ·have:(b.length:Int)≤0 - 0:=hb
  rw [if_neg (by decide),aj2]; show ((max b.length (0:Int).toNat:Nat):Int)=0; omega
 ·have:(b.length:Int)≤4 - 0:=hb
  rw [if_neg (by decide),aj2]; show ((max b.length (4:Int).toNat:Nat):Int)=4; omega
 ·have:(b.length:Int)≤16 - 0:=hb
  rw [if_neg (by decide),aj2]; show ((max b.length (16:Int).toNat:Nat):Int)=16; omega
 ·have:(b.length:Int)≤16 - 8:=hb
  rw [if_pos rfl,List.length_append,aj2,dR2]; show ((8+max b.length (8:Int).toNat:Nat):Int)=16; omega
theorem cw8 {plen:Int} {b:Bs} (h:64≤plen) (hb:b.length≤8):aj0 (al1 3 b plen)=true:=by
 unfold al1
 rw [if_pos rfl]
 exact eC0 h (by rw [aj2]; show max b.length 8=8; omega)
theorem el4 {a:Bs} {n:Int} (h:ai2 a n=a) (h0:0≤n):a=a.take (ad9 n).toNat++List.replicate (a.length - (ad9 n).toNat) 0∧cj1 a n=a.take (ad9 n).toNat:=by
 have hl:8 * ad9 n ≥ n:=by unfold ad9; rw [if_neg (by omega)]; omega
 have hn:=dQ8 n
 have e1:ai2 (a.take (ad9 n).toNat) n=a.take (ad9 n).toNat:=by rw [← et5,h]
 refine ⟨?_,e1⟩
 by_cases hs:(ad9 n).toNat≤a.length
 ·have e2:ai2 (a.drop (ad9 n).toNat) (n - 8 * (a.take (ad9 n).toNat).length)=a.drop (ad9 n).toNat:=by
   have:=h
   conv at this=>lhs; rw [← List.take_append_drop (ad9 n).toNat a]
   rw [bw2,e1] at this
   conv at this=>rhs; rw [← List.take_append_drop (ad9 n).toNat a]
   exact List.append_cancel_left this
  rw [bY3 (by rw [List.length_take]; omega),List.length_drop] at e2
  conv=>lhs; rw [← List.take_append_drop (ad9 n).toNat a,← e2]
 ·rw [List.take_of_length_le (by omega),show a.length - (ad9 n).toNat=0 by omega]; simp
theorem cw9 {m:Msg} (r:au7 m):al1 m.ae (ac5 m) m.plen=m.prefix_:=by
 obtain ⟨l1,l2,l3,l4,l5,l6⟩:=at9 r.ae r.plen
 obtain ⟨p1,p2⟩:=el4 r.clean l4
 have hlen:=r.len
 have key:(if m.ae=3 then an6++aH7 (ac5 m) 8 else aH7 (ac5 m) (szA m.ae))=m.prefix_:=by
  unfold ac5
  rw [p2]
  by_cases h3:m.ae=3
  ·have hb:=r.link h3
   have h16:=aA0 hb
   have e8:ag2 m.ae=8:=by rw [h3]; rfl
   rw [e8] at l2
   rw [if_pos h3,e8,← h16.2]
   have tl:(m.prefix_.take (ad9 m.plen).toNat).length=(ad9 m.plen).toNat:=by rw [List.length_take]; omega
   have e1:m.prefix_.take 8=(m.prefix_.take (ad9 m.plen).toNat).take 8:=by rw [List.take_take]; congr 1; omega
   unfold aH7
   rw [e1,← List.append_assoc]
   show List.take 8 (m.prefix_.take (ad9 m.plen).toNat)++List.drop 8 (m.prefix_.take (ad9 m.plen).toNat)++List.replicate ((8:Int).toNat - (List.drop 8 (m.prefix_.take (ad9 m.plen).toNat)).length) 0=_
   rw [List.take_append_drop,List.length_drop,tl]
   conv=>rhs; rw [p1]
   congr 2
   rw [h16.1]
   show 8 - ((ad9 m.plen).toNat - 8)=16 - (ad9 m.plen).toNat
   omega
  ·have e0:ag2 m.ae=0:=by
    rcases aY4 r.ae with h | h | h | h
    ·rw [h]; rfl
    ·rw [h]; rfl
    ·rw [h]; rfl
    ·exact absurd h h3
   rw [if_neg h3,e0]
   unfold aH7
   have tl:(m.prefix_.take (ad9 m.plen).toNat).length=(ad9 m.plen).toNat:=by rw [List.length_take]; omega
   show List.drop 0 (m.prefix_.take (ad9 m.plen).toNat)++List.replicate ((szA m.ae).toNat - (List.drop 0 (m.prefix_.take (ad9 m.plen).toNat)).length) 0=_
   rw [List.drop_zero,tl]
   conv=>rhs; rw [p1]
   congr 2
   omega
 unfold al1
 rw [key,r.clean]
theorem eo0 {m:Msg} (r:au7 m):as3 m.ae m.plen=false∧ah1 m.ae m.plen 0=(ac5 m).length:=by
 have:=r.cut.2
 refine ⟨by unfold as3; rw [decide_eq_true r.plen]; rfl,?_⟩
 unfold ah1; omega
theorem el5 {m:Msg} (r:au7 m):aL2 (if m.kind=13 then 10 else 9) (aC4 m++ab5 m.subs)=(m,true,0):=by
 obtain ⟨hr,hs⟩:=aK7 r.subs
 have hg:=db7 hr hs
 have hbare:=r.bare
 obtain ⟨l1,l2,l3,l4,l5,l6⟩:=at9 r.ae r.plen
 obtain ⟨q1,q2⟩:=eo0 r
 have eqm:∀ x,ah2 m=some x→x=m:=fun x h=>by rw [ag0,h] at hbare; exact aO2.1 hbare
 have uA:((aa1 m.ae).toNat:Int)=m.ae:=by rw [ai6,if_pos r.ae.1]; have:=r.ae; omega
 have uP:((aa1 m.plen).toNat:Int)=m.plen:=by rw [ai6,if_pos l4]; omega
 rcases r.kinds with hk | ⟨hk,ha,hq,hh,hi⟩
 ·have hx:=eqm _ (by unfold ah2; rw [if_neg (by omega),if_neg (by omega),if_neg (by omega),if_neg (by omega),if_neg (by omega),if_neg (by omega),if_neg (by omega),if_neg (by omega),if_neg (by omega),if_neg (by omega),if_neg (by omega),if_pos hk])
  have eh:aC4 m=aa1 m.ae::aa1 m.plen::ac5 m:=by unfold aC4; rw [if_neg (by omega)]
  rw [if_neg (show ¬m.kind=13 by omega),eh]
  generalize hD:(aa1 m.ae::aa1 m.plen::ac5 m)++ab5 m.subs=D
  have hlen:D.length=2+(ac5 m).length+(ab5 m.subs).length:=by rw [← hD]; simp; omega
  have t0:bt D 0=m.ae:=by rw [← hD]; exact uA
  have t1:bt D 1=m.plen:=by rw [← hD]; exact uP
  have hp:am7 D 2 m.ae m.plen 0=(ac5 m,0):=by
   rw [dc6 q1 (by omega) (by omega),q2]
   have:aa2 D 2 ((ac5 m).length:Int)=ac5 m:=by
    rw [← hD]
    show aa2 ([aa1 m.ae,aa1 m.plen]++(ac5 m++ab5 m.subs)) 2 _=_
    rw [an5 (k:=2) rfl (by omega) (by omega)]
    exact aK8 rfl
   rw [this]
  have hdr:D.drop (2+ah1 m.ae m.plen 0).toNat=ab5 m.subs:=by
   rw [← hD,q2]
   exact List.drop_left' (by simp; omega)
  unfold aL2
  rw [if_neg (show ¬(9:Int)=10 by decide),if_neg (by omega),t0,t1,if_neg (by have:=r.ae; omega)]
  dsimp only
  rw [hp,hdr,hg]
  dsimp only
  rw [if_neg (show ¬(0:Int)≠0 by decide),if_neg (show ¬((0:Int)≠0∨true=false) by decide),if_neg (show ¬(9:Int)=10 by decide),cw9 r]
  rw [hk] at hx
  rw [hx]
 ·have hx:=eqm _ (by unfold ah2; rw [if_neg (by omega),if_neg (by omega),if_neg (by omega),if_neg (by omega),if_neg (by omega),if_neg (by omega),if_neg (by omega),if_neg (by omega),if_neg (by omega),if_neg (by omega),if_neg (by omega),if_neg (by omega),if_pos hk])
  have uH:((aa1 m.hops).toNat:Int)=m.hops:=by rw [ai6,if_pos (by omega)]; omega
  have eh:aC4 m=aa1 m.ae::aa1 m.plen::(be 2 m.seq++(aa1 m.hops::0::(m.id++ac5 m))):=by unfold aC4; rw [if_pos hk]
  rw [if_pos hk,eh]
  generalize hD:(aa1 m.ae::aa1 m.plen::(be 2 m.seq++(aa1 m.hops::0::(m.id++ac5 m))))++ab5 m.subs=D
  have hlen:D.length=14+(ac5 m).length+(ab5 m.subs).length:=by rw [← hD]; simp [ab6]; omega
  have t0:bt D 0=m.ae:=by rw [← hD]; exact uA
  have t1:bt D 1=m.plen:=by rw [← hD]; exact uP
  have t4:bt D 4=m.hops:=by rw [← hD]; exact uH
  have e6:D=[aa1 m.ae,aa1 m.plen]++(be 2 m.seq++([aa1 m.hops,0]++(m.id++(ac5 m++ab5 m.subs)))):=by rw [← hD]; simp
  have cs:aa2 D 2 2=be 2 m.seq:=by
   rw [e6,an5 (k:=2) rfl (by omega) (by omega)]; exact aK8 rfl
  have ci:aa2 D 6 8=m.id:=by
   rw [e6,an5 (k:=2) rfl (by omega) (by omega),an5 (k:=2) rfl (by omega) (by omega),an5 (k:=2) rfl (by omega) (by omega)]; exact aK8 (by omega)
  have hp:am7 D 14 m.ae m.plen 0=(ac5 m,0):=by
   rw [dc6 q1 (by omega) (by omega),q2]
   have:aa2 D 14 ((ac5 m).length:Int)=ac5 m:=by
    rw [e6,an5 (k:=2) rfl (by omega) (by omega),an5 (k:=2) rfl (by omega) (by omega),an5 (k:=2) rfl (by omega) (by omega),an5 (k:=8) hi (by omega) (by omega)]; exact aK8 rfl
   rw [this]
  have hdr:D.drop (14+ah1 m.ae m.plen 0).toNat=ab5 m.subs:=by
   rw [← hD,q2]
   exact List.drop_left' (by simp [ab6]; omega)
  unfold aL2
  rw [if_pos (show (10:Int)=10 from rfl),if_neg (by omega),t0,t1,t4,if_neg (by have:=r.ae; omega)]
  dsimp only
  rw [hp,hdr,hg,cs,ci,aA3 hq]
  dsimp only
  rw [if_neg (show ¬(0:Int)≠0 by decide),if_neg (show ¬((0:Int)≠0∨true=false) by decide),if_pos (show (10:Int)=10 from rfl),if_neg (show ¬(m.ae=0∨m.hops=0) by omega),cw9 r]
  rw [hk] at hx
  rw [hx]
theorem ef3 {ty:Int} {d:Bs} (ht:ty=9∨ty=10) (hd:d.length≤300) :
  (∃ m,aL2 ty d=(m,true,0)∧au7 m∧bw4 m∧(aC4 m++ab5 m.subs).length≤d.length∧m.kind=ty+3)∨(∃ e,aL2 ty d=(aS9,false,e)):=by
 have b0:=ae6 d 0
 have b1:=ae6 d 1
 have b4:=ae6 d 4
 unfold aL2
 by_cases hl:(d.length:Int) < (if ty=10 then 14 else 2)
 ·rw [if_pos hl]; exact .inr ⟨_,rfl⟩
 rw [if_neg hl]
 by_cases ha:3 < bt d 0
 ·rw [if_pos ha]; exact .inr ⟨_,rfl⟩
 rw [if_neg ha]
 have hae:0≤bt d 0∧bt d 0 < 4:=by omega
 dsimp only
 have hp0:(0:Int)≤(if ty=10 then 14 else 2)∧(if ty=10 then (14:Int) else 2)≤14:=by split <;> omega
 generalize hP:(if ty=10 then (14:Int) else 2)=P at *
 by_cases hb:(am7 d P (bt d 0) (bt d 1) 0).2≠0
 ·rw [if_pos hb]; exact .inr ⟨_,rfl⟩
 rw [if_neg hb]
 have hb:(am7 d P (bt d 0) (bt d 1) 0).2=0:=by simpa using hb
 obtain ⟨f1,f2,f3,f4⟩:=dM5 hae hp0.1 hb
 have f5:=bM1 hae f2
 have hpl:aY3 (bt d 0)≤bt d 1∧bt d 1≤ay5 (bt d 0):=by unfold as3 at f2; simpa using f2
 obtain ⟨l1,l2,l3,l4,l5,l6⟩:=at9 hae hpl
 have hrn:ah1 (bt d 0) (bt d 1) 0=ad9 (bt d 1) - ag2 (bt d 0):=by unfold ah1; omega
 rcases cI6 (d.drop (P+ah1 (bt d 0) (bt d 1) 0).toNat) with ⟨l,hg,hA,hS,hL,hN⟩ | ⟨l,hg⟩ | ⟨e,hg,_⟩
 ·rw [hg]
  dsimp only
  rw [if_neg (show ¬((0:Int)≠0∨true=false) by decide)]
  have wl:=cJ4 (plen:=bt d 1) (b:=(am7 d P (bt d 0) (bt d 1) 0).1) hae (by omega)
  have wc:ai2 (al1 (bt d 0) (am7 d P (bt d 0) (bt d 1) 0).1 (bt d 1)) (bt d 1)=al1 (bt d 0) (am7 d P (bt d 0) (bt d 1) 0).1 (bt d 1):=bY7 _ _
  have wk:bt d 0=3→aj0 (al1 (bt d 0) (am7 d P (bt d 0) (bt d 1) 0).1 (bt d 1))=true:=fun h=>by
   rw [h] at hpl ⊢
   have h8:=f5.2.2.2.1 h
   rw [h] at f4 h8
   exact cw8 hpl.1 (by omega)
  have bare:∀ m:Msg,ah2 m=some m→ag0 m=true:=fun m h=>by rw [ag0,h]; exact an3 m
  have sub2:=bo2 (l:=l)
  have hle:=aR5 l
  have n1000:([]:List aY0).length≤1000:=by decide
  have e0:([]:Bs).length≤400:=by decide
  have has0:IntKind.has .i64 0:=af2.2 (by omega)
  have drl:((d.drop (P+ah1 (bt d 0) (bt d 1) 0).toNat).length:Int)=d.length - (P+ah1 (bt d 0) (bt d 1) 0):=by rw [List.length_drop]; omega
  rcases ht with rfl | rfl
  ·rw [if_neg (show ¬(9:Int)=10 by decide)] at hP ⊢
   subst hP
   have r:au7 ⟨12,0,0,[],0,bt d 0,al1 (bt d 0) (am7 d 2 (bt d 0) (bt d 1) 0).1 (bt d 1),bt d 1,0,[],0,[],0,0,0,0,0,0,0,[],[],[],0,[],l⟩:=⟨bare _ rfl,aY2 hA hS,hae,wl,hpl,wc,wk,rfl⟩
   refine .inl ⟨_,rfl,r,⟨⟨n1000,by dsimp only; omega,e0,by dsimp only; omega,e0,e0,e0,e0,e0,(fun d h=>by cases h),hA.few⟩,has0,has0,has0,has0,af2.2 (by dsimp only; omega),has0,af2.2 (by dsimp only; omega),af2.2 (by dsimp only; omega),has0⟩,?_,rfl⟩
   have hc:=r.cut.2
   dsimp only at hc ⊢
   unfold aC4
   rw [if_neg (show ¬(12:Int)=13 by decide)]
   simp only [List.length_append,List.length_cons]
   omega
  ·rw [if_pos (show (10:Int)=10 from rfl)] at hP ⊢
   subst hP
   split
   ·exact .inr ⟨_,rfl⟩
   ·rename_i h04
    have hq:=aq9 (d:=d) (p:=2) (by omega) (by omega)
    have hi:=ah7 (s:=d) (p:=6) (n:=8) (by omega) (by omega) (by omega)
    have kr:df4 ⟨13,0,0,[],0,bt d 0,al1 (bt d 0) (am7 d 14 (bt d 0) (bt d 1) 0).1 (bt d 1),bt d 1,0,[],0,aa2 d 6 8,num (aa2 d 2 2),0,0,0,bt d 4,0,0,[],[],[],0,[],l⟩=true:=by
     unfold df4
     rw [if_neg (show ¬(13:Int)=12 by decide),if_pos rfl]
     simp only [Bool.and_eq_true,decide_eq_true_eq,cj2]
     exact ⟨by omega,hq,by omega,by omega⟩
    have r:au7 ⟨13,0,0,[],0,bt d 0,al1 (bt d 0) (am7 d 14 (bt d 0) (bt d 1) 0).1 (bt d 1),bt d 1,0,[],0,aa2 d 6 8,num (aa2 d 2 2),0,0,0,bt d 4,0,0,[],[],[],0,[],l⟩:=⟨bare _ rfl,aY2 hA hS,hae,wl,hpl,wc,wk,kr⟩
    refine .inl ⟨_,rfl,r,⟨⟨n1000,by dsimp only; omega,e0,by dsimp only; omega,e0,by dsimp only; omega,e0,e0,e0,(fun d h=>by cases h),hA.few⟩,has0,has0,af2.2 (by dsimp only; omega),has0,af2.2 (by dsimp only; omega),has0,af2.2 (by dsimp only; omega),af2.2 (by dsimp only; omega),af2.2 (by dsimp only; omega)⟩,?_,rfl⟩
    have hc:=r.cut.2
    dsimp only at hc ⊢
    unfold aC4
    rw [if_pos rfl]
    simp only [List.length_append,List.length_cons,ab6]
    omega
 ·rw [hg]; exact .inr ⟨0,rfl⟩
 ·rw [hg]
  refine .inr ⟨e,?_⟩
  dsimp only
  rw [if_pos (.inr rfl)]
theorem el6 {m:Msg} (r:au7 m):(aC4 m).length≤30:=by
 obtain ⟨l1,l2,l3,l4,l5,l6⟩:=at9 r.ae r.plen
 have:=r.cut.2
 unfold aC4
 rcases r.kinds with hk | ⟨hk,_,_,_,hi⟩
 ·rw [if_neg (by omega)]; simp only [List.length_cons]; omega
 ·rw [if_pos hk]; simp only [List.length_cons,List.length_append,ab6]; omega
theorem el7 {m:Msg} (r:au7 m):aG0 m=(aa1 (if m.kind=13 then 10 else 9)::aa1 (aC4 m++ab5 m.subs).length::(aC4 m++ab5 m.subs),true)∧(aC4 m++ab5 m.subs).length≤255:=by
 have h1:=el6 r
 have h2:=bc7 r.subs
 have hl:(aC4 m++ab5 m.subs).length≤255:=by simp only [List.length_append]; omega
 refine ⟨?_,hl⟩
 unfold aG0
 have ht:1≤(if m.kind=13 then (10:Int) else 9)∧(if m.kind=13 then (10:Int) else 9)≤255:=by split <;> omega
 rw [if_pos (ay6.2 r),au5,if_pos ⟨ht.1,ht.2,hl⟩]
end Go.VP
namespace Go.VP
open Go Go.VI
abbrev Ctx:=ad8
abbrev stp (c:Ctx):ac3:=⟨c.prefix_c0,c.prefix_c1,c.prefix_c2,c.prefix_c3,c.next_c0,c.next_c1,c.id⟩
def af1 (ae:Int):Int:=if ae=1 then 0 else if ae=2 then 1 else if ae=3 then 1 else -1
theorem cD3 (ae:Int):au2 (ae,())=some ((af1 ae,()),()):=by
 rw [dA0]; unfold af1
 by_cases h1:ae=1
 ·rw [if_pos (by simp [h1]),if_pos h1]
 rw [if_neg (by simp [h1]),if_neg h1]
 by_cases h2:ae=2
 ·rw [if_pos (by simp [h2]),if_pos (by simp [h2]),if_pos h2]
 rw [if_neg (by simp [h2]),if_neg h2]
 by_cases h3:ae=3
 ·rw [if_pos (by simp [h3]),if_pos h3]
 ·rw [if_neg (by simp [h3]),if_neg h3]
theorem cJ5 {ae:Int} (h:1≤ae∧ae≤3):0≤af1 ae∧af1 ae < 2:=by
 unfold af1; split
 ·omega
 split
 ·omega
 split <;> omega
theorem et9 {s:Bs} (h:(ar7 s).2.1=true):(ar7 s).2.2=0:=by
 unfold ar7 at h ⊢
 split at h
 ·rename_i l e
  unfold dr4 at h ⊢
  split at h
  ·cases h
  ·rename_i h0; rw [if_neg h0]
 ·cases h
def ax4 (d:Bs) (n:Int):Bool × Int:=if (d.length:Int) < n then (false,2) else ((ar7 (d.drop n.toNat)).2.1,(ar7 (d.drop n.toNat)).2.2)
theorem bw8 {d:Bs} {n:Int} (h:(ax4 d n).1=true):(ax4 d n).2=0∧n≤d.length:=by
 unfold ax4 at h ⊢
 split at h
 ·cases h
 ·rename_i h0; rw [if_neg h0]; exact ⟨et9 h,by omega⟩
theorem dR3 {d:Bs} {n:Int} (hd:d.length≤100000) (hn:0≤n):aX3 (d,n,())=some (((ax4 d n).1,(ax4 d n).2,()),()):=by
 rw [dB0]; unfold ax4
 by_cases h:(d.length:Int) < n
 ·rw [ifd h,if_pos h]
 ·rw [ifn h,if_neg h,if_pos (by omega),bZ8 (by simp; omega),Option.bind_some]
def au0 (c:Ctx) (i:Bs):Ctx:=⟨c.prefix_c0,c.prefix_c1,c.prefix_c2,c.prefix_c3,c.next_c0,c.next_c1,i⟩
def bl3 (c:Ctx) (k:Int) (a:Bs):Ctx:=⟨c.prefix_c0,c.prefix_c1,c.prefix_c2,c.prefix_c3,(if k=0 then a else c.next_c0),(if k=1 then a else c.next_c1),c.id⟩
def idF (c:Ctx) (d:Bs):Ctx × Int:=if (ax4 d 10).1=true then (au0 c (aa2 d 2 8),0) else (c,(ax4 d 10).2)
theorem fd9 {c:Ctx} {d:Bs} (hd:d.length≤100000):aN4 (stp c,d,())=some (((idF c d).2,()),(stp (idF c d).1,())):=by
 rw [cR9,dR3 hd (by omega),Option.bind_some]
 unfold idF
 dsimp only
 cases h:(ax4 d 10).1 with
 | false=>rw [at2,if_neg (by simp)]
 | true=>
  have hk:=bw8 h
  rw [ift,if_pos (by omega),if_pos rfl,hk.1]; rfl
def aB7 (ae:Int):Int:=if ae=0 then (0:Int) else (if ae=1 then (4:Int) else (if ae=2 then (16:Int) else (8:Int)))
theorem ef4 (ae:Int):0≤aB7 ae∧aB7 ae≤16:=by
 unfold aB7; split
 ·omega
 split
 ·omega
 split <;> omega
def bT4 (d:Bs):Bs:=if bt d 0=3 then (aC3 (aa2 d 2 (aB7 (bt d 0)))).1 else aa2 d 2 (aB7 (bt d 0))
def ck5 (c:Ctx) (d:Bs):Ctx × Int:=
 if (d.length:Int) < 2 then (c,2) else if bt d 0 < 1∨3 < bt d 0 then (c,0)
 else if (ax4 d (2+aB7 (bt d 0))).1=true then (bl3 c (af1 (bt d 0)) (bT4 d),0)
 else (c,(ax4 d (2+aB7 (bt d 0))).2)
theorem fa6 {c:Ctx} {d:Bs} (hd:d.length≤100000):aH1 (stp c,d,())=some (((ck5 c d).2,()),(stp (ck5 c d).1,())):=by
 rw [cI0]
 unfold ck5
 by_cases h2:(d.length:Int) < 2
 ·rw [ifd h2,if_pos h2]
 rw [ifn h2,if_neg h2,ai5 (i:=0) (by omega),Option.bind_some,bT0]
 have e0:bt d 0=(((d[0]?.getD 0).toNat:Nat):Int):=rfl
 rw [← e0]
 unfold bT4
 generalize bt d 0=v
 by_cases h0:v < 1
 ·rw [ifd h0,if_pos (.inl h0)]
 rw [ifn h0]
 by_cases h3:3 < v
 ·rw [ifd h3,if_pos (.inr h3)]
 have hr:=ef4 v
 have hh:(if v=0 then (0:Int) else (if v=1 then (4:Int) else (if v=2 then (16:Int) else (8:Int))))=aB7 v:=rfl
 rw [hh,ifn h3,if_neg (show ¬(v < 1∨3 < v) by omega),if_pos (show 0≤v∧v < 4 by omega),w64 (x:=2+aB7 v) (by omega) (by omega),dR3 hd (by omega),Option.bind_some]
 dsimp only
 cases h:(ax4 d (2+aB7 v)).1 with
 | false=>rw [am5,if_neg (by simp)]
 | true=>
  have hk:=bw8 h
  have hf:=cJ5 (ae:=v) (by omega)
  have hc:(List.take (2+aB7 v).toNat d).drop 2=aa2 d 2 (aB7 v):=rfl
  rw [ah3,if_pos (show 0≤(2:Int)∧(2:Int)≤2+aB7 v∧2+aB7 v≤(d.length:Int) by omega),if_pos rfl,hc]
  refine aa9 (fun hv=>?_) (fun hv=>?_)
  ·rw [bZ9,Option.bind_some,cD3,Option.bind_some]
   dsimp only
   rw [if_pos hf,if_pos hv]; rfl
  ·rw [cD3,Option.bind_some]
   dsimp only
   rw [if_pos hf,if_neg hv]; rfl
end Go.VP
namespace Go.VP
open Go Go.VI
theorem at4 {R:Type} {p:Prop} [Decidable p] {t f r:R} (h:p→t=r) (h':¬p→f=r):(if decide p=true then t else f)=r:=by
 by_cases hp:p
 ·rw [ifd hp]; exact h hp
 ·rw [ifn hp]; exact h' hp
theorem cD4 {R:Type} {x y:Bs} {f t r:R} (heq:x=y→t=r) (hne:x≠y→f=r):(if (x==y)=true then t else f)=r:=by
 by_cases h:x=y
 ·rw [if_pos (by simp [h])]; exact heq h
 ·rw [if_neg (by simpa using h)]; exact hne h
def okC (c:Ctx):Prop:=c.prefix_c0=[]∧(c.prefix_c1=[]∨c.prefix_c1.length=4)∧(c.prefix_c2=[]∨c.prefix_c2.length=16)∧(c.prefix_c3=[]∨aj0 c.prefix_c3=true)∧(c.next_c0=[]∨c.next_c0.length=4)∧(c.next_c1=[]∨c.next_c1.length=16)∧(c.id=[]∨c.id.length=8)
structure df6 (r:Raw):Prop where
 ae:0≤r.ae∧r.ae < 4
 om:0≤r.omitted
 plen:0≤r.plen∧r.plen≤128
 len:r.omitted+r.bytes.length≤szA r.ae - ag2 r.ae
 flags:0≤r.flags∧r.flags≤255
 metric:0≤r.metric∧r.metric≤65535
 have_:r.have_=0∨r.have_=1
 low:aY3 r.ae≤r.plen
def aq5 (c:Ctx) (ae:Int):Bs:=if ae=0 then c.prefix_c0 else (if ae=1 then c.prefix_c1 else (if ae=2 then c.prefix_c2 else c.prefix_c3))
theorem ck6 {c:Ctx} (h:okC c) {ae:Int} (ha:0≤ae∧ae < 4) (hn:aq5 c ae≠[]):((aq5 c ae).length:Int)=szA ae:=by
 obtain ⟨h0,h1,h2,h3,_⟩:=h
 rcases aY4 ha with rfl | rfl | rfl | rfl
 ·exact absurd h0 hn
 ·rcases h1 with e | e
  ·exact absurd e hn
  ·show (c.prefix_c1.length:Int)=4; omega
 ·rcases h2 with e | e
  ·exact absurd e hn
  ·show (c.prefix_c2.length:Int)=16; omega
 ·rcases h3 with e | e
  ·exact absurd e hn
  ·have:=(aA0 e).1; show (c.prefix_c3.length:Int)=16; omega
def am2 (c:Ctx) (r:Raw):Bs × Bool:=
 if r.omitted=0 then (al1 r.ae r.bytes r.plen,true)
 else if aq5 c r.ae=[] then ([],false)
 else (al1 r.ae (aa2 (aq5 c r.ae) (ag2 r.ae) r.omitted++r.bytes) r.plen,true)
theorem eu0 {c:Ctx} {r:Raw} (hc:okC c) (hr:df6 r):av4 (stp c,r,())=some (((am2 c r).1,(am2 c r).2,()),(stp c,())):=by
 have ha:=hr.ae; have hl:=hr.len; have ho:=hr.om; have hp:=hr.plen
 have hsz:0≤szA r.ae∧szA r.ae≤16:=by unfold szA; split <;> (try split) <;> (try split) <;> omega
 have hbs:=bo4 r.ae
 have hpre:(if r.ae=0 then c.prefix_c0 else (if r.ae=1 then c.prefix_c1 else (if r.ae=2 then c.prefix_c2 else c.prefix_c3)))=aq5 c r.ae:=rfl
 have hsz':(if r.ae=0 then (0:Int) else (if r.ae=1 then (4:Int) else (if r.ae=2 then (16:Int) else (16:Int))))=szA r.ae:=rfl
 rw [ci8]
 dsimp only
 rw [hpre,hsz',if_pos ha]
 unfold am2
 refine aa9 (fun h3=>?_) (fun h3=>?_)
 ·have s3:szA r.ae=16:=by rw [h3]; rfl
  have b3:ag2 r.ae=8:=by rw [h3]; rfl
  rw [if_pos ha,s3,w64 (x:=16 - 8) (by omega) (by omega),show (16:Int) - 8=8 by decide]
  refine aa9 (fun h0=>?_) (fun h0=>?_)
  ·rw [if_pos h0,if_pos (af7 (by omega)),List.nil_append,cC4 (by omega),Option.bind_some,bZ9,Option.bind_some]
   have hl8:aC3 (aH7 r.bytes 8)=(an6++aH7 r.bytes 8,true):=by unfold aC3; rw [if_pos (by rw [aj2]; omega)]
   rw [hl8,bo1 (by simp [aj2,an6]; omega) (af2.2 (by omega)),Option.bind_some]
   unfold al1; rw [if_pos h3]
  ·rw [if_neg h0]
   refine cD4 (fun he=>?_) (fun he=>?_)
   ·rw [if_pos he]
   ·have hpl:=ck6 hc ha he
    have hcl:((aa2 (aq5 c r.ae) 8 r.omitted).length:Int)=r.omitted:=ah7 (by omega) ho (by omega)
    have hcut:(List.take (8+r.omitted).toNat (aq5 c r.ae)).drop 8=aa2 (aq5 c r.ae) 8 r.omitted:=rfl
    rw [if_neg he,w64 (x:=8+r.omitted) (by omega) (by omega),if_pos (by omega),hcut,if_pos (af7 (by omega)),cC4 (by omega),Option.bind_some,bZ9,Option.bind_some]
    have hl8:aC3 (aH7 (aa2 (aq5 c r.ae) 8 r.omitted++r.bytes) 8)=(an6++aH7 (aa2 (aq5 c r.ae) 8 r.omitted++r.bytes) 8,true):=by unfold aC3; rw [if_pos (by rw [aj2,List.length_append]; omega)]
    rw [hl8,bo1 (by simp [aj2,an6]; omega) (af2.2 (by omega)),Option.bind_some]
    unfold al1; rw [if_pos h3,b3]
 ·have b0:ag2 r.ae=0:=by
   rcases aY4 ha with h | h | h | h
   ·rw [h]; rfl
   ·rw [h]; rfl
   ·rw [h]; rfl
   ·exact absurd h h3
  rw [if_pos ha,w64 (x:=szA r.ae - 0) (by omega) (by omega),show szA r.ae - 0=szA r.ae by omega]
  refine aa9 (fun h0=>?_) (fun h0=>?_)
  ·rw [if_pos h0,if_pos (af7 (by omega)),List.nil_append,cC4 (by omega),Option.bind_some,bo1 (by rw [aj2]; omega) (af2.2 (by omega)),Option.bind_some]
   unfold al1; rw [if_neg h3]
  ·rw [if_neg h0]
   refine cD4 (fun he=>?_) (fun he=>?_)
   ·rw [if_pos he]
   ·have hpl:=ck6 hc ha he
    have hcl:((aa2 (aq5 c r.ae) 0 r.omitted).length:Int)=r.omitted:=ah7 (by omega) ho (by omega)
    have hcut:(List.take (0+r.omitted).toNat (aq5 c r.ae)).drop 0=aa2 (aq5 c r.ae) 0 r.omitted:=rfl
    rw [if_neg he,w64 (x:=0+r.omitted) (by omega) (by omega),if_pos (by omega),hcut,if_pos (af7 (by omega)),cC4 (by omega),Option.bind_some,bo1 (by rw [aj2,List.length_append]; omega) (af2.2 (by omega)),Option.bind_some]
    unfold al1; rw [if_neg h3,b0]
def ao9 (c:Ctx) (r:Raw) (a:Bs):Ctx:=
 if r.ae=0 then c else
  let i:=if r.flags / 64 % 2=1 then (z4'++a).drop (a.length - 4) else c.id
  if 128≤r.flags then ⟨(if r.ae=0 then a else c.prefix_c0),(if r.ae=1 then a else c.prefix_c1),(if r.ae=2 then a else c.prefix_c2),(if r.ae=3 then a else c.prefix_c3),c.next_c0,c.next_c1,i⟩ else au0 c i
 where z4':Bs:=[0,0,0,0]
theorem eC1:∀ f:Fin 256,((ad2 .and .i64 (f.val:Int) 128 != 0)=decide (128≤f.val))∧((ad2 .and .i64 (f.val:Int) 64 != 0)=decide (f.val / 64 % 2=1)):=by decide +kernel
def bH1 (c:Ctx) (r:Raw):Bool:=decide (r.have_=1) && (decide (r.metric=65535) || (decide (0 < r.ae) && !(c.id==[])))
theorem eU6 {c:Ctx} {r:Raw}:aE4 (stp c,r,())=some ((bH1 c r,()),(stp c,())):=by
 rw [cC2]; unfold bH1
 refine aa9 (fun h=>?_) (fun h=>?_)
 ·refine aa9 (fun h1=>?_) (fun h1=>?_)
  ·simp [h,h1]
  ·refine at4 (fun h2=>?_) (fun h2=>?_)
   ·simp [h,h1,h2]
   ·simp [h1,h2]
 ·simp [h]
end Go.VP
namespace Go.VP
open Go Go.VI
theorem eU7:ah9 (4,())=some (((([0,0,0,0]:Bs)),()),()):=by
 rw [bk9,if_pos (by unfold aj9; decide)]; rfl
theorem eM1 {c:Ctx} {r:Raw} {a:Bs} (hr:df6 r) (ha:r.ae≠0→4≤a.length) (hb:a.length≤100000):aC2 (stp c,r,a,())=some ((),(stp (ao9 c r a),())):=by
 have hae:=hr.ae
 obtain ⟨f,hf⟩:∃ f:Fin 256,r.flags=(f.val:Int):=⟨⟨r.flags.toNat,by have:=hr.flags; omega⟩,by have:=hr.flags; simp; omega⟩
 obtain ⟨f1,f2⟩:=eC1 f
 rw [cv8]
 unfold ao9
 refine aa9 (fun h=>?_) (fun h=>?_)
 ·rw [if_pos h]
 have h4:=ha h
 rw [if_neg h,if_neg h,hf,f1,f2,if_pos hae,eU7,Option.bind_some]
 dsimp only
 have hl:((([0,0,0,0]:Bs)++a).length:Int) - 8=((a.length - 4:Nat):Int):=by simp; omega
 rw [if_pos (af7 (by simp; omega)),hl,w64 (by omega) (by omega),if_pos (show 0≤((a.length - 4:Nat):Int)∧((a.length - 4:Nat):Int)≤((([0,0,0,0]:Bs)++a).length:Int) by simp; omega),Int.toNat_natCast]
 have e1:(128≤(f.val:Int))↔128≤f.val:=by omega
 have e2:((f.val:Int) / 64 % 2=1)↔f.val / 64 % 2=1:=by omega
 refine at4 (fun g=>?_) (fun g=>?_)
 ·refine at4 (fun k=>?_) (fun k=>?_)
  ·rw [if_pos (e2.2 k),if_pos (e1.2 g)]; rfl
  ·rw [if_neg (fun x=>k (e2.1 x)),if_pos (e1.2 g)]
 ·refine at4 (fun k=>?_) (fun k=>?_)
  ·rw [Option.bind_some]
   dsimp only
   rw [if_pos (af7 (by simp; omega)),hl,w64 (by omega) (by omega),if_pos (show 0≤((a.length - 4:Nat):Int)∧((a.length - 4:Nat):Int)≤((([0,0,0,0]:Bs)++a).length:Int) by simp; omega),Int.toNat_natCast,if_pos (e2.2 k),if_neg (fun x=>g (e1.1 x))]; rfl
  ·rw [if_neg (fun x=>k (e2.1 x)),if_neg (fun x=>g (e1.1 x))]; rfl
theorem dc7 {d:Bs} (h:(ae7 d).2.1=true):df6 (ae7 d).1∧(ae7 d).2.2=0:=by
 have b0:=ae6 d 0
 have b1:=ae6 d 1
 have b2:=ae6 d 2
 have b3:=ae6 d 3
 unfold ae7 at h ⊢
 split at h
 ·cases h
 rename_i h1
 split at h
 ·cases h
 rename_i h2
 rw [if_neg h1,if_neg h2]
 dsimp only at h ⊢
 split at h
 ·cases h
 rename_i h3
 split at h
 ·cases h
 rename_i h4
 rw [if_neg h3,if_neg h4]
 have h3:(am7 d 10 (bt d 0) (bt d 2) (bt d 3)).2=0:=by simpa using h3
 have n8:=aR4 (aa2 d 8 2)
 have l8:((aa2 d 8 2).length:Int)=2:=ah7 (by omega) (by omega) (by omega)
 have l8':(aa2 d 8 2).length=2:=by omega
 rw [l8'] at n8
 unfold am7 at h3 ⊢
 split at h3
 ·cases h3
 rename_i hg
 split at h3
 ·cases h3
 rename_i hl
 rw [if_neg hg,if_neg hl]
 have hg1:as3 (bt d 0) (bt d 2)=false:=by
  cases e:as3 (bt d 0) (bt d 2) with
  | false=>rfl
  | true=>exact absurd (.inl e) hg
 have hg2:0≤ah1 (bt d 0) (bt d 2) (bt d 3):=by omega
 obtain ⟨q1,q2,q3,q4,q5⟩:=bM1 (ae:=bt d 0) (by omega) hg1
 have hcl:=ah7 (s:=d) (p:=10) (n:=ah1 (bt d 0) (bt d 2) (bt d 3)) (by omega) hg2 (by omega)
 have hp:aY3 (bt d 0)≤bt d 2∧bt d 2≤ay5 (bt d 0):=by unfold as3 at hg1; simpa using hg1
 obtain ⟨r1,r2,r3,r4,r5,r6⟩:=at9 (ae:=bt d 0) (by omega) hp
 refine ⟨⟨by show 0≤bt d 0∧bt d 0 < 4; omega,b3.1,q5,?_,by show 0≤bt d 1∧bt d 1≤255; omega,by show 0≤num (aa2 d 8 2)∧num (aa2 d 8 2)≤65535; omega,?_,hp.1⟩,rfl⟩
 ·show bt d 3+((aa2 d 10 (ah1 (bt d 0) (bt d 2) (bt d 3))).length:Int)≤szA (bt d 0) - ag2 (bt d 0)
  rw [hcl]
  unfold ah1
  omega
 ·show (if _=true then (1:Int) else 0)=0∨(if _=true then (1:Int) else 0)=1
  split
  ·exact .inr rfl
  ·exact .inl rfl
def cJ6 (c:Ctx) (r:Raw) (a:Bs):Msg:=⟨11,0,0,[],0,r.ae,a,r.plen,0,(if r.metric=65535 then [] else (if af1 r.ae=0 then c.next_c0 else c.next_c1)),r.metric,(if r.metric=65535 then [] else c.id),r.seq,0,r.interval,0,0,0,0,[],[],[],0,[],r.subs⟩
def aT0 (c:Ctx) (d:Bs):Ctx × List Msg × Int:=
 if (ae7 d).2.1=true then
  (if (am2 c (ae7 d).1).2=true then
   (if bH1 (ao9 c (ae7 d).1 (am2 c (ae7 d).1).1) (ae7 d).1=true then (ao9 c (ae7 d).1 (am2 c (ae7 d).1).1,[cJ6 (ao9 c (ae7 d).1 (am2 c (ae7 d).1).1) (ae7 d).1 (am2 c (ae7 d).1).1],0)
   else (ao9 c (ae7 d).1 (am2 c (ae7 d).1).1,[],0))
  else (c,[],9))
 else (c,[],(ae7 d).2.2)
theorem dc8 {c:Ctx} {r:Raw} (hc:okC c) (hr:df6 r) (h:(am2 c r).2=true):((am2 c r).1.length:Int)=szA r.ae:=by
 have hl:=hr.len
 have ho:=hr.om
 have hbs:=bo4 r.ae
 unfold am2 at h ⊢
 by_cases h0:r.omitted=0
 ·rw [if_pos h0]; exact cJ4 hr.ae (by omega)
 ·rw [if_neg h0] at h ⊢
  by_cases he:aq5 c r.ae=[]
  ·rw [if_pos he] at h; cases h
  ·rw [if_neg he]
   have hpl:=ck6 hc hr.ae he
   have hcl:((aa2 (aq5 c r.ae) (ag2 r.ae) r.omitted).length:Int)=r.omitted:=ah7 (by omega) ho (by omega)
   exact cJ4 hr.ae (by rw [List.length_append]; omega)
theorem eC2 {c:Ctx} {ty at_:Int} {d:Bs} (hc:okC c) (hd:d.length≤1000):ay2 (stp c,⟨ty,at_,d⟩,())=some (((aT0 c d).2.1,(aT0 c d).2.2,()),(stp (aT0 c d).1,())):=by
 rw [cl7,eU5 hd,Option.bind_some]
 unfold aT0
 dsimp only [ag4]
 cases h:(ae7 d).2.1 with
 | false=>rw [am5,if_neg (by simp)]
 | true=>
  obtain ⟨hr,h0⟩:=dc7 h
  generalize (ae7 d).1=r at *
  rw [ah3,if_pos rfl,eu0 hc hr,Option.bind_some]
  dsimp only
  cases h2:(am2 c r).2 with
  | false=>rw [am5,if_neg (by simp)]
  | true=>
   have hl:=dc8 hc hr h2
   have hsz:(r.ae≠0→4≤szA r.ae)∧szA r.ae≤16:=by unfold szA; refine ⟨fun h=>?_,?_⟩ <;> (split <;> (try split) <;> (try split) <;> omega)
   generalize (am2 c r).1=a at *
   rw [ah3,if_pos rfl,eM1 hr (fun h=>by have:=hsz.1 h; omega) (by omega),Option.bind_some]
   dsimp only
   rw [eU6,Option.bind_some]
   dsimp only
   cases h3:bH1 (ao9 c r a) r with
   | false=>rw [am5,if_neg (by simp)]
   | true=>
    rw [ah3,if_pos rfl]
    unfold cJ6
    refine ab9 (fun hm=>?_) (fun hm=>?_)
    ·rw [if_neg hm,if_neg hm,cD3,Option.bind_some]
     dsimp only
     have hae:1≤r.ae∧r.ae≤3:=by
      have:=hr.ae
      unfold bH1 at h3
      simp [hm] at h3
      omega
     rw [if_pos (cJ5 hae)]
    ·rw [if_pos hm,if_pos hm]
end Go.VP
namespace Go.VP
open Go Go.VI
theorem eU8 {c:Ctx} {d:Bs} (h:(ae7 d).2.1=true) (h2:(am2 c (ae7 d).1).2=true):aT0 c d=(ao9 c (ae7 d).1 (am2 c (ae7 d).1).1,(if bH1 (ao9 c (ae7 d).1 (am2 c (ae7 d).1).1) (ae7 d).1=true then [cJ6 (ao9 c (ae7 d).1 (am2 c (ae7 d).1).1) (ae7 d).1 (am2 c (ae7 d).1).1] else []),0):=by
 unfold aT0
 rw [if_pos h,if_pos h2]
 split <;> rfl
def bj5 (c:Ctx) (ty:Int) (d:Bs):Ctx × List Msg × Int:=
 if ty=6 then ((idF c d).1,[],(idF c d).2) else if ty=7 then ((ck5 c d).1,[],(ck5 c d).2) else if ty=8 then aT0 c d else (c,[],0)
theorem ds7 {c:Ctx} {ty at_:Int} {d:Bs} (hc:okC c) (hd:d.length≤1000):bb9 (c,⟨ty,at_,d⟩,())=some (((bj5 c ty d).1,(bj5 c ty d).2.1,(bj5 c ty d).2.2,()),()):=by
 rw [dW4]
 unfold bj5
 refine aa9 (fun h=>?_) (fun h=>?_)
 ·have:=fd9 (c:=c) (d:=d) (by omega)
  unfold stp at this
  dsimp only
  rw [this,if_pos h]; rfl
 rw [if_neg h]
 refine aa9 (fun h=>?_) (fun h=>?_)
 ·have:=fa6 (c:=c) (d:=d) (by omega)
  unfold stp at this
  dsimp only
  rw [this,if_pos h]; rfl
 rw [if_neg h]
 refine aa9 (fun h=>?_) (fun h=>?_)
 ·have:=eC2 (c:=c) (ty:=ty) (at_:=at_) (d:=d) hc hd
  unfold stp at this
  rw [this,if_pos h]; rfl
 ·rw [if_neg h]
end Go.VP
namespace Go.VP
open Go Go.VI
theorem eM2:okC ⟨[],[],[],[],[],[],[]⟩:=⟨rfl,.inl rfl,.inl rfl,.inl rfl,.inl rfl,.inl rfl,.inl rfl⟩
theorem fa7 {c:Ctx} {d:Bs} (h:okC c):okC (idF c d).1:=by
 unfold idF
 cases hk:(ax4 d 10).1 with
 | false=>rw [if_neg (by simp)]; exact h
 | true=>
  have:=bw8 hk
  rw [if_pos rfl]
  obtain ⟨h0,h1,h2,h3,h4,h5,h6⟩:=h
  refine ⟨h0,h1,h2,h3,h4,h5,.inr ?_⟩
  have hl:=ah7 (s:=d) (p:=2) (n:=8) (by omega) (by omega) (by omega)
  show (aa2 d 2 8).length=8
  omega
theorem eU9 {c:Ctx} {d:Bs} (h:okC c):okC (ck5 c d).1:=by
 unfold ck5
 split
 ·exact h
 split
 ·exact h
 rename_i h2 hr
 cases hk:(ax4 d (2+aB7 (bt d 0))).1 with
 | false=>rw [if_neg (by simp)]; exact h
 | true=>
  have hl:=bw8 hk
  rw [if_pos rfl]
  obtain ⟨h0,h1,h2,h3,h4,h5,h6⟩:=h
  have hn:=ef4 (bt d 0)
  have hc:=ah7 (s:=d) (p:=2) (n:=aB7 (bt d 0)) (by omega) (by omega) (by omega)
  have hv:bt d 0=1∨bt d 0=2∨bt d 0=3:=by omega
  have hlong:bt d 0=3→(aC3 (aa2 d 2 (aB7 (bt d 0)))).1.length=16:=fun e=>by
   have h8:aB7 (bt d 0)=8:=by rw [e]; rfl
   rw [h8] at hc ⊢
   unfold aC3
   rw [if_pos (by omega),List.length_append]
   show 8+(aa2 d 2 8).length=16
   omega
  refine ⟨h0,h1,h2,h3,?_,?_,h6⟩
  ·show (if af1 (bt d 0)=0 then bT4 d else c.next_c0)=[]∨(if af1 (bt d 0)=0 then bT4 d else c.next_c0).length=4
   rcases hv with e | e | e
   ·rw [if_pos (by rw [e]; rfl)]
    right
    unfold bT4
    rw [if_neg (by omega)]
    have:aB7 (bt d 0)=4:=by rw [e]; rfl
    omega
   ·rw [if_neg (by rw [e]; decide)]; exact h4
   ·rw [if_neg (by rw [e]; decide)]; exact h4
  ·show (if af1 (bt d 0)=1 then bT4 d else c.next_c1)=[]∨(if af1 (bt d 0)=1 then bT4 d else c.next_c1).length=16
   rcases hv with e | e | e
   ·rw [if_neg (by rw [e]; decide)]; exact h5
   ·rw [if_pos (by rw [e]; rfl)]
    right
    unfold bT4
    rw [if_neg (by omega)]
    have:aB7 (bt d 0)=16:=by rw [e]; rfl
    omega
   ·rw [if_pos (by rw [e]; rfl)]
    right
    unfold bT4
    rw [if_pos e]
    exact hlong e
theorem dE5 {c:Ctx} {r:Raw} (hc:okC c) (hr:df6 r) (h:(am2 c r).2=true) (h3:r.ae=3):aj0 (am2 c r).1=true:=by
 have hl:=hr.len
 have ho:=hr.om
 have hlow:=hr.low
 have hbs:=bo4 r.ae
 have s3:szA r.ae - ag2 r.ae=8:=by rw [h3]; rfl
 have hp:64≤r.plen:=by rw [h3] at hlow; exact hlow
 unfold am2 at h ⊢
 by_cases h0:r.omitted=0
 ·rw [if_pos h0,h3]; exact cw8 hp (by omega)
 ·rw [if_neg h0] at h ⊢
  by_cases he:aq5 c r.ae=[]
  ·rw [if_pos he] at h; cases h
  ·rw [if_neg he]
   have hpl:=ck6 hc hr.ae he
   have hcl:((aa2 (aq5 c r.ae) (ag2 r.ae) r.omitted).length:Int)=r.omitted:=ah7 (by omega) ho (by omega)
   rw [h3] at hcl ⊢
   exact cw8 hp (by rw [List.length_append]; omega)
theorem dR4 {c:Ctx} {r:Raw} {a:Bs} (h:okC c) (hr:df6 r) (hl:(a.length:Int)=szA r.ae) (h3:r.ae=3→aj0 a=true):okC (ao9 c r a):=by
 unfold ao9
 split
 ·exact h
 rename_i a0
 have hae:=hr.ae
 have hid:okC (au0 c (if r.flags / 64 % 2=1 then (ao9.z4'++a).drop (a.length - 4) else c.id))∧((if r.flags / 64 % 2=1 then (ao9.z4'++a).drop (a.length - 4) else c.id)=[]∨(if r.flags / 64 % 2=1 then (ao9.z4'++a).drop (a.length - 4) else c.id).length=8):=by
  have h4:4≤a.length:=by
   rcases aY4 hae with e | e | e | e
   ·exact absurd e a0
   ·rw [e] at hl; have:szA 1=4:=rfl; omega
   ·rw [e] at hl; have:szA 2=16:=rfl; omega
   ·rw [e] at hl; have:szA 3=16:=rfl; omega
  have h8:(if r.flags / 64 % 2=1 then (ao9.z4'++a).drop (a.length - 4) else c.id)=[]∨(if r.flags / 64 % 2=1 then (ao9.z4'++a).drop (a.length - 4) else c.id).length=8:=by
   split
   ·right; rw [List.length_drop,List.length_append]; show 4+a.length - (a.length - 4)=8; omega
   ·exact h.2.2.2.2.2.2
  obtain ⟨h0,h1,h2,h3,h4,h5,h6⟩:=h
  exact ⟨⟨h0,h1,h2,h3,h4,h5,h8⟩,h8⟩
 obtain ⟨h0,h1,h2,h3',h4,h5,h6⟩:=h
 dsimp only
 split
 ·refine ⟨?_,?_,?_,?_,h4,h5,hid.2⟩
  ·exact h0
  ·show (if r.ae=1 then a else c.prefix_c1)=[]∨(if r.ae=1 then a else c.prefix_c1).length=4
   split
   ·rename_i e; rw [e] at hl; have:szA 1=4:=rfl; right; omega
   ·exact h1
  ·show (if r.ae=2 then a else c.prefix_c2)=[]∨(if r.ae=2 then a else c.prefix_c2).length=16
   split
   ·rename_i e; rw [e] at hl; have:szA 2=16:=rfl; right; omega
   ·exact h2
  ·show (if r.ae=3 then a else c.prefix_c3)=[]∨aj0 (if r.ae=3 then a else c.prefix_c3)=true
   split
   ·rename_i e; exact .inr (h3 e)
   ·exact h3'
 ·exact hid.1
theorem eV0 {c:Ctx} {d:Bs} (h:okC c):okC (aT0 c d).1:=by
 unfold aT0
 split
 ·rename_i ht
  obtain ⟨hr,_⟩:=dc7 ht
  split
  ·rename_i ha
   have:=dR4 h hr (dc8 h hr ha) (dE5 h hr ha)
   split <;> exact this
  ·exact h
 ·exact h
theorem eM3 {c:Ctx} {ty:Int} {d:Bs} (h:okC c):okC (bj5 c ty d).1:=by
 unfold bj5
 split
 ·exact fa7 h
 split
 ·exact eU9 h
 split
 ·exact eV0 h
 ·exact h
end Go.VP
namespace Go.VP
open Go Go.VI
def df7 (ty:Int) (d:Bs):Msg:=⟨14,0,0,[],0,0,[],0,0,[],0,[],0,0,0,0,0,0,0,[],[],[],ty,d,[]⟩
def bl4 (c:Ctx) (x:Msg × Bool × Int):Ctx × List Msg × Int:=if x.2.2≠0 then (c,[],x.2.2) else if x.2.1=true then (c,[x.1],0) else (c,[],0)
theorem cD5 (c:Ctx) (x:Msg × Bool × Int):(if (x.2.2 != 0)=true then (some ((c,[],x.2.2,()),()):Option ((Ctx × List Msg × Int × Unit) × Unit)) else (if (!x.2.1)=true then some ((c,[],x.2.2,()),()) else some ((c,[x.1],0,()),())))=some (((bl4 c x).1,(bl4 c x).2.1,(bl4 c x).2.2,()),()):=by
 obtain ⟨m,k,e⟩:=x
 unfold bl4
 dsimp only
 refine ab9 (fun h=>by rw [if_pos h]) (fun h=>?_)
 rw [if_neg (show ¬e≠0 from fun q=>q h)]
 cases k with
 | false=>rw [am5,if_neg (by simp),h]
 | true=>rw [ah3,if_pos rfl]
def aq6 (c:Ctx) (ty:Int) (d:Bs):Ctx × List Msg × Int:=
 if ty=0∨ty=1 then (c,[],0) else if ty=6∨ty=7∨ty=8 then bj5 c ty d
 else if 2≤ty∧ty≤5 then bl4 c (aQ3 ty d) else if ty=9∨ty=10 then bl4 c (aL2 ty d) else (c,[df7 ty d],0)
theorem fa8 {c:Ctx} {ty at_:Int} {d:Bs} (hc:okC c) (hd:d.length≤1000):bv1 (c,⟨ty,at_,d⟩,())=some (((aq6 c ty d).1,(aq6 c ty d).2.1,(aq6 c ty d).2.2,()),()):=by
 have hcases:ty=0∨ty=1∨ty=2∨ty=3∨ty=4∨ty=5∨ty=6∨ty=7∨ty=8∨ty=9∨ty=10∨(ty≠0∧ty≠1∧ty≠2∧ty≠3∧ty≠4∧ty≠5∧ty≠6∧ty≠7∧ty≠8∧ty≠9∧ty≠10):=by omega
 rw [dB3]
 dsimp only
 rcases hcases with rfl | rfl | rfl | rfl | rfl | rfl | rfl | rfl | rfl | rfl | rfl | ⟨h0,h1,h2,h3,h4,h5,h6,h7,h8,h9,h10⟩
 ·rfl
 ·rfl
 ·simp only [Int.reduceBEq,Bool.false_eq_true,if_false,if_true]
  rw [df3 hd (by decide),Option.bind_some]
  exact cD5 c _
 ·simp only [Int.reduceBEq,Bool.false_eq_true,if_false,if_true]
  rw [df3 hd (by decide),Option.bind_some]
  exact cD5 c _
 ·simp only [Int.reduceBEq,Bool.false_eq_true,if_false,if_true]
  rw [df3 hd (by decide),Option.bind_some]
  exact cD5 c _
 ·simp only [Int.reduceBEq,Bool.false_eq_true,if_false,if_true]
  rw [df3 hd (by decide),Option.bind_some]
  exact cD5 c _
 ·simp only [Int.reduceBEq,Bool.false_eq_true,if_false,if_true]
  rw [ds7 hc hd,Option.bind_some]; rfl
 ·simp only [Int.reduceBEq,Bool.false_eq_true,if_false,if_true]
  rw [ds7 hc hd,Option.bind_some]; rfl
 ·simp only [Int.reduceBEq,Bool.false_eq_true,if_false,if_true]
  rw [ds7 hc hd,Option.bind_some]; rfl
 ·simp only [Int.reduceBEq,Bool.false_eq_true,if_false,if_true]
  rw [en9 hd (by decide),Option.bind_some]
  exact cD5 c _
 ·simp only [Int.reduceBEq,Bool.false_eq_true,if_false,if_true]
  rw [en9 hd (by decide),Option.bind_some]
  exact cD5 c _
 ·have e:∀ k:Int,ty≠k→(ty==k)=false:=fun k h=>by simpa using h
  simp only [e _ h0,e _ h1,e _ h2,e _ h3,e _ h4,e _ h5,e _ h6,e _ h7,e _ h8,e _ h9,e _ h10,Bool.false_eq_true,if_false]
  unfold aq6
  rw [if_neg (by omega),if_neg (by omega),if_neg (by omega),if_neg (by omega)]; rfl
end Go.VP
namespace Go.VP
open Go Go.VI
theorem eo1 (c:Ctx) (x:Msg × Bool × Int):(bl4 c x).1=c∧(bl4 c x).2.1.length≤1:=by
 unfold bl4; split
 ·exact ⟨rfl,by simp⟩
 split <;> exact ⟨rfl,by simp⟩
theorem eM4 (c:Ctx) (d:Bs):(aT0 c d).2.1.length≤1:=by
 unfold aT0; split
 ·split
  ·split <;> simp
  ·simp
 ·simp
theorem dM6 {c:Ctx} {ty:Int} {d:Bs} (h:okC c):okC (aq6 c ty d).1∧(aq6 c ty d).2.1.length≤1:=by
 unfold aq6
 split
 ·exact ⟨h,by simp⟩
 split
 ·refine ⟨eM3 h,?_⟩
  unfold bj5
  split
  ·simp
  split
  ·simp
  split
  ·exact eM4 c d
  ·simp
 split
 ·have:=eo1 c (aQ3 ty d); exact ⟨by rw [this.1]; exact h,this.2⟩
 split
 ·have:=eo1 c (aL2 ty d); exact ⟨by rw [this.1]; exact h,this.2⟩
 ·exact ⟨h,by simp⟩
def c0:Ctx:=⟨[],[],[],[],[],[],[]⟩
def ag6:Ctx→List Tlv→List Msg→List Msg × Ctx × Int × Int
 | c,[],acc=>(acc,c,0,0)
 | c,t::r,acc=>if (aq6 c t.type_ t.data).2.2≠0 then ([],c0,t.at_,(aq6 c t.type_ t.data).2.2) else ag6 (aq6 c t.type_ t.data).1 r (acc++(aq6 c t.type_ t.data).2.1)
theorem fa9:ba3≤100000:=Nat.le_of_ble_eq_true (by kernel_rfl)
theorem eC3 {n:Nat} {l:List Tlv} (hl:l.length≤100000) (hd:∀ t∈l,t.data.length≤1000):∀ (k m i:Nat) (c:Ctx) (acc:List Msg),i+k=l.length→k < m→okC c→acc.length≤i→
  aU1 n m l acc c.prefix_c0 c.prefix_c1 c.prefix_c2 c.prefix_c3 c.next_c0 c.next_c1 c.id i=some (((ag6 c (l.drop i) acc).1,(ag6 c (l.drop i) acc).2.1,(ag6 c (l.drop i) acc).2.2.1,(ag6 c (l.drop i) acc).2.2.2,()),()):=by
 intro k
 induction k with
 | zero=>
  intro m i c acc h hm hc ha
  obtain ⟨m,rfl⟩:∃ k,m=k+1:=⟨m - 1,by omega⟩
  rw [bL4,ifn (by omega),List.drop_eq_nil_of_le (by omega)]; rfl
 | succ k ih=>
  intro m i c acc h hm hc ha
  obtain ⟨m,rfl⟩:∃ k,m=k+1:=⟨m - 1,by omega⟩
  have hi:i < l.length:=by omega
  have h1:=fa8 (at_:=l[i].at_) (ty:=l[i].type_) hc (hd _ (List.getElem_mem hi))
  obtain ⟨o1,o2⟩:=dM6 (ty:=l[i].type_) (d:=l[i].data) hc
  have:=ih m (i+1) _ (acc++(aq6 c l[i].type_ l[i].data).2.1) (by omega) (by omega) o1 (by rw [List.length_append]; omega)
  rw [show ((i+1:Nat):Int)=(i:Int)+1 by omega] at this
  have hp:0≤(i:Int):=by omega
  have hbo:=fa9
  rw [bL4,ifd (by omega),if_pos hp,Int.toNat_natCast,ag1 hi,List.drop_eq_getElem_cons hi,ag6]
  rw [show (ad8.mk c.prefix_c0 c.prefix_c1 c.prefix_c2 c.prefix_c3 c.next_c0 c.next_c1 c.id)=c from rfl,h1,Option.bind_some]
  dsimp only
  refine ab9 (fun he=>?_) (fun he=>?_)
  ·rw [if_pos hp,ag1 hi,if_pos he]; rfl
  ·rw [if_pos (ah6 (Nat.le_trans (Nat.mul_le_mul (show acc.length+(aq6 c l[i].type_ l[i].data).2.1.length≤100001 by omega) hbo) (by decide))),w64 (by omega) (by omega),this,if_neg (fun q=>q he)]
theorem cD6:okC c0:=eM2
theorem eV1 {l:List Tlv} (hl:l.length≤100000) (hd:∀ t∈l,t.data.length≤1000):bj2 (l,())=some (((ag6 c0 l []).1,(ag6 c0 l []).2.1,(ag6 c0 l []).2.2.1,(ag6 c0 l []).2.2.2,()),()):=by
 show bS4 fuel (l,())=_
 rw [dq5]
 exact eC3 (n:=fuel) hl hd l.length fuel 0 c0 [] (by omega) (ae2 (by omega)) cD6 (by simp)
end Go.VP
namespace Go.VP
open Go Go.VI
theorem dR5:∀ (a b:List Tlv) (c:Ctx) (acc:List Msg),(ag6 c a acc).2.2.2=0→ag6 c (a++b) acc=ag6 (ag6 c a acc).2.1 b (ag6 c a acc).1
 | [],b,c,acc,_=>rfl
 | t::r,b,c,acc,h=>by
  rw [List.cons_append,ag6,ag6]
  rw [ag6] at h
  by_cases he:(aq6 c t.type_ t.data).2.2≠0
  ·rw [if_pos he] at h; exact absurd h he
  ·rw [if_neg he] at h ⊢
   rw [if_neg he]
   exact dR5 r b _ _ h
theorem dR6:∀ (a:List Tlv) (c:Ctx) (acc:List Msg),(ag6 c a acc).2.2.2≠0→(ag6 c a acc).1=[]∧(ag6 c a acc).2.1=c0
 | [],c,acc,h=>absurd rfl h
 | t::r,c,acc,h=>by
  rw [ag6] at h ⊢
  by_cases he:(aq6 c t.type_ t.data).2.2≠0
  ·rw [if_pos he]; exact ⟨rfl,rfl⟩
  ·rw [if_neg he] at h ⊢
   exact dR6 r _ _ h
theorem dE6:∀ (a:List Tlv) (c:Ctx) (acc:List Msg),(ag6 c a acc).2.2.2=0→(ag6 c a acc).2.2.1=0
 | [],c,acc,h=>rfl
 | t::r,c,acc,h=>by
  rw [ag6] at h ⊢
  by_cases he:(aq6 c t.type_ t.data).2.2≠0
  ·rw [if_pos he] at h; exact absurd h he
  ·rw [if_neg he] at h ⊢
   exact dE6 r _ _ h
theorem dR7:∀ (a:List Tlv) (c:Ctx) (acc:List Msg),okC c→(ag6 c a acc).1.length≤acc.length+a.length∧okC (ag6 c a acc).2.1
 | [],c,acc,hc=>⟨by show acc.length≤_; omega,hc⟩
 | t::r,c,acc,hc=>by
  rw [ag6]
  obtain ⟨h1,h2⟩:=dM6 (ty:=t.type_) (d:=t.data) hc
  by_cases he:(aq6 c t.type_ t.data).2.2≠0
  ·rw [if_pos he]; exact ⟨by simp,cD6⟩
  ·rw [if_neg he]
   obtain ⟨h3,h4⟩:=dR7 r _ (acc++(aq6 c t.type_ t.data).2.1) h1
   exact ⟨by simp only [List.length_append,List.length_cons] at h3 ⊢; omega,h4⟩
theorem dR8 {P:Msg→Prop} {Q:Tlv→Prop} (hP:∀ c t,okC c→Q t→∀ m∈(aq6 c t.type_ t.data).2.1,P m):∀ (a:List Tlv) (c:Ctx) (acc:List Msg),okC c→(∀ t∈a,Q t)→(∀ m∈acc,P m)→∀ m∈(ag6 c a acc).1,P m
 | [],c,acc,hc,hq,h=>h
 | t::r,c,acc,hc,hq,h=>by
  rw [ag6]
  obtain ⟨h1,h2⟩:=dM6 (ty:=t.type_) (d:=t.data) hc
  by_cases he:(aq6 c t.type_ t.data).2.2≠0
  ·rw [if_pos he]; intro m hm; cases hm
  ·rw [if_neg he]
   refine dR8 hP r _ _ h1 (fun x hx=>hq x (List.mem_cons_of_mem _ hx)) (fun m hm=>?_)
   rcases List.mem_append.1 hm with hm | hm
   ·exact h m hm
   ·exact hP _ _ hc (hq t (List.mem_cons_self ..)) m hm
def Except.app (x:Except Int (List Tlv)) (a:List Tlv):Except Int (List Tlv):=x.map (a++·)
theorem eu1:∀ (a:Bs) (p:Int) (la:List Tlv),spl p a=.ok la→∀ b,spl p (a++b)=(spl (p+a.length) b).map (la++·):=by
 intro a
 induction h:a.length using Nat.strongRecOn generalizing a with
 | ind n ih=>
  intro p la hs b
  subst h
  match a,hs with
  | [],hs=>
   rw [aD3] at hs
   cases hs
   rw [List.nil_append,show p+((([]:Bs).length:Nat):Int)=p by simp]
   cases spl p b <;> rfl
  | t::r,hs=>
   by_cases ht:t=0
   ·subst ht
    rw [bl1] at hs
    cases hr:spl (p+1) r with
    | error q=>rw [hr] at hs; cases hs
    | ok lr=>
     rw [hr] at hs
     cases hs
     have:=ih r.length (by simp) r rfl (p+1) lr hr b
     rw [List.cons_append,bl1,this,show p+1+(r.length:Int)=p+((((0:UInt8)::r).length:Nat):Int) by simp; omega]
     cases spl (p+((((0:UInt8)::r).length:Nat):Int)) b <;> rfl
   ·match r,hs with
    | [],hs=>rw [bZ6 ht] at hs; cases hs
    | n::d,hs=>
     by_cases hn:d.length < n.toNat
     ·rw [bZ7 ht hn] at hs; cases hs
     ·rw [bc5 ht (by omega)] at hs
      cases hr:spl (p+2+n.toNat) (d.drop n.toNat) with
      | error q=>rw [hr] at hs; cases hs
      | ok lr=>
       rw [hr] at hs
       cases hs
       have:=ih (d.drop n.toNat).length (by simp; omega) (d.drop n.toNat) rfl _ lr hr b
       rw [List.cons_append,List.cons_append,bc5 ht (by rw [List.length_append]; omega),List.drop_append_of_le_length (by omega),this,List.take_append_of_le_length (by omega),show p+2+(n.toNat:Int)+((d.drop n.toNat).length:Int)=p+(((t::n::d).length:Nat):Int) by simp; omega]
       cases spl (p+(((t::n::d).length:Nat):Int)) b <;> rfl
end Go.VP
namespace Go.VP
open Go Go.VI
structure aB8 (m:Msg):Prop where
 kind:m.kind=11
 bare:ag0 m=true
 subs:aq2 m.subs=true
 inn:inB m.ae m.prefix_ m.plen=true
 iv:0≤m.interval∧m.interval < 65536
 sq:0≤m.seq∧m.seq < 65536
 me:0≤m.metric∧m.metric < 65536
 far:m.metric=65535→m.id=[]∧m.next=[]
 near:m.metric≠65535→0 < m.ae∧m.id.length=8∧(m.next=[]∨bw1 m.next=af1 m.ae)
def eu2 (m:Msg):Bool:=if m.metric=65535 then (m.id==[] && m.next==[]) else decide (0 < m.ae) && (decide (m.id.length=8) && (m.next==[] || decide (bw1 m.next=af1 m.ae)))
noncomputable def ef5 (m:Msg):Bool:=decide (m.kind=11) && (ag0 m && (aq2 m.subs && (inB m.ae m.prefix_ m.plen && (ac7 m.interval 2 && (ac7 m.seq 2 && (ac7 m.metric 2 && eu2 m))))))
theorem ef6 {m:Msg}:ef5 m=true↔aB8 m:=by
 unfold ef5 eu2
 simp only [Bool.and_eq_true,decide_eq_true_eq,cj2]
 constructor
 ·rintro ⟨a,b,c,d,e,f,g,h⟩
  refine ⟨a,b,c,d,e,f,g,fun hm=>?_,fun hm=>?_⟩
  ·rw [if_pos hm] at h; simpa using h
  ·rw [if_neg hm] at h; simpa using h
 ·intro h
  refine ⟨h.1,h.2,h.3,h.4,h.5,h.6,h.7,?_⟩
  by_cases hm:m.metric=65535
  ·rw [if_pos hm]; simpa using h.far hm
  ·rw [if_neg hm]; simpa using h.near hm
def ef7 (ae:Int) (a:Bs) (plen:Int):Msg:=⟨12,0,0,[],0,ae,a,plen,0,[],0,[],0,0,0,0,0,0,0,[],[],[],0,[],[]⟩
theorem aB8.asR {m:Msg} (h:aB8 m):au7 (ef7 m.ae m.prefix_ m.plen):=by
 obtain ⟨a,b,c,d,e⟩:=df5.1 h.inn
 have hb:ah2 (ef7 m.ae m.prefix_ m.plen)=some (ef7 m.ae m.prefix_ m.plen):=rfl
 exact ⟨by rw [ag0,hb]; exact an3 _,rfl,a,b,c,d,e,rfl⟩
def aE7:Bs→Bs→Nat
 | a::x,b::y=>if a=b then aE7 x y+1 else 0
 | _,_=>0
theorem ef8:∀ x y:Bs,aE7 x y≤x.length∧aE7 x y≤y.length
 | [],y=>by simp [aE7]
 | a::x,[]=>by simp [aE7]
 | a::x,b::y=>by
  have:=ef8 x y
  rw [aE7]; split <;> simp <;> omega
theorem dE7:∀ x y:Bs,x.take (aE7 x y)=y.take (aE7 x y)
 | [],y=>by simp [aE7]
 | a::x,[]=>by simp [aE7]
 | a::x,b::y=>by
  rw [aE7]; split
  ·rename_i h; rw [List.take_succ_cons,List.take_succ_cons,dE7 x y,h]
  ·rfl
def bY8 (ae:Int):Int:=if ae=0 then 0 else 128
def ck7 (m:Msg) (n:Nat):Bs:=[aa1 m.ae,aa1 (bY8 m.ae),aa1 m.plen,aa1 n]++(be 2 m.interval++(be 2 m.seq++(be 2 m.metric++((ac5 m).drop n++ab5 m.subs))))
theorem aB8.pre {m:Msg} (h:aB8 m):(0≤m.ae∧m.ae < 4)∧(0≤m.plen∧m.plen≤128)∧((ac5 m).length:Int)=ad9 m.plen - ag2 m.ae∧(ac5 m).length≤16∧(0≤ag2 m.ae∧ag2 m.ae≤8)∧m.prefix_.length≤16:=by
 have r:=h.asR
 have hc:((ac5 m).length:Int)=ad9 m.plen - ag2 m.ae:=r.cut.2
 obtain ⟨l1,l2,l3,l4,l5,l6⟩:=at9 r.ae r.plen
 have hl:(m.prefix_.length:Int)=szA m.ae:=r.len
 have hb:=bo4 m.ae
 dsimp only [ef7] at l1 l2 l3 l4 l5 l6
 exact ⟨r.ae,⟨l4,l5⟩,hc,by omega,hb,by omega⟩
theorem ef9 {m:Msg} (h:aB8 m) (n:Nat):(ck7 m n).length=10+((ac5 m).length - n)+(ab5 m.subs).length:=by
 unfold ck7
 simp [ab6]; omega
theorem eC4 {m:Msg} (h:aB8 m) {n:Nat} (hn:n≤(ac5 m).length):ae7 (ck7 m n)=(⟨m.ae,bY8 m.ae,m.plen,n,m.interval,m.seq,m.metric,1,(ac5 m).drop n,m.subs⟩,true,0):=by
 obtain ⟨hae,hpl,hbl,h16,hbs,_⟩:=h.pre
 obtain ⟨hr,hs⟩:=aK7 h.subs
 have hg:=db7 hr hs
 have q1:as3 m.ae m.plen=false:=(eo0 h.asR).1
 have hlen:=ef9 h n
 have uA:((aa1 m.ae).toNat:Int)=m.ae:=by rw [ai6,if_pos hae.1]; omega
 have uF:((aa1 (bY8 m.ae)).toNat:Int)=bY8 m.ae:=by unfold bY8; split <;> rfl
 have uP:((aa1 m.plen).toNat:Int)=m.plen:=by rw [ai6,if_pos hpl.1]; omega
 have uN:((aa1 (n:Int)).toNat:Int)=n:=by rw [ai6,if_pos (by omega)]; omega
 generalize hD:ck7 m n=D at *
 have e:D=[aa1 m.ae,aa1 (bY8 m.ae),aa1 m.plen,aa1 n]++(be 2 m.interval++(be 2 m.seq++(be 2 m.metric++((ac5 m).drop n++ab5 m.subs)))):=by rw [← hD]; rfl
 have t0:bt D 0=m.ae:=by rw [e]; exact uA
 have t1:bt D 1=bY8 m.ae:=by rw [e]; exact uF
 have t2:bt D 2=m.plen:=by rw [e]; exact uP
 have t3:bt D 3=n:=by rw [e]; exact uN
 have c4:aa2 D 4 2=be 2 m.interval:=by
  rw [e,an5 (k:=4) rfl (by omega) (by omega)]; exact aK8 rfl
 have c6:aa2 D 6 2=be 2 m.seq:=by
  rw [e,an5 (k:=4) rfl (by omega) (by omega),an5 (k:=2) rfl (by omega) (by omega)]; exact aK8 rfl
 have c8:aa2 D 8 2=be 2 m.metric:=by
  rw [e,an5 (k:=4) rfl (by omega) (by omega),an5 (k:=2) rfl (by omega) (by omega),an5 (k:=2) rfl (by omega) (by omega)]; exact aK8 rfl
 have hrn:ah1 m.ae m.plen n=(((ac5 m).drop n).length:Nat):=by unfold ah1; rw [List.length_drop]; omega
 have c10:aa2 D 10 (((ac5 m).drop n).length:Nat)=(ac5 m).drop n:=by
  rw [e,an5 (k:=4) rfl (by omega) (by omega),an5 (k:=2) rfl (by omega) (by omega),an5 (k:=2) rfl (by omega) (by omega),an5 (k:=2) rfl (by omega) (by omega)]; exact aK8 rfl
 have hp:am7 D 10 m.ae m.plen n=((ac5 m).drop n,0):=by
  rw [dc6 q1 (by omega) (by rw [hrn,List.length_drop]; omega),hrn,c10]
 have hdr:D.drop (10+ah1 m.ae m.plen n).toNat=ab5 m.subs:=by
  rw [hrn,e,← List.append_assoc,← List.append_assoc,← List.append_assoc,← List.append_assoc]
  exact List.drop_left' (by simp [ab6]; omega)
 unfold ae7
 rw [if_neg (by omega),t0,if_neg (by omega)]
 dsimp only
 rw [t2,t3,t1,hp,hdr,hg]
 dsimp only
 rw [if_neg (show ¬(0:Int)≠0 by decide),if_neg (show ¬(0:Int)≠0 by decide),c4,c6,c8,aA3 h.iv,aA3 h.sq,aA3 h.me,if_pos rfl]
def aj3 (c:Ctx) (f:Int):Bs:=if f=0 then c.next_c0 else c.next_c1
def aG2 (c:Ctx) (ae:Int) (a:Bs):Ctx:=if ae=0 then c else ⟨c.prefix_c0,(if ae=1 then a else c.prefix_c1),(if ae=2 then a else c.prefix_c2),(if ae=3 then a else c.prefix_c3),c.next_c0,c.next_c1,c.id⟩
theorem eo2 (c:Ctx) (ae:Int) (a:Bs):(aG2 c ae a).id=c.id:=by unfold aG2; split <;> rfl
theorem eC5 (c:Ctx) (ae:Int) (a:Bs) (f:Int):aj3 (aG2 c ae a) f=aj3 c f:=by unfold aG2; split <;> rfl
theorem fb0 {m:Msg} (hk:m.kind=11) (hb:ag0 m=true):(⟨11,0,0,[],0,m.ae,m.prefix_,m.plen,0,m.next,m.metric,m.id,m.seq,0,m.interval,0,0,0,0,[],[],[],0,[],m.subs⟩:Msg)=m:=by
 have hx:ah2 m=some ⟨m.kind,0,0,[],0,m.ae,m.prefix_,m.plen,0,m.next,m.metric,m.id,m.seq,0,m.interval,0,0,0,0,[],[],[],0,[],m.subs⟩:=by
  unfold ah2; rw [if_neg (by omega),if_neg (by omega),if_neg (by omega),if_neg (by omega),if_neg (by omega),if_neg (by omega),if_neg (by omega),if_neg (by omega),if_neg (by omega),if_neg (by omega),if_pos hk]
 rw [ag0,hx] at hb
 have:=aO2.1 hb
 rw [hk] at this
 exact this
theorem eM5 {c:Ctx} {m:Msg} {n:Nat} (hc:okC c) (h:aB8 m) (hn:n≤(ac5 m).length)
  (hk:n≠0→aq5 c m.ae≠[]∧((aq5 c m.ae).drop (ag2 m.ae).toNat).take n=(ac5 m).take n)
  (hf:m.metric≠65535→c.id=m.id∧aj3 c (af1 m.ae)=m.next):aT0 c (ck7 m n)=(aG2 c m.ae m.prefix_,[m],0):=by
 obtain ⟨hae,hpl,hbl,h16,hbs,_⟩:=h.pre
 have hw:al1 m.ae (ac5 m) m.plen=m.prefix_:=cw9 (m:=ef7 m.ae m.prefix_ m.plen) h.asR
 have ht:=eC4 h hn
 have ha:am2 c (ae7 (ck7 m n)).1=(m.prefix_,true):=by
  rw [ht]; unfold am2
  dsimp only
  by_cases h0:n=0
  ·rw [if_pos (by omega),h0,List.drop_zero,hw]
  ·obtain ⟨k1,k2⟩:=hk h0
   have hcut:aa2 (aq5 c m.ae) (ag2 m.ae) (n:Int)=(ac5 m).take n:=by
    rw [← k2]; unfold aa2
    rw [List.drop_take,show (ag2 m.ae+(n:Int)).toNat - (ag2 m.ae).toNat=n by omega]
   rw [if_neg (by omega),if_neg k1,hcut,List.take_append_drop,hw]
 have hfl:ao9 c (ae7 (ck7 m n)).1 m.prefix_=aG2 c m.ae m.prefix_:=by
  rw [ht]; unfold ao9 aG2 bY8
  dsimp only
  by_cases a0:m.ae=0
  ·rw [if_pos a0,if_pos a0]
  ·simp only [if_neg a0]
   rw [if_pos (show (128:Int)≤128 by decide),if_neg (show ¬((128:Int) / 64 % 2=1) by decide)]
 have hto:bH1 (aG2 c m.ae m.prefix_) (ae7 (ck7 m n)).1=true:=by
  rw [ht]; unfold bH1
  dsimp only
  rw [eo2]
  by_cases hm:m.metric=65535
  ·simp [hm]
  ·have hn:=h.near hm
   have hi:c.id≠[]:=by
    rw [(hf hm).1]; intro e; rw [e] at hn; exact absurd hn.2.1 (by decide)
   simp [hi]; omega
 have hu:cJ6 (aG2 c m.ae m.prefix_) (ae7 (ck7 m n)).1 m.prefix_=m:=by
  rw [ht]; unfold cJ6
  dsimp only
  have hx:=fb0 h.kind h.bare
  by_cases hm:m.metric=65535
  ·obtain ⟨f1,f2⟩:=h.far hm
   rw [if_pos hm,if_pos hm]
   rw [f1,f2] at hx
   exact hx
  ·obtain ⟨f1,f2⟩:=hf hm
   rw [if_neg hm,if_neg hm,eo2,f1]
   have:(if af1 m.ae=0 then (aG2 c m.ae m.prefix_).next_c0 else (aG2 c m.ae m.prefix_).next_c1)=m.next:=by
    rw [← f2]; exact eC5 c m.ae m.prefix_ (af1 m.ae)
   rw [this]
   exact hx
 rw [eU8 (by rw [ht]) (by rw [ha]),ha,hfl,if_pos hto,hu]
def idD (s:Bs):Bs:=0::0::s
def dM7 (a:Bs):Bs:=if aj0 a=true then 3::0::a.drop 8 else if a.length=4 then 1::0::a else 2::0::a
theorem bY9 {d:Bs} {n:Int} (h:(d.length:Int)=n):ax4 d n=(true,0):=by
 unfold ax4
 rw [if_neg (by omega),List.drop_eq_nil_of_le (by omega),eL6]
theorem eM6 {c:Ctx} {s:Bs} (h:s.length=8):idF c (idD s)=(au0 c s,0):=by
 unfold idF idD
 rw [bY9 (by simp [h]),if_pos rfl]
 have:aa2 (0::0::s) 2 8=s:=by
  show aa2 ([0,0]++s) 2 8=s
  rw [an5 (k:=2) rfl (by omega) (by omega)]
  have:=aK8 (x:=s) (y:=[]) (n:=8) (by omega)
  rwa [List.append_nil] at this
 rw [this]
theorem eu3 {a:Bs} {f:Int} (hf:bw1 a=f) (h:f=0∨f=1):(f=0∧a.length=4)∨(f=1∧a.length=16):=by
 unfold bw1 at hf
 split at hf
 ·exact .inl ⟨hf.symm,by assumption⟩
 split at hf
 ·exact .inr ⟨hf.symm,by assumption⟩
 ·omega
theorem eC6 {c:Ctx} {a:Bs} {f:Int} (h:(f=0∧a.length=4)∨(f=1∧a.length=16)):ck5 c (dM7 a)=(bl3 c f a,0):=by
 have ca:∀ (x y:UInt8) (s:Bs) (n:Int),(s.length:Int)=n→aa2 (x::y::s) 2 n=s:=fun x y s n hs=>by
  show aa2 ([x,y]++s) 2 n=s
  rw [an5 (k:=2) rfl (by omega) (by omega)]
  have:=aK8 (x:=s) (y:=[]) (n:=n) hs
  rwa [List.append_nil] at this
 unfold dM7
 by_cases hl:aj0 a=true
 ·have h16:=aA0 hl
  have h8:(a.drop 8).length=8:=by rw [List.length_drop]; omega
  have b0:bt (3::0::a.drop 8) 0=3:=rfl
  have n3:aB7 3=8:=rfl
  have f3:af1 3=1:=rfl
  rw [if_pos hl]
  unfold ck5 bT4
  rw [b0,n3,if_neg (by simp; omega),if_neg (by omega),bY9 (by simp [h8]),if_pos rfl,if_pos rfl,ca _ _ _ 8 (by omega),f3]
  have:(aC3 (a.drop 8)).1=a:=by unfold aC3; rw [if_pos h8]; exact dC4 hl
  rw [this]
  rcases h with ⟨rfl,h⟩ | ⟨rfl,h⟩
  ·omega
  ·rfl
 ·rw [if_neg hl]
  rcases h with ⟨rfl,h⟩ | ⟨rfl,h⟩
  ·have b0:bt (1::0::a) 0=1:=rfl
   have n3:aB7 1=4:=rfl
   have f3:af1 1=0:=rfl
   rw [if_pos h]
   unfold ck5 bT4
   rw [b0,n3,if_neg (by simp; omega),if_neg (by omega),bY9 (by simp [h]),if_pos rfl,if_neg (by omega),ca _ _ _ 4 (by omega),f3]
  ·have b0:bt (2::0::a) 0=2:=rfl
   have n3:aB7 2=16:=rfl
   have f3:af1 2=1:=rfl
   rw [if_neg (by omega)]
   unfold ck5 bT4
   rw [b0,n3,if_neg (by simp; omega),if_neg (by omega),bY9 (by simp [h]),if_pos rfl,if_neg (by omega),ca _ _ _ 16 (by omega),f3]
end Go.VP
namespace Go.VP
open Go Go.VI
structure eg0 (m:Msg):Prop where
 kind:m.kind=14
 bare:ag0 m=true
 ty:10 < m.type_∧m.type_ < 256
 len:m.data.length < 256
inductive bw9 (m:Msg):Prop
 | field (h:aB6 m)
 | route (h:au7 m)
 | upd (h:aB8 m)
 | opq (h:eg0 m)
structure aE8 (m:Msg):Prop where
 good:bw4 m
 ty:IntKind.has .i64 m.type_
 metric:IntKind.has .i64 m.metric
theorem eu4 {d:Bs} (h:(ae7 d).1.have_=1) (hk:(ae7 d).2.1=true):bD9 (ae7 d).1.subs∧al0 (ae7 d).1.subs≤200∧(ae7 d).1.subs.length≤d.length∧10+al0 (ae7 d).1.subs≤d.length∧(0≤(ae7 d).1.interval∧(ae7 d).1.interval < 65536)∧(0≤(ae7 d).1.seq∧(ae7 d).1.seq < 65536)∧(0≤(ae7 d).1.plen∧(ae7 d).1.plen≤ay5 (ae7 d).1.ae):=by
 have b0:=ae6 d 0
 have b2:=ae6 d 2
 unfold ae7 at h hk ⊢
 split at hk
 ·cases hk
 rename_i h1
 split at hk
 ·cases hk
 rename_i h2
 rw [if_neg h1,if_neg h2] at h ⊢
 dsimp only at h hk ⊢
 split at hk
 ·cases hk
 rename_i h3
 split at hk
 ·cases hk
 rename_i h4
 rw [if_neg h3,if_neg h4] at h ⊢
 dsimp only at h ⊢
 have h3':(am7 d 10 (bt d 0) (bt d 2) (bt d 3)).2=0:=by simpa using h3
 have hrest:0≤ah1 (bt d 0) (bt d 2) (bt d 3):=by
  unfold am7 at h3'
  split at h3'
  ·cases h3'
  ·omega
 have hg:as3 (bt d 0) (bt d 2)=false:=by
  unfold am7 at h3'
  split at h3'
  ·cases h3'
  ·rename_i q; cases e:as3 (bt d 0) (bt d 2) with
   | false=>rfl
   | true=>exact absurd (.inl e) q
 have hp:aY3 (bt d 0)≤bt d 2∧bt d 2≤ay5 (bt d 0):=by unfold as3 at hg; simpa using hg
 rcases cI6 (d.drop (10+ah1 (bt d 0) (bt d 2) (bt d 3)).toNat) with ⟨l,e,q1,q2,q3,q4⟩ | ⟨l,e⟩ | ⟨x,e,q⟩
 ·rw [e] at h ⊢
  rw [List.length_drop] at q3 q4
  exact ⟨q1,q2,by dsimp only; omega,by dsimp only; omega,aq9 (by omega) (by omega),aq9 (by omega) (by omega),by omega,hp.2⟩
 ·rw [e] at h; cases h
 ·rw [e] at h4; exact absurd q h4
theorem eu5 {c:Ctx} {d:Bs} (hc:okC c) (hd:d.length≤900):(aT0 c d).2.1=[]∨∃ m,(aT0 c d).2.1=[m]∧aB8 m∧aE8 m∧al0 m.subs+10≤d.length∧(aT0 c d).2.2=0∧(m.metric≠65535→(aT0 c d).1.id=m.id∧aj3 (aT0 c d).1 (af1 m.ae)=m.next):=by
 unfold aT0
 split
 rotate_left
 ·exact .inl rfl
 rename_i ht
 split
 rotate_left
 ·exact .inl rfl
 rename_i ha
 split
 rotate_left
 ·exact .inl rfl
 rename_i hto
 obtain ⟨hr,h0⟩:=dc7 ht
 have hl:=dc8 hc hr ha
 have hk:=dE5 hc hr ha
 have h1:(ae7 d).1.have_=1:=by
  unfold bH1 at hto; simp at hto; exact hto.1
 obtain ⟨s1,s2,s3,s4,s5,s6,s7⟩:=eu4 h1 ht
 have hclean:ai2 (am2 c (ae7 d).1).1 (ae7 d).1.plen=(am2 c (ae7 d).1).1:=by
  unfold am2 at ha ⊢
  split
  ·unfold al1; exact bY7 _ _
  ·rename_i q; rw [if_neg q] at ha
   split
   ·rename_i q2; rw [if_pos q2] at ha; cases ha
   ·unfold al1; exact bY7 _ _
 have hok:=dR4 hc hr hl hk
 have hlow:=hr.low
 have hsub2:=bo2 (l:=(ae7 d).1.subs)
 generalize (ae7 d).1=r at *
 generalize (am2 c r).1=a at *
 have hae:=hr.ae
 have hme:=hr.metric
 have hsz:szA r.ae≤16:=by unfold szA; split <;> (try split) <;> (try split) <;> omega
 have hmu:(cJ6 (ao9 c r a) r a).metric=r.metric:=rfl
 have hhi:ay5 r.ae≤128:=by unfold ay5; split <;> (try split) <;> (try split) <;> omega
 generalize hfc:ao9 c r a=F at *
 have hFid:r.metric≠65535→F.id.length=8∧0 < r.ae:=fun hm=>by
  unfold bH1 at hto
  simp [h1,hm] at hto
  rcases hok.2.2.2.2.2.2 with q | q
  ·exact absurd q hto.2
  ·exact ⟨q,hto.1⟩
 have hFn:r.metric≠65535→aj3 F (af1 r.ae)=[]∨bw1 (aj3 F (af1 r.ae))=af1 r.ae:=fun hm=>by
  have hp:=(hFid hm).2
  have hf:=cJ5 (ae:=r.ae) (by omega)
  unfold aj3
  by_cases f0:af1 r.ae=0
  ·rw [if_pos f0,f0]
   rcases hok.2.2.2.2.1 with q | q
   ·exact .inl q
   ·right; unfold bw1; rw [if_pos q]
  ·rw [if_neg f0,show af1 r.ae=1 by omega]
   rcases hok.2.2.2.2.2.1 with q | q
   ·exact .inl q
   ·right; unfold bw1; rw [if_neg (by omega),if_pos q]
 have e0:([]:Bs).length≤400:=by decide
 have n0:([]:List aY0).length≤1000:=by decide
 have has0:IntKind.has .i64 0:=af2.2 (by omega)
 have hnl:(if r.metric=65535 then ([]:Bs) else (if af1 r.ae=0 then F.next_c0 else F.next_c1)).length≤400:=by
  split
  ·exact e0
  ·have:=hok.2.2.2.2.1; have:=hok.2.2.2.2.2.1
   split
   ·rcases hok.2.2.2.2.1 with q | q
    ·rw [q]; exact e0
    ·omega
   ·rcases hok.2.2.2.2.2.1 with q | q
    ·rw [q]; exact e0
    ·omega
 have hil:(if r.metric=65535 then ([]:Bs) else F.id).length≤400:=by
  split
  ·exact e0
  ·rcases hok.2.2.2.2.2.2 with q | q
   ·rw [q]; exact e0
   ·omega
 refine .inr ⟨cJ6 F r a,rfl,⟨rfl,?_,aY2 s1 s2,?_,s5,s6,by rw [hmu]; omega,fun hm=>?_,fun hm=>?_⟩,⟨⟨⟨n0,by show r.subs.length≤1000; omega,e0,by show a.length≤400; omega,hnl,hil,e0,e0,e0,(fun d h=>by cases h),s1.few⟩,has0,af2.2 (by show _≤r.interval∧r.interval≤_; omega),af2.2 (by show _≤r.seq∧r.seq≤_; omega),has0,af2.2 (by show _≤(11:Int)∧(11:Int)≤_; omega),has0,af2.2 (by show _≤r.ae∧r.ae≤_; omega),af2.2 (by show _≤r.plen∧r.plen≤_; omega),has0⟩,has0,af2.2 (by rw [hmu]; omega)⟩,by show al0 r.subs+10≤_; omega,rfl,fun hm=>?_⟩
 ·have:ah2 (cJ6 F r a)=some (cJ6 F r a):=rfl
  rw [ag0,this]; exact an3 _
 ·exact df5.2 ⟨hae,hl,⟨hlow,s7.2⟩,hclean,hk⟩
 ·have hm':r.metric=65535:=hm
  show (if r.metric=65535 then [] else F.id)=[]∧(if r.metric=65535 then [] else _)=[]
  rw [if_pos hm',if_pos hm']; exact ⟨rfl,rfl⟩
 ·have hm':r.metric≠65535:=hm
  show 0 < r.ae∧(if r.metric=65535 then [] else F.id).length=8∧((if r.metric=65535 then [] else aj3 F (af1 r.ae))=[]∨bw1 (if r.metric=65535 then [] else aj3 F (af1 r.ae))=af1 r.ae)
  rw [if_neg hm',if_neg hm']
  exact ⟨(hFid hm').2,(hFid hm').1,hFn hm'⟩
 ·have hm':r.metric≠65535:=hm
  show F.id=(if r.metric=65535 then [] else F.id)∧aj3 F (af1 r.ae)=(if r.metric=65535 then [] else aj3 F (af1 r.ae))
  rw [if_neg hm',if_neg hm']
  exact ⟨rfl,rfl⟩
end Go.VP
namespace Go.VP
open Go Go.VI
def bj6 (b:Bs):Int:=bt b 2 * 256+bt b 3
def ai3 (b:Bs):Bs × Int × Int:=
 if 65535 < (b.length:Int) then ([],65535,10) else if (b.length:Int) < 4 then ([],b.length,2)
 else if bt b 0≠42 then ([],0,4) else if bt b 1≠2 then ([],1,4)
 else if (b.length:Int) < 4+bj6 b then ([],b.length,2) else (aa2 b 4 (bj6 b),0,0)
theorem dM8 {R:Type} {p:Prop} [Decidable p] {t f r:R} (h:p→t=r) (h':¬p→f=r):(if decide p=true then t else f)=r:=by
 by_cases hp:p
 ·rw [ifd hp]; exact h hp
 ·rw [ifn hp]; exact h' hp
theorem eo3 {b:Bs} (h:4≤b.length):aK2 (b,())=some ((bj6 b,()),()):=by
 have h2:=ae6 b 2
 have h3:=ae6 b 3
 rw [dA8,ai5 (i:=2) (by omega),Option.bind_some,ai5 (i:=3) (by omega),Option.bind_some,bT0,bT0]
 show some ((ad2 .or .i64 (ai0 .i64 (bt b 2) 8) (bt b 3),()),())=_
 rw [es5 (by omega) (by omega)]; rfl
theorem bo5 (b:Bs):0≤bj6 b∧bj6 b≤65535:=by
 have h2:=ae6 b 2
 have h3:=ae6 b 3
 unfold bj6; omega
theorem eV2 (b:Bs):bu0 (b,())=some (ag4 (ai3 b),()):=by
 have hr:=bo5 b
 rw [dA9]; unfold ai3
 refine dM8 (fun h=>by rw [if_pos h]) (fun h1=>?_)
 rw [if_neg h1]
 refine dM8 (fun h=>by rw [if_pos h]) (fun h2=>?_)
 rw [if_neg h2,ai5 (i:=0) (by omega),Option.bind_some]
 refine ab9 (fun h=>by rw [if_pos (show bt b 0≠42 from h)]) (fun h3=>?_)
 rw [if_neg (show ¬bt b 0≠42 from fun q=>q h3),ai5 (i:=1) (by omega),Option.bind_some]
 refine ab9 (fun h=>by rw [if_pos (show bt b 1≠2 from h)]) (fun h4=>?_)
 rw [if_neg (show ¬bt b 1≠2 from fun q=>q h4),eo3 (by omega),Option.bind_some]
 dsimp only
 rw [w64 (by omega) (by omega)]
 refine dM8 (fun h=>by rw [if_pos h]) (fun h5=>?_)
 rw [if_neg h5,Option.bind_some]
 dsimp only
 rw [w64 (by omega) (by omega),if_pos (by omega)]; rfl
theorem cJ7 {b:Bs} (h:(ai3 b).2.2=0):4≤b.length∧b.length≤65535∧bt b 0=42∧bt b 1=2∧4+bj6 b≤b.length∧ai3 b=(aa2 b 4 (bj6 b),0,0)∧((ai3 b).1.length:Int)=bj6 b:=by
 have hr:=bo5 b
 unfold ai3 at h ⊢
 split at h
 ·cases h
 split at h
 ·cases h
 split at h
 ·cases h
 split at h
 ·cases h
 split at h
 ·cases h
 rename_i h1 h2 h3 h4 h5
 rw [if_neg h1,if_neg h2,if_neg h3,if_neg h4,if_neg h5]
 exact ⟨by omega,by omega,by simpa using h3,by simpa using h4,by omega,rfl,ah7 (by omega) (by omega) (by omega)⟩
theorem eC7 {b:Bs} (h:(ai3 b).2.2≠0):(ai3 b).1=[]∧0≤(ai3 b).2.1∧(ai3 b).2.1≤b.length:=by
 unfold ai3 at h ⊢
 split
 ·exact ⟨rfl,by dsimp only; omega,by dsimp only; omega⟩
 split
 ·exact ⟨rfl,by dsimp only; omega,by dsimp only; omega⟩
 split
 ·exact ⟨rfl,by dsimp only; omega,by dsimp only; omega⟩
 split
 ·exact ⟨rfl,by dsimp only; omega,by dsimp only; omega⟩
 split
 ·exact ⟨rfl,by dsimp only; omega,by dsimp only; omega⟩
 ·rename_i h1 h2 h3 h4 h5
  rw [if_neg h1,if_neg h2,if_neg h3,if_neg h4,if_neg h5] at h
  exact absurd rfl h
def bx0 (b:Bs):Bs:=b.drop (4+bj6 b).toNat
theorem eu6 {b:Bs} (h:(ai3 b).2.2=0):aU0 (b,())=some ((bx0 b,()),()):=by
 have hr:=bo5 b
 obtain ⟨h1,h2,_,_,h5,_⟩:=cJ7 h
 rw [da9,eo3 h1,Option.bind_some]
 dsimp only
 rw [w64 (by omega) (by omega),if_pos (by omega)]; rfl
def aI0 (s:Bs):Bs × Bool:=if 65531 < (s.length:Int) then ([],false) else (42::2::(be 2 s.length++s),true)
theorem dR9 {s t:Bs} (h:s.length≤65531) (ht:t.length+s.length≤65531):ai3 ((aI0 s).1++t)=(s,0,0)∧bx0 ((aI0 s).1++t)=t∧(aI0 s).1.length=4+s.length∧(aI0 s).2=true:=by
 have e:aI0 s=(42::2::(be 2 s.length++s),true):=by unfold aI0; rw [if_neg (by omega)]
 rw [e]
 dsimp only
 have hL:((42::2::(be 2 (s.length:Int)++s)):Bs).length=4+s.length:=by simp [ab6]; omega
 have hb:(42::2::(be 2 (s.length:Int)++s))++t=([42,2]:Bs)++(be 2 (s.length:Int)++(s++t)):=by simp
 have n2:num (be 2 (s.length:Int))=s.length:=ci9 2 _ (by omega) (by omega)
 generalize hB:(42::2::(be 2 (s.length:Int)++s))++t=B at *
 have hBl:B.length=4+s.length+t.length:=by rw [hb]; simp [ab6]; omega
 have b0:bt B 0=42:=by rw [hb]; rfl
 have b1:bt B 1=2:=by rw [hb]; rfl
 have sz:bj6 B=s.length:=by
  unfold bj6
  rw [← eK0 (s:=B) (p:=2) (by omega)]
  have:aa2 B ((2:Nat):Int) 2=be 2 (s.length:Int):=by
   rw [hb]
   show aa2 (([42,2]:Bs)++(be 2 (s.length:Int)++(s++t))) 2 2=_
   unfold aa2
   show List.drop 2 (List.take 4 (([42,2]:Bs)++(be 2 (s.length:Int)++(s++t))))=_
   rw [show 4=([42,2]:Bs).length+2 from rfl,List.take_length_add_append,List.drop_left' (by rfl),List.take_left' (ab6 2 _)]
  rw [this,n2]
 have ct:aa2 B 4 (s.length:Int)=s:=by
  unfold aa2
  rw [hb,show ((4:Int)+(s.length:Int)).toNat=4+s.length by omega,show (4:Int).toNat=4 from rfl,← List.append_assoc,← List.append_assoc,List.take_left' (by simp [ab6]; omega),List.drop_left' (by simp [ab6])]
 refine ⟨?_,?_,hL,rfl⟩
 ·unfold ai3
  rw [if_neg (by omega),if_neg (by omega),if_neg (by rw [b0]; simp),if_neg (by rw [b1]; simp),sz,if_neg (by omega),ct]
 ·unfold bx0
  rw [sz,hb,← List.append_assoc,← List.append_assoc,List.drop_left' (by simp [ab6]; omega)]
end Go.VP
namespace Go.VP
open Go Go.VI
theorem fb1 {x:Int} (h:0≤x):ac8 .i64 x 8=x / 256:=by
 unfold ac8
 rw [show (2:Int) ^ (min (8:Int).toNat IntKind.i64.bits)=256 by decide]
 exact Int.fdiv_eq_ediv_of_nonneg _ (by decide)
theorem dS0 {c:Nat}:∀ (i m:Nat) (x:Int) (acc:Bs),i≤acc.length→acc.length≤100→i < m→0≤x→aP9 c m x ((i:Int) - 1) acc=some ((be i x++acc.drop i,true,()),())
 | 0,m,x,acc,h1,h2,hm,hx=>by
  obtain ⟨m,rfl⟩:∃ k,m=k+1:=⟨m - 1,by omega⟩
  rw [aO0,ifn (by omega)]; simp [be]
 | i+1,m,x,acc,h1,h2,hm,hx=>by
  obtain ⟨m,rfl⟩:∃ k,m=k+1:=⟨m - 1,by omega⟩
  have e:(((i+1:Nat):Int) - 1)=(i:Int):=by omega
  rw [aO0,e,ifd (by omega),if_pos (by omega),Int.toNat_natCast,if_pos (by omega),w64 (by omega) (by omega),fb1 hx,dS0 i m (x / 256) _ (by simp; omega) (by simp; omega) (by omega) (by omega),wu8,be]
  have:(acc.set i (aa1 (x % 256))).drop i=aa1 (x % 256)::acc.drop (i+1):=by
   rw [List.drop_eq_getElem_cons (by simp; omega),List.getElem_set_self,List.drop_set_of_lt (by omega)]
  rw [this]; simp
theorem eV3 {n:Int} {k:Nat} (hn:IntKind.has .i64 n) (h1:1≤k) (h7:k≤7):al5 (n,(k:Int),())=some (((db4 n k).1,(db4 n k).2,()),()):=by
 show bF8 fuel (n,(k:Int),())=_
 rw [cB6,ar3 hn h1 h7,Option.bind_some]
 unfold db4
 cases hf:ac7 n k with
 | false=>rfl
 | true=>
  have h0:0≤n:=by unfold ac7 at hf; rw [decide_eq_true_eq] at hf; exact hf.1
  have hr:(k:Int)≤aj9:=by unfold aj9; omega
  dsimp only
  rw [ah3,if_pos ⟨by omega,hr⟩,w64 (by omega) (by omega),Int.toNat_natCast,dS0 k fuel n _ (by simp) (by simp; omega) (ae2 (by omega)) h0]
  simp
theorem fe0 {n:Int} (hn:IntKind.has .i64 n):al5 (n,2,())=some (((db4 n 2).1,(db4 n 2).2,()),()):=eV3 (k:=2) hn (by omega) (by omega)
theorem eC8 {s:Bs} (h:s.length≤65531):db4 (s.length:Int) 2=(be 2 s.length,true):=by
 unfold db4; rw [if_pos (by unfold ac7; rw [decide_eq_true_eq]; omega)]
theorem eu7 {s:Bs} (h:65531 < (s.length:Int)):aI0 s=([],false):=by unfold aI0; rw [if_pos h]
theorem eC9 {s:Bs} (h:¬65531 < (s.length:Int)):aI0 s=(42::2::(be 2 s.length++s),true):=by unfold aI0; rw [if_neg h]
theorem eV4 {s:Bs} (h:s.length≤100000000):bs4 (s,())=some (((aI0 s).1,(aI0 s).2,()),()):=by
 rw [dy7,fe0 (af2.2 (by omega)),Option.bind_some]
 by_cases hs:65531 < (s.length:Int)
 ·rw [eu7 hs]
  cases hb:(db4 (s.length:Int) 2).2 with
  | false=>rfl
  | true=>dsimp only; rw [ah3,ifd hs]
 ·have h2:(be 2 (s.length:Int)).length=2:=ab6 2 _
  rw [eC9 hs,eC8 (by omega)]
  generalize be 2 (s.length:Int)=B at *
  dsimp only
  rw [ah3,ifn hs,if_pos (af7 (by omega)),if_pos (af7 (by simp; omega))]; rfl
end Go.VP
namespace Go.VP
open Go Go.VI
def Tg (t:Tlv):Prop:=(0≤t.type_∧t.type_≤255)∧t.data.length≤255
theorem aE8.small {m:Msg} (g:aE8 m):bY2 m:=by
 have:=g.good.few.list; have:=g.good.few.subs; exact ⟨by omega,by omega⟩
theorem eD0 {c:Ctx} {t:Tlv} (hc:okC c) (ht:Tg t):∀ m∈(aq6 c t.type_ t.data).2.1,bw9 m∧aE8 m:=by
 obtain ⟨ty,at_,d⟩:=t
 obtain ⟨ht,hd⟩:=ht
 have hd:d.length≤255:=hd
 have ht:0≤ty∧ty≤255:=ht
 have has0:IntKind.has .i64 0:=af2.2 (by omega)
 have mt:∀ m:Msg,aB6 m∨au7 m→m.type_=0∧m.metric=0:=fun m h=>by
  have key:∀ x,ag0 m=true→ah2 m=some x→x.type_=0∧x.metric=0→m.type_=0∧m.metric=0:=fun x hb hx h0=>by
   rw [ag0,hx] at hb
   have:=aO2.1 hb
   rw [← this]; exact h0
  rcases h with h | h
  ·rcases h.kinds with hk | hk | ⟨hk,_⟩ | ⟨hk,_⟩
   ·exact key _ h.bare (by unfold ah2; rw [hk]; rfl) ⟨rfl,rfl⟩
   ·exact key _ h.bare (by unfold ah2; rw [hk]; rfl) ⟨rfl,rfl⟩
   ·exact key _ h.bare (by unfold ah2; rw [hk]; rfl) ⟨rfl,rfl⟩
   ·exact key _ h.bare (by unfold ah2; rw [hk]; rfl) ⟨rfl,rfl⟩
  ·rcases h.kinds with hk | ⟨hk,_⟩
   ·exact key _ h.bare (by unfold ah2; rw [hk]; rfl) ⟨rfl,rfl⟩
   ·exact key _ h.bare (by unfold ah2; rw [hk]; rfl) ⟨rfl,rfl⟩
 intro m hm
 dsimp only at hm
 unfold aq6 at hm
 split at hm
 ·cases hm
 split at hm
 ·unfold bj5 at hm
  split at hm
  ·cases hm
  split at hm
  ·cases hm
  split at hm
  ·rcases eu5 (d:=d) hc (by omega) with h | ⟨x,h,hu,hg,_⟩
   ·rw [h] at hm; cases hm
   ·rw [h,List.mem_singleton] at hm; subst hm; exact ⟨.upd hu,hg⟩
  ·cases hm
 split at hm
 ·rename_i h25
  rcases ee5 (ty:=ty) (d:=d) h25 (by omega) with ⟨x,h,hr,hg,_⟩ | ⟨e,h⟩
  ·rw [h] at hm
   have:m=x:=by unfold bl4 at hm; simpa using hm
   subst this
   have:=mt m (.inl hr)
   exact ⟨.field hr,⟨hg,by rw [this.1]; exact has0,by rw [this.2]; exact has0⟩⟩
  ·rw [h] at hm
   unfold bl4 at hm
   split at hm
   ·cases hm
   ·cases hm
 split at hm
 ·rename_i h910
  rcases ef3 (ty:=ty) (d:=d) h910 (by omega) with ⟨x,h,hr,hg,_⟩ | ⟨e,h⟩
  ·rw [h] at hm
   have:m=x:=by unfold bl4 at hm; simpa using hm
   subst this
   have:=mt m (.inr hr)
   exact ⟨.route hr,⟨hg,by rw [this.1]; exact has0,by rw [this.2]; exact has0⟩⟩
  ·rw [h] at hm
   unfold bl4 at hm
   split at hm
   ·cases hm
   ·cases hm
 ·rw [List.mem_singleton] at hm
  subst hm
  have e0:([]:Bs).length≤400:=by decide
  have n0:([]:List aY0).length≤1000:=by decide
  have hb:ah2 (df7 ty d)=some (df7 ty d):=rfl
  refine ⟨.opq ⟨rfl,by rw [ag0,hb]; exact an3 _,by show 10 < ty∧ty < 256; omega,by show d.length < 256; omega⟩,⟨⟨⟨n0,by show 0≤1000; omega,e0,e0,e0,e0,e0,e0,by show d.length≤400; omega,(fun d h=>by cases h),(fun d h=>by cases h)⟩,has0,has0,has0,has0,af2.2 (by show _≤(14:Int)∧(14:Int)≤_; omega),has0,has0,has0,has0⟩,af2.2 (by show _≤ty∧ty≤_; omega),has0⟩⟩
theorem eu8 {l:List Tlv} {c:Ctx} (hc:okC c) (hl:∀ t∈l,Tg t):∀ m∈(ag6 c l []).1,bw9 m∧aE8 m:=
 dR8 (P:=fun m=>bw9 m∧aE8 m) (Q:=Tg) (fun c t hc ht=>eD0 hc ht) l c [] hc hl (fun m hm=>by cases hm)
theorem fb2 (s:Bs):∀ (p:Int) (l:List Tlv),spl p s=.ok l→∀ t∈l,Tg t:=by
 induction h:s.length using Nat.strongRecOn generalizing s with
 | ind n ih=>
  intro p l hs
  subst h
  match s,hs with
  | [],hs=>rw [aD3] at hs; cases hs; intro t ht; cases ht
  | t::r,hs=>
   by_cases ht:t=0
   ·subst ht
    rw [bl1] at hs
    cases hr:spl (p+1) r with
    | error q=>rw [hr] at hs; cases hs
    | ok lr=>
     rw [hr] at hs; cases hs
     intro x hx
     rcases List.mem_cons.1 hx with rfl | hx
     ·exact ⟨by show (0:Int)≤0∧(0:Int)≤255; omega,by show 0≤255; omega⟩
     ·exact ih r.length (by simp) r rfl _ lr hr x hx
   ·match r,hs with
    | [],hs=>rw [bZ6 ht] at hs; cases hs
    | n::d,hs=>
     by_cases hn:d.length < n.toNat
     ·rw [bZ7 ht hn] at hs; cases hs
     ·rw [bc5 ht (by omega)] at hs
      cases hr:spl (p+2+n.toNat) (d.drop n.toNat) with
      | error q=>rw [hr] at hs; cases hs
      | ok lr=>
       rw [hr] at hs; cases hs
       intro x hx
       rcases List.mem_cons.1 hx with rfl | hx
       ·have h1:=t.toNat_lt
        have h2:=n.toNat_lt
        refine ⟨by show (0:Int)≤(t.toNat:Int)∧(t.toNat:Int)≤255; omega,?_⟩
        show (d.take n.toNat).length≤255
        rw [List.length_take]; omega
       ·exact ih (d.drop n.toNat).length (by simp; omega) (d.drop n.toNat) rfl _ lr hr x hx
def au8 (b:Bs):List Msg × Int × Int:=
 if (ai3 b).2.2≠0 then ([],(ai3 b).2.1,(ai3 b).2.2)
 else match spl 4 (ai3 b).1 with
  | .error q=>([],q,2)
  | .ok l=>match spl (4+((ai3 b).1.length:Int)) (bx0 b) with
   | .error q=>([],q,2)
   | .ok _=>((ag6 c0 l []).1,(ag6 c0 l []).2.2.1,(ag6 c0 l []).2.2.2)
theorem eu9 {b:Bs} {B:Option ((Bs × Int × Int × Unit) × Unit)} {S1 S2:Bs→Int→Option ((List Tlv × Int × Int × Unit) × Unit)} {T:Option ((Bs × Unit) × Unit)} {F:List Tlv→Option ((List Msg × Ctx × Int × Int × Unit) × Unit)}
  (hB:B=some (ag4 (ai3 b),())) (hS1:∀ s p,s.length≤1000000000→0≤p∧p≤1152921504606846976→S1 s p=some (ag4 (aK6 [] (spl p s)),())) (hS2:∀ s p,s.length≤1000000000→0≤p∧p≤1152921504606846976→S2 s p=some (ag4 (aK6 [] (spl p s)),()))
  (hT:(ai3 b).2.2=0→T=some ((bx0 b,()),()))
  (hF:∀ l:List Tlv,l.length≤100000→(∀ t∈l,t.data.length≤1000)→F l=some (((ag6 c0 l []).1,(ag6 c0 l []).2.1,(ag6 c0 l []).2.2.1,(ag6 c0 l []).2.2.2,()),())) :
  (B.bind fun r1=>(if (r1.1.2.2.1 != 0)=true then (some (([],r1.1.2.1,r1.1.2.2.1,()),()):Option ((List Msg × Int × Int × Unit) × Unit)) else ((S1 r1.1.1 4).bind fun r2=>(if (r2.1.2.2.1 != 0)=true then some (([],r2.1.2.1,r2.1.2.2.1,()),()) else (T.bind fun r3=>((S2 r3.1.1 (IntKind.wrap .i64 (4+(r1.1.1.length:Int)))).bind fun r4=>(if (r4.1.2.2.1 != 0)=true then some (([],r4.1.2.1,r4.1.2.2.1,()),()) else ((F r2.1.1).bind fun r5=>some ((r5.1.1,r5.1.2.2.1,r5.1.2.2.2.1,()),())))))))))=some (ag4 (au8 b),()):=by
 rw [hB,Option.bind_some]
 unfold au8
 dsimp only [ag4]
 refine ab9 (fun h=>by rw [if_pos h]) (fun h=>?_)
 obtain ⟨l1,l2,_,_,l5,_,l7⟩:=cJ7 h
 have hr:=bo5 b
 have hbl:(bx0 b).length≤100000:=by unfold bx0; rw [List.length_drop]; omega
 have hsl:(ai3 b).1.length≤65535:=by omega
 rw [if_neg (show ¬(ai3 b).2.2≠0 from fun q=>q h),hS1 _ _ (by omega) (by omega),Option.bind_some]
 cases h1:spl 4 (ai3 b).1 with
 | error q=>rfl
 | ok l=>
  have hk:=db5 _ _ _ h1
  dsimp only [ag4,aK6]
  refine ab9 (fun q=>absurd rfl q) (fun _=>?_)
  rw [hT h,Option.bind_some]
  dsimp only
  rw [w64 (by omega) (by omega),hS2 _ _ (by omega) (by omega),Option.bind_some]
  cases h2:spl (4+((ai3 b).1.length:Int)) (bx0 b) with
  | error q=>rfl
  | ok l2=>
   dsimp only [ag4,aK6]
   refine ab9 (fun q=>absurd rfl q) (fun _=>?_)
   rw [List.nil_append,hF l (by omega) (fun t ht=>by have:=hk.1 t ht; omega)]
   rfl
theorem eD1 (b:Bs):bc1 (b,())=some (ag4 (au8 b),()):=by
 rw [dh6]
 exact eu9 (b:=b) (S1:=fun s p=>aw8 (s,p,())) (S2:=fun s p=>aw8 (s,p,())) (F:=fun l=>bj2 (l,())) (eV2 b) (fun s p h h2=>dr0 h h2) (fun s p h h2=>dr0 h h2) (fun h=>eu6 h) (fun l h h2=>eV1 h h2)
theorem ck8 (b:Bs):((au8 b).2.2≠0∧(au8 b).1=[])∨∃ l,(ai3 b).2.2=0∧spl 4 (ai3 b).1=.ok l∧(∃ k,spl (4+((ai3 b).1.length:Int)) (bx0 b)=.ok k)∧(ag6 c0 l []).2.2.2=0∧au8 b=((ag6 c0 l []).1,0,0):=by
 unfold au8
 by_cases h:(ai3 b).2.2≠0
 ·rw [if_pos h]; exact .inl ⟨h,rfl⟩
 rw [if_neg h]
 cases h1:spl 4 (ai3 b).1 with
 | error q=>exact .inl ⟨by simp,rfl⟩
 | ok l=>
  cases h2:spl (4+((ai3 b).1.length:Int)) (bx0 b) with
  | error q=>exact .inl ⟨by simp,rfl⟩
  | ok k=>
   dsimp only
   by_cases h3:(ag6 c0 l []).2.2.2=0
   ·exact .inr ⟨l,by simpa using h,rfl,⟨k,rfl⟩,h3,by rw [dE6 l c0 [] h3,h3]⟩
   ·exact .inl ⟨h3,(dR6 l c0 [] h3).1⟩
theorem eg1 (b:Bs):(∀ m∈(au8 b).1,bw9 m∧aE8 m)∧(au8 b).1.length≤65535:=by
 rcases ck8 b with ⟨_,h⟩ | ⟨l,h0,h1,_,_,h4⟩
 ·rw [h]; exact ⟨fun m hm=>(by cases hm),by simp⟩
 ·rw [h4]
  have hb:=(cJ7 h0)
  have hr:=bo5 b
  have:=(dR7 l c0 [] cD6).1
  have hk:=(db5 _ _ _ h1).2
  exact ⟨eu8 cD6 (fb2 _ _ _ h1),by dsimp only; simp at this; omega⟩
end Go.VP
namespace Go.VP
open Go Go.VI
theorem eD2 (s:Bs) (g:Bool):br2 (s,g,())=some ((decide (s=[]) || g,()),()):=by
 rw [dA1]
 refine cD4 (fun h=>by simp [h]) (fun h=>by simp [h])
theorem cD7 {R:Type} {b S:Bool} {t:Option R} {f:Bool→Option R} (h:b=true→t=f S):(if (!b)=true then f false else t)=f (b && S):=by
 cases b with
 | true=>rw [ah3,Bool.true_and]; exact h rfl
 | false=>rw [am5,Bool.false_and]
theorem ev0 {n:Int} (hn:IntKind.has .i64 n):ab1 (n,2,())=some ((ac7 n 2,()),()):=ar3 (k:=2) hn (by omega) (by omega)
theorem eo4 {m:Msg} (g:bw4 m):aB5 m.subs:=g.few.fewS
theorem eD3 {m:Msg} (g:aE8 m):bF7 (m,())=some ((ef5 m,()),()):=by
 have hl:=g.good.few
 have:=hl.id; have:=hl.next; have:=hl.pre
 rw [dJ0]
 unfold ef5
 refine ab9 (fun h=>by rw [decide_eq_false h,Bool.false_and]) (fun h=>?_)
 rw [decide_eq_true h,Bool.true_and,bc6,Option.bind_some]
 dsimp only
 refine cD7 (f:=fun b=>some ((b,()),())) (fun _=>?_)
 rw [cp3 (eo4 g.good),Option.bind_some]
 refine cD7 (f:=fun b=>some ((b,()),())) (fun _=>?_)
 rw [eR8 (by omega) g.good.plen,Option.bind_some]
 refine cD7 (f:=fun b=>some ((b,()),())) (fun _=>?_)
 rw [ev0 g.good.interval,Option.bind_some]
 refine cD7 (f:=fun b=>some ((b,()),())) (fun _=>?_)
 rw [ev0 g.good.seq,Option.bind_some]
 refine cD7 (f:=fun b=>some ((b,()),())) (fun _=>?_)
 rw [ev0 g.metric,Option.bind_some]
 refine cD7 (f:=fun b=>some ((b,()),())) (fun _=>?_)
 unfold eu2
 refine aa9 (fun h=>?_) (fun h=>?_)
 ·rw [if_pos h,if_pos (af7 (by omega))]
  have:(m.id++m.next==([]:Bs))=(m.id==[] && m.next==[]):=by
   rw [Bool.eq_iff_iff]; simp
  rw [this]
 ·rw [if_neg h]
  by_cases ha:0 < m.ae
  ·rw [ifd ha,decide_eq_true ha,Bool.true_and,fa1]
   cases h8:decide (m.id.length=8) with
   | false=>rw [at2,Bool.false_and]
   | true=>
    rw [ift,eA9,Option.bind_some,cD3,Option.bind_some,eD2,Option.bind_some,Bool.true_and]
    have e1:(m.next==([]:Bs))=decide (m.next=[]):=by rw [Bool.eq_iff_iff]; simp
    have e2:(bw1 m.next==af1 m.ae)=decide (bw1 m.next=af1 m.ae):=by rw [Bool.eq_iff_iff]; simp
    rw [e1]
    dsimp only
    rw [e2]
  ·rw [ifn ha,decide_eq_false ha,Bool.false_and]
theorem fe1 {m:Msg} (g:aB4 m) (h:dK6 m):aE8 m:=by
 obtain ⟨g1,g2,g3,g4,g5,g6,g7,g8,g9,g10,g11,g12,g13,g14,g15,g16,g17,g18,g19,g20,g21,g22,g23,_⟩:=g
 exact ⟨⟨h,g18,g15,g13,g19,g1,g16,g6,g8,g17⟩,g23,g11⟩
end Go.VP
namespace Go.VP
open Go Go.VI
def cJ8:List UInt8:=[0]++List.replicate 1 1++List.replicate 2 2++List.replicate 4 3++List.replicate 8 4++List.replicate 16 5++List.replicate 32 6++List.replicate 64 7++List.replicate 128 8
theorem eM7:∀ x:Fin 256,x.val≠0→∃ y,cJ8[x.val]?=some y∧1≤y.toNat∧y.toNat≤8:=by
 have h:∀ x:Fin 256,x.val≠0→1≤(cJ8[x.val]?.getD 0).toNat∧(cJ8[x.val]?.getD 0).toNat≤8:=by decide +kernel
 have hl:cJ8.length=256:=by decide +kernel
 intro x hx
 refine ⟨cJ8[x.val]?.getD 0,ai5 (by omega),h x hx⟩
theorem eV5 (a0:Int):aM8 (a0,())=if 0≤a0 then cJ8[a0.toNat]?.bind fun (y1:UInt8)=>some (((IntKind.wrap .i64 (y1.toNat:Int)),()),()) else none:=cR6 a0
theorem fb3 {n:Nat} (h0:n≠0) (h:n < 256):∃ z:Int,aq4 ((n:Int),())=some ((z,()),())∧0≤z∧z≤7:=by
 obtain ⟨y,h1,h2,h3⟩:=eM7 ⟨n,h⟩ h0
 have h1:cJ8[n]?=some y:=h1
 rw [bD7,eV5,if_pos (by omega),Int.toNat_natCast,h1,Option.bind_some,Option.bind_some]
 dsimp only
 rw [bT0,w64 (by omega) (by omega)]
 exact ⟨_,rfl,by omega,by omega⟩
theorem eD4 {a b:UInt8}:(ad2 .xor .u8 (a.toNat:Int) (b.toNat:Int)≠0)↔a≠b:=by
 rw [en3 a.toNat_lt b.toNat_lt]
 constructor
 ·intro h e; subst e; simp at h
 ·intro h e
  have h0:a.toNat ^^^ b.toNat=0:=by omega
  exact h (UInt8.toNat.inj (by
   have:=congrArg (· ^^^ b.toNat) h0
   simpa [Nat.xor_assoc] using this))
theorem eD5 {x y:Bs} (h:x=[]∨y=[]):aE7 x y=0:=by
 rcases h with rfl | rfl
 ·cases y <;> rfl
 ·cases x <;> rfl
theorem ev1 {a b:Bs} {n:Nat} (ha:a.length≤100000) (hb:b.length≤100000):∀ (d m i:Nat),i+d=min a.length b.length→d < m→∃ A:Int,bb2 n m a b (if (b.length:Int) < (a.length:Int) then (b.length:Int) else (a.length:Int)) i=some ((A,()),())∧A / 8=i+aE7 (a.drop i) (b.drop i)∧0≤A∧A≤10000000:=by
 have hmin:(if (b.length:Int) < (a.length:Int) then (b.length:Int) else (a.length:Int))=((min a.length b.length:Nat):Int):=by split <;> omega
 rw [hmin]
 intro d
 induction d with
 | zero=>
  intro m i hd hm
  obtain ⟨m,rfl⟩:∃ k,m=k+1:=⟨m - 1,by omega⟩
  rw [bU9,ifn (by omega),hmin,w64 (by omega) (by omega)]
  refine ⟨_,rfl,?_,by omega,by omega⟩
  rw [eD5 (by
   by_cases h:a.length≤b.length
   ·exact .inl (List.drop_eq_nil_of_le (by omega))
   ·exact .inr (List.drop_eq_nil_of_le (by omega)))]
  omega
 | succ d ih=>
  intro m i hd hm
  obtain ⟨m,rfl⟩:∃ k,m=k+1:=⟨m - 1,by omega⟩
  have hp:0≤(i:Int):=by omega
  have hi:i < a.length:=by omega
  have hib:i < b.length:=by omega
  rw [bU9,ifd (by omega)]
  simp only [if_pos hp,Int.toNat_natCast,List.getElem?_eq_getElem hi,List.getElem?_eq_getElem hib,Option.bind_some]
  rw [List.drop_eq_getElem_cons hi,List.drop_eq_getElem_cons hib,aE7]
  by_cases he:a[i]=b[i]
  ·obtain ⟨A,h1,h2,h3,h4⟩:=ih m (i+1) (by omega) (by omega)
   rw [show ((i+1:Nat):Int)=(i:Int)+1 by omega] at h1 h2
   have hz:ad2 .xor .u8 ((a[i]).toNat:Int) ((b[i]).toNat:Int)=0:=Classical.byContradiction fun h=>eD4.1 h he
   rw [if_pos he,hz,if_neg (by decide),w64 (by omega) (by omega)]
   exact ⟨A,h1,by omega,h3,h4⟩
  ·have hz:=eD4.2 he
   rw [if_neg he,if_pos (by simpa using hz)]
   rw [en3 (a[i]).toNat_lt (b[i]).toNat_lt] at hz ⊢
   have hx:(a[i]).toNat ^^^ (b[i]).toNat < 256:=Nat.xor_lt_two_pow (n:=8) (a[i]).toNat_lt (b[i]).toNat_lt
   obtain ⟨z,k1,k2,k3⟩:=fb3 (n:=(a[i]).toNat ^^^ (b[i]).toNat) (by omega) hx
   rw [k1,Option.bind_some]
   dsimp only
   rw [w64 (x:=8 * (i:Int)) (by omega) (by omega),w64 (by omega) (by omega)]
   exact ⟨_,rfl,by omega,by omega,by omega⟩
theorem eV6 {a b:Bs} (ha:a.length≤100000) (hb:b.length≤100000):bi6 (a,b,())=some ((((aE7 a b:Nat):Int),()),()):=by
 have hA:∃ A:Int,cf0 (a,b,())=some ((A,()),())∧A / 8=aE7 a b∧0≤A:=by
  show ∃ A:Int,ce9 fuel (a,b,())=_∧_
  rw [dy6]
  obtain ⟨A,h1,h2,h3,_⟩:=ev1 (n:=fuel) ha hb (min a.length b.length) fuel 0 (by omega) (ae2 (by omega))
  exact ⟨A,h1,by simpa using h2,h3⟩
 obtain ⟨A,h1,h2,h3⟩:=hA
 rw [dp2,h1,Option.bind_some]
 dsimp only
 rw [et4 h3,h2]
end Go.VP
namespace Go.VP
open Go Go.VI
noncomputable def eg2 (m:Msg):Bool:=ag0 m && (decide (10 < m.type_) && (decide (m.type_ < 256) && decide (m.data.length < 256)))
noncomputable def aU9 (m:Msg):Bool:=if m.kind=11 then ef5 m else if m.kind=12∨m.kind=13 then bL6 m else if m.kind=14 then eg2 m else bL5 m
noncomputable def ck9 (m:Msg):Bs:=if m.kind=12∨m.kind=13 then (aG0 m).1 else if m.kind=14 then (au5 m.type_ m.data).1 else (aF9 m).1
theorem bH2 {m:Msg} (h:bL5 m=true):7≤m.kind∧m.kind≤10:=by
 rcases (ay4.1 h).kinds with h | h | ⟨h,_⟩ | ⟨h,_⟩ <;> omega
theorem bH3 {m:Msg} (h:bL6 m=true):m.kind=12∨m.kind=13:=by
 rcases (ay6.1 h).kinds with h | ⟨h,_⟩
 ·exact .inl h
 ·exact .inr h
theorem eg3 {m:Msg} (hk:m.kind=14):eg2 m=true↔eg0 m:=by
 unfold eg2
 simp only [Bool.and_eq_true,decide_eq_true_eq]
 exact ⟨fun ⟨a,b,c,d⟩=>⟨hk,a,⟨b,c⟩,d⟩,fun h=>⟨h.bare,h.ty.1,h.ty.2,h.len⟩⟩
theorem bM2 {m:Msg}:aU9 m=true↔bw9 m:=by
 unfold aU9
 constructor
 ·intro h
  split at h
  ·exact .upd (ef6.1 h)
  split at h
  ·exact .route (ay6.1 h)
  split at h
  ·rename_i hk; exact .opq ((eg3 hk).1 h)
  ·exact .field (ay4.1 h)
 ·intro h
  cases h with
  | field h=>
   have hb:=ay4.2 h
   have:=bH2 hb
   rw [if_neg (by omega),if_neg (by omega),if_neg (by omega)]; exact hb
  | route h=>
   have hb:=ay6.2 h
   have:=bH3 hb
   rw [if_neg (by omega),if_pos this]; exact hb
  | upd h=>rw [if_pos h.kind]; exact ef6.2 h
  | opq h=>rw [if_neg (by have:=h.kind; omega),if_neg (by have:=h.kind; omega),if_pos h.kind]; exact (eg3 h.kind).2 h
theorem dc9 {m:Msg} (g:aE8 m):aJ3 (m,())=some ((aU9 m,()),()):=by
 have op:(if ag0 m=true then (if (decide (10 < m.type_))=true then (if (decide (m.type_ < 256))=true then some (((decide ((m.data.length:Int) < 256)),()),()) else some ((false,()),())) else some ((false,()),())) else some ((false,()),()))=(some ((eg2 m,()),()):Option ((Bool × Unit) × Unit)):=by
  unfold eg2
  have e:decide ((m.data.length:Int) < 256)=decide (m.data.length < 256):=by rw [Bool.eq_iff_iff]; simp; omega
  rw [e]
  cases ag0 m
  ·rfl
  cases decide (10 < m.type_)
  ·rfl
  cases decide (m.type_ < 256)
  ·rfl
  ·rfl
 rw [dA2,eD3 g,dC7 g.good,bc6,ee3 g.good]
 simp only [Option.bind_some,op]
 unfold aU9
 refine aa9 (fun h=>by rw [if_pos h]) (fun h=>?_)
 rw [if_neg h]
 refine aa9 (fun h2=>?_) (fun h2=>?_)
 ·rw [if_pos (by simp [h2]),if_pos (.inl h2)]
 ·refine aa9 (fun h3=>by rw [if_pos (.inr h3)]) (fun h3=>?_)
  rw [if_neg (show ¬(m.kind=12∨m.kind=13) by omega)]
  exact aa9 (fun h4=>by rw [if_pos h4]) (fun h4=>by rw [if_neg h4])
theorem eM8 {m:Msg} (g:aE8 m):bs2 (m,())=some ((ck9 m,()),()):=by
 rw [dA7,eB7 g.good,bc4,eZ9 g.good]
 simp only [Option.bind_some]
 unfold ck9
 refine aa9 (fun h2=>?_) (fun h2=>?_)
 ·rw [if_pos (by simp [h2]),if_pos (.inl h2)]
 ·refine aa9 (fun h3=>by rw [if_pos (.inr h3)]) (fun h3=>?_)
  rw [if_neg (show ¬(m.kind=12∨m.kind=13) by omega)]
  exact aa9 (fun h4=>by rw [if_pos h4]) (fun h4=>by rw [if_neg h4])
def idT (s:Bs):Bs:=(au5 6 (idD s)).1
def dd0 (a:Bs):Bs:=(au5 7 (dM7 a)).1
def cx0 (m:Msg) (n:Nat):Bs:=(au5 8 (ck7 m n)).1
theorem bl5 (t:Int) (d:Bs):(au5 t d).1.length≤257:=by unfold au5; split <;> simp; omega
abbrev mkW (b:Bs) (c:Ctx):aa8:=⟨b,c.prefix_c0,c.prefix_c1,c.prefix_c2,c.prefix_c3,c.next_c0,c.next_c1,c.id⟩
theorem cD8 {b d:Bs} {c:Ctx} {t:Int} (hb:b.length≤10000):ak0 (mkW b c,t,d,())=some ((),(mkW (b++(au5 t d).1) c,())):=by
 have:=bl5 t d
 rw [cH9,bc4,Option.bind_some]
 dsimp only
 rw [if_pos (ah6 (by omega))]
theorem eD6 {b s:Bs} {c:Ctx} (hb:b.length≤10000) (hs:s.length≤10000):aA8 (mkW b c,s,())=some ((),(mkW (b++idT s) (au0 c s),())):=by
 rw [cR8,if_pos (af7 (by omega)),cD8 hb,Option.bind_some]; rfl
theorem eV7 {b a:Bs} {c:Ctx} {f:Int} (hb:b.length≤10000) (h:(f=0∧a.length=4)∨(f=1∧a.length=16)):al6 (mkW b c,f,a,())=some ((),(mkW (b++dd0 a) (bl3 c f a),())):=by
 have hf:0≤f∧f < 2:=by omega
 have hal:a.length≤16:=by omega
 rw [cH7,ee1,Option.bind_some]
 unfold dd0 dM7 db6
 by_cases hl:aj0 a=true
 ·rw [if_pos hl,if_pos hl]
  dsimp only
  rw [ift,if_pos (af7 (by simp; omega)),cD8 hb,Option.bind_some,if_pos hf]; rfl
 ·rw [if_neg hl,if_neg hl]
  dsimp only
  rw [at2]
  rcases h with ⟨rfl,h⟩ | ⟨rfl,h⟩
  ·rw [if_pos (by decide),if_pos (af7 (by omega)),cD8 hb,Option.bind_some,if_pos hf,if_pos h]; rfl
  ·rw [if_neg (by decide),if_pos (af7 (by omega)),cD8 hb,Option.bind_some,if_pos hf,if_neg (show ¬a.length=4 by omega)]; rfl
theorem eg4 {ae:Int} (h:0≤ae∧ae < 4):bf8 (ae,())=some ((ag2 ae,()),()):=by
 rw [dH5]
 rcases aY4 h with rfl | rfl | rfl | rfl <;> rfl
theorem aB8.cutl {m:Msg} (h:aB8 m):((cj1 m.prefix_ m.plen).length:Int)=ad9 m.plen∧ag2 m.ae≤ad9 m.plen∧0≤ag2 m.ae:=by
 have r:=h.asR
 obtain ⟨l1,l2,l3,l4,l5,l6⟩:=at9 r.ae r.plen
 exact ⟨r.cut.1,l2,l1⟩
theorem dS1 {m:Msg} (h:aB8 m):aA9 (m,())=some ((ac5 m,()),()):=by
 obtain ⟨hae,hpl,hbl,h16,hbs,hp16⟩:=h.pre
 obtain ⟨c1,c2,c3⟩:=h.cutl
 rw [dy5,en7 (by omega) (af2.2 (by omega)) (by omega),Option.bind_some,eg4 hae,Option.bind_some]
 dsimp only
 rw [if_pos (by omega)]; rfl
def as0 (c:Ctx) (m:Msg):Nat:=if aq5 c m.ae=[] then 0 else aE7 ((aq5 c m.ae).drop (ag2 m.ae).toNat) (ac5 m)
theorem eg5 (c:Ctx) (m:Msg):as0 c m≤(ac5 m).length:=by
 unfold as0; split
 ·omega
 ·exact (ef8 _ _).2
theorem fb4 {b:Bs} {c:Ctx} {m:Msg} (hc:okC c) (h:aB8 m):ad5 (mkW b c,m,())=some ((((as0 c m:Nat):Int),()),(mkW b c,())):=by
 obtain ⟨hae,hpl,hbl,h16,hbs,hp16⟩:=h.pre
 have hpre:(if m.ae=0 then c.prefix_c0 else (if m.ae=1 then c.prefix_c1 else (if m.ae=2 then c.prefix_c2 else c.prefix_c3)))=aq5 c m.ae:=rfl
 rw [ch7,if_pos hae]
 dsimp only
 rw [hpre]
 unfold as0
 refine cD4 (fun hq=>by rw [if_pos hq]; rfl) (fun hq=>?_)
 have hl:=ck6 hc hae hq
 have hsz:szA m.ae≤16∧ag2 m.ae≤szA m.ae:=by unfold szA ag2; refine ⟨?_,?_⟩ <;> (split <;> (try split) <;> (try split) <;> omega)
 rw [if_neg hq,eg4 hae,Option.bind_some]
 dsimp only
 rw [if_pos (by omega),dS1 h,Option.bind_some]
 dsimp only
 rw [eV6 (by simp; omega) (by omega),Option.bind_some]
theorem fb5 {m:Msg} {n k:Nat} {N:Nat} {x0 x1 x2:Int} {w:aa8} {p0 p1 p2 p3 x6:Bs} (hx:x6.length≤100) (hs:aq2 m.subs=true) (hfs:aB5 m.subs) (hB:aA9 (m,())=some ((ac5 m,()),())) (hBl:(ac5 m).length≤16) (hN:N≤(ac5 m).length) (hw:w.b.length≤10000) :
  aj5 n (k+1) N m [x0,x1,x2] 3 w p0 p1 p2 p3 x6 3=some ((),(mkW (w.b++(au5 8 ((x6++(ac5 m).drop N)++ab5 m.subs)).1) ⟨p0,p1,p2,p3,w.c_Next_c0,w.c_Next_c1,w.c_Id⟩,())):=by
 have hsl:=bc7 hs
 rw [ay3,ifn (by omega),dK4 hfs (by have:=hfs.1; have:=(aK7 hs).2; have:=bo2 (l:=m.subs); omega),Option.bind_some,ee4 hs,hB,Option.bind_some]
 dsimp only
 rw [if_pos (by omega),Int.toNat_natCast,if_pos (af7 (by simp; omega)),if_pos (af7 (by simp; omega))]
 have:=cD8 (b:=w.b) (d:=(x6++(ac5 m).drop N)++ab5 m.subs) (c:=⟨p0,p1,p2,p3,w.c_Next_c0,w.c_Next_c1,w.c_Id⟩) (t:=8) hw
 rw [this]; rfl
theorem dS2 {m:Msg} {n k:Nat} {N:Nat} {w:aa8} {p0 p1 p2 p3 x6:Bs} (h:aB8 m) (hx:x6.length≤50) (hfs:aB5 m.subs) (hN:N≤(ac5 m).length) (hw:w.b.length≤10000) :
  at8 n (k+4) N m w x6 [m.interval,m.seq,m.metric] 3 0 p0 p1 p2 p3=some ((),(mkW (w.b++(au5 8 (x6++(be 2 m.interval++(be 2 m.seq++(be 2 m.metric++((ac5 m).drop N++ab5 m.subs)))))).1) ⟨p0,p1,p2,p3,w.c_Next_c0,w.c_Next_c1,w.c_Id⟩,())):=by
 obtain ⟨hae,hpl,hbl,h16,hbs,hp16⟩:=h.pre
 have b2:∀ x,(be 2 x).length=2:=fun x=>ab6 2 x
 rw [bY1,ifd (by omega),if_pos (by omega)]
 show (if ag7 _=true then aj5 n (k+3) N m [m.interval,m.seq,m.metric] 3 w p0 p1 p2 p3 (x6++([aa1 (IntKind.wrap .u8 (ac8 .i64 m.interval 8)),aa1 (IntKind.wrap .u8 m.interval)])) 1 else none)=_
 rw [if_pos (ah6 (by simp; omega)),be2 h.iv,ay3,ifd (by omega),if_pos (by omega)]
 show (if ag7 _=true then aj5 n (k+2) N m [m.interval,m.seq,m.metric] 3 w p0 p1 p2 p3 ((x6++be 2 m.interval)++([aa1 (IntKind.wrap .u8 (ac8 .i64 m.seq 8)),aa1 (IntKind.wrap .u8 m.seq)])) 2 else none)=_
 rw [if_pos (ah6 (by simp [b2]; omega)),be2 h.sq,ay3,ifd (by omega),if_pos (by omega)]
 show (if ag7 _=true then aj5 n (k+1) N m [m.interval,m.seq,m.metric] 3 w p0 p1 p2 p3 (((x6++be 2 m.interval)++be 2 m.seq)++([aa1 (IntKind.wrap .u8 (ac8 .i64 m.metric 8)),aa1 (IntKind.wrap .u8 m.metric)])) 3 else none)=_
 rw [if_pos (ah6 (by simp [b2]; omega)),be2 h.me,fb5 (by simp [b2]; omega) h.subs hfs (dS1 h) h16 hN hw]
 simp only [List.append_assoc]
theorem eV8 {b:Bs} {c:Ctx} {m:Msg} {N:Nat} (h:aB8 m) (hfs:aB5 m.subs) (hN:N≤(ac5 m).length) (hb:b.length≤10000):ae5 (mkW b c,m,(N:Int),())=some ((),(mkW (b++cx0 m N) (aG2 c m.ae m.prefix_),())):=by
 obtain ⟨hae,hpl,hbl,h16,hbs,hp16⟩:=h.pre
 obtain ⟨k,hk⟩:∃ k,fuel=k+4:=by obtain ⟨q,e⟩:=dq8; exact ⟨q+999999999996,e⟩
 have u1:aa1 (IntKind.wrap .u8 m.ae)=aa1 m.ae:=u8w hae.1
 have u2:aa1 (IntKind.wrap .u8 m.plen)=aa1 m.plen:=u8w hpl.1
 have u3:aa1 (IntKind.wrap .u8 (N:Int))=aa1 N:=u8w (by omega)
 show aM9 fuel (mkW b c,m,(N:Int),())=_
 rw [cl4,u1,u2,u3]
 generalize hf:(fuel:Nat)=F
 rw [hf] at hk
 unfold cx0 ck7 aG2 bY8
 have hx:([aa1 m.ae,128,aa1 m.plen,aa1 N]:Bs).length≤50:=by simp
 refine aa9 (fun h0=>?_) (fun h0=>?_)
 ·rw [if_pos (by simp),if_pos (by simp),if_pos h0,if_pos h0]
  have:=dS2 (n:=F) (k:=k) (N:=N) (w:=mkW b c) (p0:=c.prefix_c0) (p1:=c.prefix_c1) (p2:=c.prefix_c2) (p3:=c.prefix_c3) (x6:=([aa1 m.ae,128,aa1 m.plen,aa1 N]:Bs).set 1 (aa1 0)) h (by simp) hfs hN hb
  rw [← hk] at this
  exact this
 ·rw [if_pos hae,if_neg h0,if_neg h0]
  have:=dS2 (n:=F) (k:=k) (N:=N) (w:=mkW b c) (p0:=if m.ae=0 then m.prefix_ else c.prefix_c0) (p1:=if m.ae=1 then m.prefix_ else c.prefix_c1) (p2:=if m.ae=2 then m.prefix_ else c.prefix_c2) (p3:=if m.ae=3 then m.prefix_ else c.prefix_c3) (x6:=[aa1 m.ae,128,aa1 m.plen,aa1 N]) h hx hfs hN hb
  rw [← hk,if_neg h0] at this
  rw [if_neg h0]
  exact this
def dE8 (c:Ctx) (m:Msg):Bs:=if m.metric=65535 then [] else (if m.id=c.id then [] else idT m.id)++(if m.next=aj3 c (af1 m.ae) then [] else dd0 m.next)
def cD9 (c:Ctx) (m:Msg):Ctx:=if m.metric=65535 then c else bl3 (au0 c m.id) (af1 m.ae) m.next
noncomputable def au9 (c:Ctx) (m:Msg):Bs × Ctx × Int:=
 if aU9 m=false then ([],c,1) else if m.kind≠11 then (ck9 m,c,0)
 else if m.metric≠65535∧m.next=[]∧aj3 c (af1 m.ae)≠[] then ([],c,9)
 else (dE8 c m++cx0 m (as0 c m),aG2 (cD9 c m) m.ae m.prefix_,0)
theorem cJ9 {c:Ctx} {i:Bs} (h:i=c.id):au0 c i=c:=by subst h; rfl
theorem dd1 {c:Ctx} {f:Int} {a:Bs} (hf:f=0∨f=1) (h:a=aj3 c f):bl3 c f a=c:=by
 subst h
 rcases hf with rfl | rfl <;> rfl
theorem aB8.fam {m:Msg} (h:aB8 m) (hm:m.metric≠65535):(af1 m.ae=0∨af1 m.ae=1)∧(m.next≠[]→(af1 m.ae=0∧m.next.length=4)∨(af1 m.ae=1∧m.next.length=16)):=by
 have hn:=h.near hm
 have hf:=cJ5 (ae:=m.ae) (by have:=h.pre.1; omega)
 refine ⟨by omega,fun hne=>?_⟩
 exact eu3 (by rcases hn.2.2 with q | q; exact absurd q hne; exact q) (by omega)
theorem ev2 {b:Bs} {c:Ctx} {m:Msg} (hc:okC c) (h:aB8 m) (hfs:aB5 m.subs) (hb:b.length≤1000) :
  ((ad5 (mkW b c,m,())).bind fun r6=>((ae5 (r6.2.1,m,r6.1.1,())).bind fun r7=>(some ((r7.2.1.b,(ad8.mk r7.2.1.c_Prefix_c0 r7.2.1.c_Prefix_c1 r7.2.1.c_Prefix_c2 r7.2.1.c_Prefix_c3 r7.2.1.c_Next_c0 r7.2.1.c_Next_c1 r7.2.1.c_Id),0,()),()):Option ((Bs × Ctx × Int × Unit) × Unit))))=some ((b++cx0 m (as0 c m),aG2 c m.ae m.prefix_,0,()),()):=by
 rw [fb4 hc h,Option.bind_some]
 dsimp only
 rw [eV8 h hfs (eg5 c m) (by omega),Option.bind_some]
theorem bM3 {c:Ctx} {i:Bs} (hc:okC c) (h:i.length=8):okC (au0 c i):=⟨hc.1,hc.2.1,hc.2.2.1,hc.2.2.2.1,hc.2.2.2.2.1,hc.2.2.2.2.2.1,.inr h⟩
theorem ds8 {c:Ctx} {f:Int} {a:Bs} (hc:okC c) (h:(f=0∧a.length=4)∨(f=1∧a.length=16)):okC (bl3 c f a):=by
 obtain ⟨h0,h1,h2,h3,h4,h5,h6⟩:=hc
 rcases h with ⟨rfl,h⟩ | ⟨rfl,h⟩
 ·exact ⟨h0,h1,h2,h3,.inr h,h5,h6⟩
 ·exact ⟨h0,h1,h2,h3,h4,.inr h,h6⟩
theorem eo5 (s:Bs):(idT s).length≤257:=bl5 _ _
theorem eg6 (s:Bs):(dd0 s).length≤257:=bl5 _ _
theorem eD7 {c:Ctx} {m:Msg} (hc:okC c) (g:aE8 m):bX2 (c,m,())=some (((au9 c m).1,(au9 c m).2.1,(au9 c m).2.2,()),()):=by
 rw [dU9,dc9 g,Option.bind_some]
 unfold au9
 dsimp only
 cases hl:aU9 m with
 | false=>rw [am5,if_pos rfl]
 | true=>
 have hR:=bM2.1 hl
 rw [ah3,if_neg (show ¬(true=false) by simp)]
 refine ab9 (fun hk=>?_) (fun hk=>?_)
 ·rw [eM8 g,Option.bind_some,if_pos hk]
 rw [if_neg (show ¬(m.kind≠11) from fun q=>q hk)]
 have h:aB8 m:=by
  cases hR with
  | field h=>have:=bH2 (ay4.2 h); omega
  | route h=>have:=bH3 (ay6.2 h); omega
  | upd h=>exact h
  | opq h=>have:=h.kind; omega
 have hfs:=eo4 g.good
 unfold dE8 cD9
 refine ab9 (fun hm=>?_) (fun hm=>?_)
 rotate_left
 ·rw [if_neg (show ¬(m.metric≠65535∧m.next=[]∧aj3 c (af1 m.ae)≠[]) from fun q=>q.1 hm),if_pos hm,if_pos hm]
  exact ev2 hc h hfs (by simp)
 have hn:=h.near hm
 obtain ⟨hf,hop⟩:=h.fam hm
 have hf2:0≤af1 m.ae∧af1 m.ae < 2:=by omega
 have hnx:(if af1 m.ae=0 then c.next_c0 else c.next_c1)=aj3 c (af1 m.ae):=rfl
 rw [cD3,Option.bind_some]
 dsimp only
 rw [hnx,if_neg hm,if_neg hm]
 simp only [if_pos hf2]
 have hil:m.id.length≤10000:=by omega
 have nohop:∀ (b:Bs) (k:Ctx),okC k→b.length≤300→aj3 k (af1 m.ae)=aj3 c (af1 m.ae)→m.next=aj3 c (af1 m.ae)→as0 k m=as0 c m→
   ((ad5 (mkW b k,m,())).bind fun r6=>((ae5 (r6.2.1,m,r6.1.1,())).bind fun r7=>(some ((r7.2.1.b,(ad8.mk r7.2.1.c_Prefix_c0 r7.2.1.c_Prefix_c1 r7.2.1.c_Prefix_c2 r7.2.1.c_Prefix_c3 r7.2.1.c_Next_c0 r7.2.1.c_Next_c1 r7.2.1.c_Id),0,()),()):Option ((Bs × Ctx × Int × Unit) × Unit))))=some ((((b++[])++cx0 m (as0 c m)),aG2 (bl3 k (af1 m.ae) m.next) m.ae m.prefix_,0,()),()):=fun b k hk hb e1 e2 e3=>by
  rw [ev2 hk h hfs (by omega),dd1 hf (by rw [e1]; exact e2),e3,List.append_nil]
 have wihop:∀ (b:Bs) (k:Ctx),okC k→b.length≤300→m.next≠[]→as0 k m=as0 c m→
   ((al6 (mkW b k,af1 m.ae,m.next,())).bind fun r5=>((ad5 (r5.2.1,m,())).bind fun r6=>((ae5 (r6.2.1,m,r6.1.1,())).bind fun r7=>(some ((r7.2.1.b,(ad8.mk r7.2.1.c_Prefix_c0 r7.2.1.c_Prefix_c1 r7.2.1.c_Prefix_c2 r7.2.1.c_Prefix_c3 r7.2.1.c_Next_c0 r7.2.1.c_Next_c1 r7.2.1.c_Id),0,()),()):Option ((Bs × Ctx × Int × Unit) × Unit)))))=some ((((b++dd0 m.next)++cx0 m (as0 c m)),aG2 (bl3 k (af1 m.ae) m.next) m.ae m.prefix_,0,()),()):=fun b k hk hb hne e3=>by
  have hl:=eg6 m.next
  rw [eV7 (by omega) (hop hne),Option.bind_some]
  dsimp only
  rw [ev2 (ds8 hk (hop hne)) h hfs (by simp; omega)]
  have:as0 (bl3 k (af1 m.ae) m.next) m=as0 k m:=rfl
  rw [this,e3]
 have hl0:as0 (au0 c m.id) m=as0 c m:=rfl
 have hidl:=eo5 m.id
 by_cases hne:m.next=[]
 ·rw [if_pos (by simp [hne])]
  by_cases hq:aj3 c (af1 m.ae)=[]
  ·rw [if_neg (by simp [hq]),if_neg (show ¬(m.metric≠65535∧m.next=[]∧aj3 c (af1 m.ae)≠[]) from fun q=>q.2.2 hq)]
   have e2:m.next=aj3 c (af1 m.ae):=by rw [hne,hq]
   by_cases hi:m.id=c.id
   ·rw [if_neg (by simp [hi]),if_neg (by simp [e2]),if_pos hi,if_pos e2,cJ9 hi]
    exact nohop [] c hc (by simp) rfl e2 rfl
   ·rw [if_pos (by simp [hi]),if_neg hi,if_pos e2,eD6 (by simp) hil,Option.bind_some]
    dsimp only
    rw [if_neg (by simp [e2])]
    exact nohop (idT m.id) (au0 c m.id) (bM3 hc hn.2.1) (by omega) rfl e2 hl0
  ·rw [if_pos (by simp [hq]),if_pos ⟨hm,hne,hq⟩]
 ·rw [if_neg (by simpa using hne),if_neg (show ¬(m.metric≠65535∧m.next=[]∧aj3 c (af1 m.ae)≠[]) from fun q=>hne q.2.1)]
  by_cases hi:m.id=c.id
  ·rw [if_neg (by simp [hi]),if_pos hi,cJ9 hi]
   by_cases e2:m.next=aj3 c (af1 m.ae)
   ·rw [if_neg (by simp [e2]),if_pos e2]
    exact nohop [] c hc (by simp) rfl e2 rfl
   ·rw [if_pos (by simpa using e2),if_neg e2]
    exact wihop [] c hc (by simp) hne rfl
  ·rw [if_pos (by simp [hi]),if_neg hi,eD6 (by simp) hil,Option.bind_some]
   dsimp only
   by_cases e2:m.next=aj3 c (af1 m.ae)
   ·rw [if_neg (by simp [e2]),if_pos e2]
    exact nohop (idT m.id) (au0 c m.id) (bM3 hc hn.2.1) (by omega) rfl e2 hl0
   ·rw [if_pos (by simpa using e2),if_neg e2]
    exact wihop (idT m.id) (au0 c m.id) (bM3 hc hn.2.1) (by omega) hne hl0
end Go.VP
