import Derived.Test.YtngopicaeoapnaaGreatDoorKFQ6
import Derived.Test.YtngopicaeoapnaaGreatDoorKM0
import Derived.Test.YtngopicaeoapnaaGreatDoorKM1
import Derived.Test.YtngopicaeoapnaaGreatDoorKM2
import Derived.Test.YtngopicaeoapnaaGreatDoorKM3
import Derived.Test.YtngopicaeoapnaaGreatDoorKFGood
set_option linter.unusedVariables false
set_option linter.unusedSimpArgs false
set_option maxRecDepth 100000
namespace Go.VP
open Go Go.VI
theorem ep1 {n:Nat} {p:Int} {l:List Msg} {r:(Bs × Int × Int × Unit) × Unit} (hr:r=(bd4 (bX9 p l),())) (he:(bX9 p l).2.2=0) (hl:l.length≤30) (hg:∀ m∈l,ds6 p m) (hf:∀ m∈l,Few m) (hp:∀ m∈l,cR4 p m=true) :
  ∀ (d k i:Nat),i+d=l.length→d < k→au9 n k l r p (l.take i) i=some ((true,()),()):=by
 subst hr
 intro d
 induction d with
 | zero=>
  intro k i hd hk
  obtain ⟨k,rfl⟩:∃ j,k=j+1:=⟨k - 1,by omega⟩
  rw [bn7,ifn (by omega),List.take_of_length_le (by omega),eg3 hg (by omega) (fun _=>by omega),Option.bind_some,eI2]
  dsimp only [bd4]
  rw [ift]
  refine ac8 (fun _=>?_) (fun q=>absurd he q)
  simp
 | succ d ih=>
  intro k i hd hk
  obtain ⟨k,rfl⟩:∃ j,k=j+1:=⟨k - 1,by omega⟩
  have hi:i < l.length:=by omega
  have hm:=List.getElem_mem hi
  obtain ⟨s,hs⟩:=ep0 (hp _ hm)
  have hlen:=eI7 (hf _ hm)
  rw [hs] at hlen
  have hlen:s.length≤1000000:=hlen
  have:=ih k (i+1) (by omega) (by omega)
  rw [List.take_succ_eq_append_getElem hi,show ((i+1:Nat):Int)=(i:Int)+1 by omega] at this
  have hroom:ag8 (((l.take i).length + [l[i]].length) * aU9)=true:=by
   refine ah7 ?_
   have h1:(l.take i).length≤30:=by rw [List.length_take]; omega
   have:((l.take i).length+1) * aU9≤31 * 100000:=Nat.mul_le_mul (by omega) eX4
   show ((l.take i).length+1) * aU9≤_
   omega
  rw [bn7,ifd (by omega),if_pos (by omega),Int.toNat_natCast,aj0 hi,ez2 (eI4 (hf _ hm).lite),Option.bind_some,hs]
  show ((by3 (s,())).bind _)=_
  rw [eI3 hlen,Option.bind_some,ek5 hs]
  show (if (!true)=true then _ else (if (!true)=true then _ else (if ag8 (((l.take i).length + [l[i]].length) * aU9)=true then (au9 n k l (bd4 (bX9 p l),()) p (l.take i++[l[i]]) (IntKind.wrap .i64 ((i:Int)+1))) else none)))=_
  rw [aj6,aj6,if_pos hroom,w64 (by omega) (by omega)]
  exact this
theorem wholeText_pure (x0:Int) (g0:do4 x0) (x1:List aa0) (g1:bK1 x1):bm9 (x0,x1,())=some ((true,()),()):=by
 have g1:∀ m∈x1,ax8 m:=g1.1.2
 show bm8 fuel _=_
 rw [cN1]
 obtain ⟨b,hb,hb'⟩:=eN1 (a:=x1) (k:=30) (by omega) (fun m hm=>eE0 (g1 m hm))
 rw [hb,Option.bind_some]
 dsimp only
 cases b with
 | false=>rw [aS8]; exact eI2 _
 | true=>
 obtain ⟨hl,hf⟩:=hb' rfl
 have hg:∀ m∈x1,dM0 m:=fun m hm=>eX5 (g1 m hm) (hf m hm)
 generalize IntKind.wrap .i64 (1+IntKind.wrap .i64 (x0.tmod 4))=p
 rw [aj6,eg3 (fun m hm=>(hg m hm).p p) (by omega) (fun _=>by omega),Option.bind_some]
 dsimp only [bd4]
 refine ah3 (fun _=>eI2 _) (fun he=>?_)
 obtain ⟨b1,b2⟩:=eW1 he
 have hpp:=eI1 (p:=p) (b:=(bX9 p x1).1) (by omega) (by rw [b1])
 rw [b1] at hpp
 exact ep1 (n:=fuel) (p:=p) (l:=x1) (r:=(bd4 (bX9 p x1),())) rfl he (by omega) (fun m hm=>(hg m hm).p p) hf (fun m hm=>(hpp.2.1 m hm).1) x1.length fuel 0 (by omega) (ag7 (by omega))
end Go.VP
