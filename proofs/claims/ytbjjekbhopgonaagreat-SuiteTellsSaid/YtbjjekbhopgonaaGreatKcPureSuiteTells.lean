import Derived.Test.YtbjjekbhopgonaaGreatKcFQ15
import Derived.Test.YtbjjekbhopgonaaGreatKcM0
import Derived.Test.YtbjjekbhopgonaaGreatKcM1
import Derived.Test.YtbjjekbhopgonaaGreatKcM2
import Derived.Test.YtbjjekbhopgonaaGreatKcM3
import Derived.Test.YtbjjekbhopgonaaGreatKcM4
import Derived.Test.YtbjjekbhopgonaaGreatKcFGood
set_option linter.unusedVariables false
set_option linter.unusedSimpArgs false
set_option maxRecDepth 100000
namespace Go.VP
open Go Go.VI
theorem eC8 {p:Int} {b:Bs} (hb:b.length≤100000):(∀ m∈(al1 p b).1,cT8 m)∧(al1 p b).1.length≤65535:=by
 by_cases h:(al1 p b).2.2=0
 ·obtain ⟨_,k1,k2,_⟩:=fc4 hb h
  exact ⟨fun m hm=>(k1 m hm).2.2,k2⟩
 ·rw [(eO9 h).1]; exact ⟨fun m hm=>(by cases hm),by simp⟩
theorem eP1 {n:Nat} {p:Int} {l:List Msg} {b:Bs} (hl:l.length≤1000) (hg:∀ m∈l,cv1 p m) (hb:b.length≤100000):∀ (d k i:Nat),i+d=l.length→d < k→ar8 n k p l b i=some ((true,()),()):=by
 intro d
 induction d with
 | zero=>
  intro k i hd hk
  obtain ⟨k,rfl⟩:∃ j,k=j+1:=⟨k - 1,by omega⟩
  obtain ⟨s1,s2⟩:=eC8 (p:=p) hb
  rw [b15,ifn (by omega),eX8 hb,Option.bind_some,eO8 hb,Option.bind_some,fi7 hg (by omega) (fun _=>hl),Option.bind_some,fc3 hg (by omega) (fun _=>hl),Option.bind_some,eP0]
  dsimp only [a35]
  rw [ift,f06 (by omega) s1,Option.bind_some]
  simp
 | succ d ih=>
  intro k i hd hk
  obtain ⟨k,rfl⟩:∃ j,k=j+1:=⟨k - 1,by omega⟩
  have hi:i < l.length:=by omega
  have g:=hg _ (List.getElem_mem hi)
  have:=ih k (i+1) (by omega) (by omega)
  rw [show ((i+1:Nat):Int)=(i:Int)+1 by omega] at this
  rw [b15,ifd (by omega),if_pos (by omega),Int.toNat_natCast,a27 hi,fc2 g,Option.bind_some,if_pos (by omega),a27 hi,eX7 g,Option.bind_some]
  dsimp only
  rw [if_neg (by simp),w64 (by omega) (by omega)]
  exact this
theorem suiteTells_pure (x0:Int) (g0:eu7 x0) (x1:List a00) (g1:bY2 x1) (x2:List UInt8) (g2:cA6 x2):aV0 (x0,x1,x2,())=some ((true,()),()):=by
 have g1:∀ m∈x1,au6 m:=g1.1.2
 show aU9 a04 _=_
 rw [cM9]
 obtain ⟨b,hb,hb'⟩:=fe8 (a:=x1) (k:=30) (by omega) (fun m hm=>f07 (g1 m hm))
 rw [hb,Option.bind_some]
 dsimp only
 cases b with
 | false=>rw [a83]; exact eP0 _
 | true=>
 obtain ⟨hl,hf⟩:=hb' rfl
 rw [a41]
 refine a86 (fun _=>eP0 _) (fun h=>?_)
 exact eP1 (n:=a04) (by omega) (fun m hm=>(fo1 (g1 m hm) (hf m hm)).p x0) (by omega) x1.length a04 0 (by omega) (a28 (by omega))
end Go.VP
