import Derived.Test.YtjdlhgdklmkkhaaGreatK3FQ14
import Derived.Test.YtjdlhgdklmkkhaaGreatK3M0
import Derived.Test.YtjdlhgdklmkkhaaGreatK3M1
import Derived.Test.YtjdlhgdklmkkhaaGreatK3FH
import Derived.Test.YtjdlhgdklmkkhaaGreatK3M2
import Derived.Test.YtjdlhgdklmkkhaaGreatK3M3
import Derived.Test.YtjdlhgdklmkkhaaGreatK3FGood
set_option linter.unusedVariables false
set_option linter.unusedSimpArgs false
set_option maxRecDepth 100000
namespace Go.VP
open Go Go.VI
theorem eQ7 {d:bf0} {y:Act} {i:Nat} (f:cx4 y) (h:0≤d.calls_v∧d.calls_v≤i∧0≤d.failed_v∧d.failed_v≤i∧0≤d.bytes_v∧d.bytes_v≤1000000 * i):0≤(after d y).calls_v∧(after d y).calls_v≤(i:Int)+1∧0≤(after d y).failed_v∧(after d y).failed_v≤(i:Int)+1∧0≤(after d y).bytes_v∧(after d y).bytes_v≤1000000 * ((i:Int)+1):=by
 have:=ei6 f
 unfold after
 split
 ·omega
 ·unfold dd7
  split <;> dsimp only <;> omega
theorem ep7 {l:List Act}:∀ {i:Nat},i≤l.length→(aj8 (-1) l i).1=i
 | 0,_=>rfl
 | i+1,h=>by
  have:=ep7 (l:=l) (i:=i) (by omega)
  rw [dO4 (by omega),if_neg (by omega)]
  unfold am9
  split <;> dsimp only <;> omega
theorem ey5 {n:Nat} {l:List Act} (hl:l.length≤12) (f:∀ y∈l,cx4 y) :
  ∀ (d m i:Nat) (a1 a2 a3 c1 c2 c3:Int) (b:bf0),i+d=l.length→d < m→(0≤b.calls_v∧b.calls_v≤i∧0≤b.failed_v∧b.failed_v≤i∧0≤b.bytes_v∧b.bytes_v≤1000000 * i)→al8 n m l i a1 a2 a3 0 (aj8 (-1) l i).1 (aj8 (-1) l i).2.1 (aj8 (-1) l i).2.2 b.once_done_v b.once_m_mu_state b.once_m_mu_sema b.closed_v b.calls_v b.failed_v b.bytes_v c1 c2 c3 0 (aj8 (-1) l i).1 (aj8 (-1) l i).2.1 (aj8 (-1) l i).2.2=some ((true,()),()):=by
 intro d
 induction d with
 | zero=>
  intro m i a1 a2 a3 c1 c2 c3 b hd hm hb
  obtain ⟨m,rfl⟩:∃ j,m=j+1:=⟨m - 1,by omega⟩
  obtain rfl:i=l.length:=by omega
  have:=ep7 (l:=l) (Nat.le_refl _)
  rw [bg9,ifn (by omega),ej0,Option.bind_some,ej0,Option.bind_some,eS4,this]
  simp
 | succ d ih=>
  intro m i a1 a2 a3 c1 c2 c3 b hd hm hb
  obtain ⟨m,rfl⟩:∃ j,m=j+1:=⟨m - 1,by omega⟩
  have hi:i < l.length:=by omega
  have hp:0≤(i:Int):=by omega
  have hj:l.length - 1 - i < l.length:=by omega
  have fi:=f _ (List.getElem_mem hi)
  have fj:=f _ (List.getElem_mem hj)
  have rng:=ej1 (k:=-1) f i (by omega)
  have hwk:∀ (o1 o2 o3 c:Int),Wk ⟨o1,o2,o3,(),c,(aj8 (-1) l i).1,(aj8 (-1) l i).2.1,(aj8 (-1) l i).2.2⟩:=fun o1 o2 o3 c=>⟨by dsimp only; omega,by dsimp only; omega,by dsimp only; omega⟩
  have hwb:Wk b:=⟨by omega,by omega,by omega⟩
  have hs:=eQ5 (c:=False) fi
  rw [if_neg (fun h=>h)] at hs
  have ab:=eQ7 fj hb
  have ih:=ih m (i+1)
  rw [dO4 hi,if_neg (by omega),show ((i+1:Nat):Int)=(i:Int)+1 by omega] at ih
  have ih2:∀ (a1 a2 a3 c1 c2 c3:Int) (b:bf0),(0≤b.calls_v∧b.calls_v≤(i:Int)+1∧0≤b.failed_v∧b.failed_v≤(i:Int)+1∧0≤b.bytes_v∧b.bytes_v≤1000000 * ((i:Int)+1))→al8 n m l (IntKind.wrap .i64 ((i:Int)+1)) a1 a2 a3 0 (am9 (l[i]) (aj8 (-1) l i)).1 (am9 (l[i]) (aj8 (-1) l i)).2.1 (am9 (l[i]) (aj8 (-1) l i)).2.2 b.once_done_v b.once_m_mu_state b.once_m_mu_sema b.closed_v b.calls_v b.failed_v b.bytes_v c1 c2 c3 0 (am9 (l[i]) (aj8 (-1) l i)).1 (am9 (l[i]) (aj8 (-1) l i)).2.1 (am9 (l[i]) (aj8 (-1) l i)).2.2=some ((true,()),()):=fun a1 a2 a3 c1 c2 c3 b hb=>by
   rw [w64 (by omega) (by omega)]
   exact ih a1 a2 a3 c1 c2 c3 b (by omega) (by omega) hb
  have aft:∀ (o1 o2 o3:Int),after ⟨o1,o2,o3,(),0,(aj8 (-1) l i).1,(aj8 (-1) l i).2.1,(aj8 (-1) l i).2.2⟩ (l[i])=⟨o1,o2,o3,(),0,(am9 (l[i]) (aj8 (-1) l i)).1,(am9 (l[i]) (aj8 (-1) l i)).2.1,(am9 (l[i]) (aj8 (-1) l i)).2.2⟩:=fun o1 o2 o3=>by
   unfold after dd7 am9
   dsimp only
   rw [if_neg (show ¬(0:Int)≠0 from fun c=>c rfl)]
   by_cases he:(tell l[i]).e≠0
   ·rw [if_pos he,if_pos he]
   ·rw [if_neg he,if_neg he]
  rw [bg9,ifd (by omega),if_pos hp,Int.toNat_natCast,ag1 hi,dO3 (hwk ..) fi,Option.bind_some]
  rw [w64 (x:=(l.length:Int) - 1) (by omega) (by omega),w64 (x:=(l.length:Int) - 1 - i) (by omega) (by omega),if_pos (by omega),show ((l.length:Int) - 1 - i).toNat=l.length - 1 - i by omega,ag1 hj]
  rw [show (ab2.mk b.once_done_v b.once_m_mu_state b.once_m_mu_sema () b.closed_v b.calls_v b.failed_v b.bytes_v)=b from rfl,dO3 hwb fj,Option.bind_some]
  dsimp only
  rw [if_neg (show ¬(0:Int)≠0 from fun c=>c rfl),aft]
  have hc:∀ r7:bf0,(0≤r7.calls_v∧r7.calls_v≤(i:Int)+1∧0≤r7.failed_v∧r7.failed_v≤(i:Int)+1∧0≤r7.bytes_v∧r7.bytes_v≤1000000 * ((i:Int)+1))→(if 0≤(i:Int) then (l[i]?.bind fun (y8:ae1)=>((au4 ((ab2.mk c1 c2 c3 () 0 (aj8 (-1) l i).1 (aj8 (-1) l i).2.1 (aj8 (-1) l i).2.2),y8,())).bind fun r9=>((aB2 (tell (l[i]),r9.1.1,())).bind fun r10=>(if (!r10.1.1)=true then some ((false,()),()) else (al8 n m l (IntKind.wrap .i64 ((i:Int)+1)) a1 a2 a3 0 (am9 (l[i]) (aj8 (-1) l i)).1 (am9 (l[i]) (aj8 (-1) l i)).2.1 (am9 (l[i]) (aj8 (-1) l i)).2.2 r7.once_done_v r7.once_m_mu_state r7.once_m_mu_sema r7.closed_v r7.calls_v r7.failed_v r7.bytes_v r9.2.1.once_done_v r9.2.1.once_m_mu_state r9.2.1.once_m_mu_sema r9.2.1.closed_v r9.2.1.calls_v r9.2.1.failed_v r9.2.1.bytes_v))))) else none)=some ((true,()),()):=fun r7 h7=>by
   rw [if_pos hp,ag1 hi,dO3 (hwk ..) fi,Option.bind_some]
   dsimp only
   rw [if_neg (show ¬(0:Int)≠0 from fun c=>c rfl),hs,Option.bind_some,aft]
   dsimp only
   rw [ah3]
   exact ih2 a1 a2 a3 c1 c2 c3 r7 h7
  refine aa9 (fun _=>?_) (fun _=>?_)
  ·obtain ⟨e,he⟩:=eQ3 (after b (l[l.length - 1 - i]))
   rw [he,Option.bind_some]
   exact hc _ ab
  ·exact hc _ ab
theorem deskApart_pure (x0:List ae1) (g0:aS8 x0):be8 (x0,())=some ((true,()),()):=by
 show be7 fuel _=_
 rw [cI3]
 obtain ⟨b,hb,hb'⟩:=eQ6 g0
 rw [hb,Option.bind_some]
 dsimp only
 cases b with
 | false=>rw [am5]; exact eS4 _
 | true=>
 obtain ⟨hl,hf⟩:=hb' rfl
 rw [ah3]
 exact ey5 (n:=fuel) hl hf x0.length fuel 0 0 0 0 0 0 0 ⟨0,0,0,(),0,0,0,0⟩ (by omega) (ae2 (by omega)) (by dsimp only; omega)
end Go.VP
