import Derived.Test.YtjdlhgdklmkkhaaGreatK3VB
import Derived.Deep.Slices
import Derived.Carry
import Derived.SizedLaws
import Derived.WideShapes
import Derived.DataReads
import Derived.OpenShut
import Derived.Below
import Derived.DataShut
set_option linter.unusedVariables false
set_option linter.unusedSimpArgs false
namespace Go.VI
open Go
abbrev Bs (U:af0):=List (Nat × Nat × List (CV U.τ))
section
variable {P:Program} {U:af0} {N:Nat} {L0:Nat→Nat} {G0:ab7} {w0:World} {G:ab7} {σ:ac0 U} {a:Act} {w:World} {o:Oper} {adv:Adv}
theorem aZ8 (t:Nat):∀ l:List Nat,ap6 t l=true↔t∈l
 | []=>by simp [ap6]
 | s::r=>by
  simp only [ap6]
  by_cases h:t=s
  ·subst h; simp
  ·rw [aV2 h]; simp [aZ8 t r,h]
theorem do8 (r:R P U N L0 G0 w0 G σ a w):∀ (l:List (TypeId × Operand)) {k:List (Arg U.τ)→Bs U→ad1 U} {rd:List Nat} {ws:List (Nat × AV U.τ)},aa4 P U σ (de2 P l k) rd ws→
  ∃ as bs rd',aa4 P U σ (k as bs) rd' ws∧(bs.map (·.1)).Nodup∧(ah5 as).length=bs.length∧(∀ q∈bs,σ q.1=.box q.2.2)∧
   (∀ (m:Nat) q l,bs[m]?=some q→(ah5 as)[m]?=some l→q.2.1+l.length≤q.2.2.length∧l=(q.2.2.drop q.2.1).take l.length)∧
   ∀ (who:Nat→Option (Nat × Option Nat)) (loc:Nat→Nat × Nat) (j:Nat),
    (∀ (m:Nat) q l,bs[m]?=some q→(ah5 as)[m]?=some l→au1 P U w G.I who (aa6+(j+m)) (loc (aa6+(j+m))) l∧loc (aa6+(j+m))=((G.loc q.1).1,(G.loc q.1).2+q.2.1))→
    aj7 P U w G.I who loc as (l.map fun p=>a.eval p.2) j
 | [],k,rd,ws,h=>⟨[],[],rd,h,List.nodup_nil,rfl,fun _ h=>by simp at h,fun _ _ _ h=>by simp at h,fun who loc j _=>.nil j⟩
 | (t,x)::l,k,rd,ws,h=>by
  simp only [de2] at h
  obtain ⟨v,_,h1,h⟩:=r.opd h
  have val:∀ ag cs rd',cellsOf v=some (ag,cs)→aa4 P U σ (de2 P l fun as bs=>k (.val ag cs::as) bs) rd' ws→∃ as bs rd',aa4 P U σ (k as bs) rd' ws∧(bs.map (·.1)).Nodup∧(ah5 as).length=bs.length∧(∀ q∈bs,σ q.1=.box q.2.2)∧
    (∀ (m:Nat) q l,bs[m]?=some q→(ah5 as)[m]?=some l→q.2.1+l.length≤q.2.2.length∧l=(q.2.2.drop q.2.1).take l.length)∧
    ∀ (who:Nat→Option (Nat × Option Nat)) (loc:Nat→Nat × Nat) (j:Nat),
     (∀ (m:Nat) q l,bs[m]?=some q→(ah5 as)[m]?=some l→au1 P U w G.I who (aa6+(j+m)) (loc (aa6+(j+m))) l∧loc (aa6+(j+m))=((G.loc q.1).1,(G.loc q.1).2+q.2.1))→
     aj7 P U w G.I who loc as (((t,x)::l).map fun p=>a.eval p.2) j:=by
   intro ag cs rd' hc h
   obtain ⟨as,bs,rd',g1,g2,g3,g4,g5,g6⟩:=do8 r l h
   obtain ⟨t',h3,_⟩:=h1.ok
   exact ⟨_,bs,rd',g1,g2,g3,g4,g5,fun who loc j hh=>.val ag cs _ as _ j (bo8 h3 hc) (g6 who loc j hh)⟩
  cases hv:v with
  | one c=>
   cases hcv:c with
   | ref s off=>
    rw [hv,hcv] at h h1
    obtain ⟨⟨cs,hs⟩,hp⟩:=h1.ref
    obtain ⟨_,h⟩:=h.of_read
    rw [hs] at h
    simp only at h
    split at h
    ·rename_i e hu
     cases hl:ak5 cs off (P.cellsOf e) with
     | none=>rw [hl] at h; exact h.of_fail.elim
     | some l0=>
      rw [hl] at h
      obtain ⟨k1,k2⟩:=aI5 hl
      have hlen:l0.length=P.cellsOf e:=by rw [k2,List.length_take,List.length_drop]; omega
      obtain ⟨as,bs,rd',g1,g2,g3,g4,g5,g6⟩:=do8 r l h
      obtain ⟨g0,g1⟩:=aa4.of_cond' g1
      have hns:s ∉ bs.map (·.1):=fun hm=>by rw [(aZ8 s _).2 hm] at g0; cases g0
      refine ⟨_,_,rd',g1,?_,by simp [ah5,g3],?_,?_,?_⟩
      ·simp only [List.map_cons,List.nodup_cons]
       exact ⟨hns,g2⟩
      ·intro q hq
       rcases List.mem_cons.1 hq with rfl | hq
       ·exact hs
       ·exact g4 q hq
      ·intro m q l' hm hl'
       cases m with
       | zero=>
        simp [ah5] at hm hl'
        subst hm; subst hl'
        exact ⟨by show off+l0.length≤cs.length; omega,by rw [hlen]; exact k2⟩
       | succ m=>exact g5 m q l' (by simpa using hm) (by simpa [ah5] using hl')
      ·intro who loc j hh
       have h0:=hh 0 (s,off,cs) l0 rfl rfl
       rw [Nat.add_zero] at h0
       simp only [List.map_cons]
       have:=aj7.ptr (P:=P) (U:=U) (w:=w) (I:=G.I) (who:=who) (loc:=loc) l0 as (l.map fun p=>a.eval p.2) j h0.1 (g6 who loc (j+1) fun m q l' hm hl'=>by
        have:=hh (m+1) q l' (by simpa using hm) (by simpa [ah5] using hl')
        rwa [show j+(m+1)=j+1+m by omega] at this)
       rw [h0.2] at this
       rw [hp]
       exact this
    ·exact h.of_fail.elim
   | _=>
    rw [hv,hcv] at h
    first
    | (simp only [cellsOf] at h; exact h.of_fail.elim)
    | (exact val _ _ _ (by rw [hv,hcv]; rfl) h)
  | agg cs=>rw [hv] at h; exact val _ _ _ (by rw [hv]; rfl) h
  | _=>rw [hv] at h; exact h.of_fail.elim
def de6 (bs:Bs U) (s:Nat):Option Nat:=bs.findIdx? fun q=>q.1==s
theorem cE8 {bs:Bs U} (h:(bs.map (·.1)).Nodup) {j:Nat} {q:Nat × Nat × List (CV U.τ)} (hj:bs[j]?=some q):de6 bs q.1=some j:=by
 induction bs generalizing j with
 | nil=>simp at hj
 | cons p bs ih=>
  simp only [List.map_cons,List.nodup_cons] at h
  simp only [de6,List.findIdx?_cons]
  cases j with
  | zero=>simp at hj; subst hj; simp
  | succ j=>
   simp at hj
   have hm:q∈bs:=List.mem_of_getElem? hj
   have hne:¬p.1=q.1:=fun he=>h.1 (by rw [he]; exact List.mem_map_of_mem hm)
   have:=ih h.2 hj
   simp only [de6] at this
   simp [hne,this]
theorem er1 {bs:Bs U} {s j:Nat} (h:de6 bs s=some j):∃ q,bs[j]?=some q∧q.1=s:=by
 obtain ⟨h1,h2,_⟩:=List.findIdx?_eq_some_iff_getElem.1 h
 exact ⟨bs[j],List.getElem?_eq_getElem h1,by simpa using h2⟩
def aC5 (G:ab7) (bs:Bs U) (lens:Nat→Nat) (b:Nat):Option (Nat × Option Nat):=
 match G.who b with
 | some (s,x)=>
  match de6 bs s with
  | some j=>
   match x with
   | none=>some (aa6+j,none)
   | some i=>if ((bs[j]?.map (·.2.1)).getD 0)≤i∧i < ((bs[j]?.map (·.2.1)).getD 0)+lens j then some (aa6+j,some (i - ((bs[j]?.map (·.2.1)).getD 0))) else none
  | none=>none
 | none=>none
def bM8 (G:ab7) (bs:Bs U) (t:Nat):Nat × Nat:=
 match bs[t - aa6]? with
 | some q=>((G.loc q.1).1,(G.loc q.1).2+q.2.1)
 | none=>(0,0)
def cE9 (G G':ab7) (bs:Bs U) (lens:Nat→Nat) (sz:Nat) (b:Nat):Option (Nat × Option Nat):=
 match G'.who b with
 | some (t,x)=>
  if aa6≤t then
   match bs[t - aa6]? with
   | some q=>match x with
    | none=>some (q.1,none)
    | some i=>some (q.1,some (q.2.1+i))
   | none=>none
  else none
 | none=>if (aC5 G bs lens b).isSome then none else if b < sz then G.who b else none
theorem ez1 {G:ab7} {bs:Bs U} {lens:Nat→Nat} {b:Nat} {j:Nat} {q:Nat × Nat × List (CV U.τ)} (hn:(bs.map (·.1)).Nodup) (hj:bs[j]?=some q) (h:G.who b=some (q.1,none)):aC5 G bs lens b=some (aa6+j,none):=by
 simp [aC5,h,cE8 hn hj]
theorem ez2 {G:ab7} {bs:Bs U} {lens:Nat→Nat} {b i:Nat} {j:Nat} {q:Nat × Nat × List (CV U.τ)} (hn:(bs.map (·.1)).Nodup) (hj:bs[j]?=some q) (h:G.who b=some (q.1,some i)) (h1:q.2.1≤i) (h2:i < q.2.1+lens j) :
  aC5 G bs lens b=some (aa6+j,some (i - q.2.1)):=by
 simp [aC5,h,cE8 hn hj,hj,h1,h2]
def eb5 (bs:Bs U) (lens:Nat→Nat) (L:Nat × Option Nat):Prop:=
 ∃ (j:Nat) (q:Nat × Nat × List (CV U.τ)),bs[j]?=some q∧L.1=q.1∧∀ i,L.2=some i→q.2.1≤i∧i < q.2.1+lens j
theorem eJ3 {G:ab7} {bs:Bs U} {lens:Nat→Nat} {b:Nat} {L:Nat × Option Nat} (h:G.who b=some L) (hL:¬eb5 bs lens L):aC5 G bs lens b=none:=by
 obtain ⟨s,x⟩:=L
 simp only [aC5,h]
 cases hi:de6 bs s with
 | none=>rfl
 | some j=>
  obtain ⟨q,hq,hqs⟩:=er1 hi
  cases x with
  | none=>exact absurd ⟨j,q,hq,hqs.symm,fun i hi=>by cases hi⟩ hL
  | some i=>
   simp only [hq,Option.map_some,Option.getD_some]
   rw [if_neg (fun hh=>hL ⟨j,q,hq,hqs.symm,fun i' hi'=>by injection hi' with hi'; subst hi'; exact hh⟩)]
theorem cr4 {G:ab7} {bs:Bs U} {lens:Nat→Nat} {b:Nat} (h:(aC5 G bs lens b).isSome=true):(G.who b).isSome=true:=by
 unfold aC5 at h
 cases hw:G.who b with
 | none=>rw [hw] at h; cases h
 | some L=>rfl
theorem ar4 {bs:Bs U} (hn:(bs.map (·.1)).Nodup):∀ {ls:List (List (CV U.τ))},ls.length=bs.length→∀ (σ:ac0 U) (t:Nat),(∀ (j:Nat) q l,bs[j]?=some q→ls[j]?=some l→q.1=t→ae4 σ (aZ4 bs ls) t=.box (setCells q.2.2 q.2.1 l))∧((∀ q∈bs,q.1≠t)→ae4 σ (aZ4 bs ls) t=σ t):=by
 induction bs with
 | nil=>
  intro ls hl σ t
  exact ⟨fun j q l h=>by simp at h,fun _=>by simp [aZ4,ae4]⟩
 | cons p bs ih=>
  intro ls hl σ t
  obtain ⟨s,off,cs⟩:=p
  cases ls with
  | nil=>simp at hl
  | cons l ls=>
   simp only [List.map_cons,List.nodup_cons] at hn
   simp only [List.length_cons,Nat.add_right_cancel_iff] at hl
   obtain ⟨h1,h2⟩:=ih hn.2 hl (upd σ s (.box (setCells cs off l))) t
   simp only [aZ4,ae4]
   refine ⟨fun j q l' hj hl' hq=>?_,fun hq=>?_⟩
   ·cases j with
    | zero=>
     simp at hj hl'
     subst hj; subst hl'
     simp only at hq
     subst hq
     rw [h2 (fun q' hq' he=>hn.1 (he ▸ List.mem_map_of_mem hq'))]
     simp [upd]
    | succ j=>exact h1 j q l' (by simpa using hj) (by simpa using hl') hq
   ·rw [h2 (fun q' hq'=>hq q' (List.mem_cons_of_mem _ hq'))]
    have:=hq (s,off,cs) (List.mem_cons_self ..)
    simp [upd,Ne.symm this]
end
end Go.VI
namespace Go.VI
open Go
section
variable {P:Program} {U:af0} {N:Nat} {L0:Nat→Nat} {G0:ab7} {w0:World} {G:ab7} {σ:ac0 U} {a:Act} {w:World} {o:Oper} {adv:Adv}
theorem dT9 {cs l:List (CV U.τ)} {off:Nat} (h:off+l.length≤cs.length) (hl:l=(cs.drop off).take l.length) (j:Nat) (hj:j < l.length):l[j]?=cs[off+j]?:=by
 have h1:l[j]?=((cs.drop off).take l.length)[j]?:=by rw [← hl]
 rw [h1,List.getElem?_take,if_pos hj,getElem?_drop']
theorem R.called (r:R P U N L0 G0 w0 G σ a w) {bs:Bs U} {ps:List (List (CV U.τ))} (hn:(bs.map (·.1)).Nodup) (hlen:ps.length=bs.length) (hσ:∀ q∈bs,σ q.1=.box q.2.2)
  (hps:∀ (m:Nat) q l,bs[m]?=some q→ps[m]?=some l→q.2.1+l.length≤q.2.2.length∧l=(q.2.2.drop q.2.1).take l.length)
  {lens:Nat→Nat} (hlens:∀ (j:Nat) l,ps[j]?=some l→lens j=l.length)
  {G':ab7} {w':World} (hst:aI3 ⟨G.I,bM8 G bs,aC5 G bs lens⟩ w G' w') {outs:List (List (CV U.τ))} (holen:outs.length=bs.length)
  (hbox:∀ (j:Nat) cs,outs[j]?=some cs→au1 P U w' G'.I G'.who (aa6+j) (bM8 G bs (aa6+j)) cs)
  (hrest:∀ (j:Nat) cs,ps[j]?=some cs→(∃ l,outs[j]?=some l∧l.length=cs.length)∧∀ o,(o < (bM8 G bs (aa6+j)).2∨(bM8 G bs (aa6+j)).2+cs.length≤o)→w'.cell? ⟨(bM8 G bs (aa6+j)).1,o,none⟩=w.cell? ⟨(bM8 G bs (aa6+j)).1,o,none⟩)
  (himm:∀ b o,G'.I b o→(w'.cell? ⟨b,o,none⟩).isSome=true) (hwho:∀ b L,G'.who b=some L→b < w'.heap.size) :
  ∃ G2,R P U N L0 G0 w0 G2 (ae4 σ (aZ4 bs outs)) a w'∧G2.I=G'.I:=by
 let G2:ab7:=⟨G'.I,G.loc,cE9 G G' bs lens w.heap.size⟩
 have hloc:∀ (j:Nat) q,bs[j]?=some q→bM8 G bs (aa6+j)=((G.loc q.1).1,(G.loc q.1).2+q.2.1):=fun j q hj=>by
  simp [bM8,hj]
 have hout:∀ (j:Nat) q,bs[j]?=some q→∃ p l,ps[j]?=some p∧outs[j]?=some l∧l.length=p.length:=fun j q hj=>by
  have hlt:=(List.getElem?_eq_some_iff.1 hj).1
  have hp:ps[j]?=some ps[j]:=List.getElem?_eq_getElem (by omega)
  obtain ⟨⟨l,h1,h2⟩,_⟩:=hrest j _ hp
  exact ⟨_,l,hp,h1,h2⟩
 have hinj:∀ (i j:Nat) p q,bs[i]?=some p→bs[j]?=some q→p.1=q.1→i=j∧p=q:=fun i j p q hi hj he=>by
  have h1:=cE8 hn hi
  have h2:=cE8 hn hj
  rw [he,h2] at h1
  injection h1 with h1
  subst h1
  rw [hi] at hj; injection hj with hj
  exact ⟨rfl,hj⟩
 have noC:∀ b L,G.who b=some L→¬eb5 bs lens L→aC5 G bs lens b=none:=fun b L h hL=>eJ3 h hL
 have noG':∀ b,b < w.heap.size→aC5 G bs lens b=none→G'.who b=none:=fun b hb hw=>by
  cases hx:G'.who b with
  | none=>rfl
  | some L=>
   rcases hst.newW b L hx with h | h
   ·omega
   ·have h':(aC5 G bs lens b).isSome=true:=h
    rw [hw] at h'; cases h'
 have keepW:∀ b L,G.who b=some L→¬eb5 bs lens L→G2.who b=some L:=fun b L h hL=>by
  have hb:=r.who b L h
  have h1:=noC b L h hL
  have h2:=noG' b hb h1
  show cE9 G G' bs lens w.heap.size b=some L
  simp only [cE9,h2,h1,Option.isSome_none,Bool.false_eq_true,if_false,if_pos hb,h]
 have toW:∀ b (j:Nat) x q,G'.who b=some (aa6+j,x)→bs[j]?=some q→G2.who b=some (q.1,x.map (q.2.1 + ·)):=fun b j x q h hj=>by
  show cE9 G G' bs lens w.heap.size b=_
  have e:aa6+j - aa6=j:=by omega
  simp only [cE9,h,Nat.le_add_right,if_true,e,hj]
  cases x <;> rfl
 have hx:Ext (eb5 bs lens) G G2 σ (ae4 σ (aZ4 bs outs)) w w':=by
  refine ⟨fun b o h=>hst.imm b o h,fun b L h hL=>⟨keepW b L h hL,hst.old b (r.who b L h) (noC b L h hL),fun o hI=>?_⟩,fun _ _=>rfl,fun s cs hs=>?_,fun s e y q hs=>?_⟩
  ·rcases hst.newI b o hI with h1 | h1 | h1
   ·exact h1
   ·have:=r.who b L h; omega
   ·have h':(aC5 G bs lens b).isSome=true:=h1
    rw [noC b L h hL] at h'; cases h'
  ·by_cases hb:∃ q∈bs,q.1=s
   ·obtain ⟨q,hq,hqs⟩:=hb
    obtain ⟨j,hj⟩:=List.mem_iff_getElem?.1 hq
    obtain ⟨p,l,_,hl,_⟩:=hout j q hj
    exact ⟨_,(ar4 hn holen σ s).1 j q l hj hl hqs⟩
   ·exact ⟨cs,by rw [(ar4 hn holen σ s).2 (fun q hq he=>hb ⟨q,hq,he⟩),hs]⟩
  ·have:∀ q∈bs,q.1≠s:=fun q hq he=>by have:=hσ q hq; rw [he,hs] at this; cases this
   exact ⟨e,y,by rw [(ar4 hn holen σ s).2 this,hs],rfl⟩
 have hstep:aI3 G w G2 w':=by
  refine ⟨hst.os,hst.tape,hst.output,hst.size,fun b hb hw=>hst.old b hb ?_,fun b o h=>hst.imm b o h,fun b o h=>?_,fun b L h=>?_⟩
  ·show aC5 G bs lens b=none
   simp [aC5,hw]
  ·rcases hst.newI b o h with h1 | h1 | h1
   ·exact .inl h1
   ·exact .inr (.inl h1)
   ·exact .inr (.inr (cr4 h1))
  ·have h':cE9 G G' bs lens w.heap.size b=some L:=h
   unfold cE9 at h'
   cases hg:G'.who b with
   | some L'=>
    rcases hst.newW b L' hg with h1 | h1
    ·exact .inl h1
    ·exact .inr (cr4 h1)
   | none=>
    rw [hg] at h'
    simp only at h'
    split at h'
    ·cases h'
    ·split at h'
     ·exact .inr (by rw [h']; rfl)
     ·cases h'
 refine ⟨G2,r.go hx hstep rfl rfl (fun _ _=>rfl) (fun b o h=>.inr (himm b o h)) (fun b L h=>?_) (fun t cs' ht hσ'=>?_) (fun t=>?_),rfl⟩
 ·have h':cE9 G G' bs lens w.heap.size b=some L:=h
  unfold cE9 at h'
  cases hg:G'.who b with
  | some L'=>exact .inr (hwho b L' hg)
  | none=>
   rw [hg] at h'
   simp only at h'
   split at h'
   ·cases h'
   ·split at h'
    ·exact .inl ⟨L,h'⟩
    ·cases h'
 ·by_cases hb:∃ q∈bs,q.1=t
  ·obtain ⟨q,hq,hqs⟩:=hb
   obtain ⟨j,hj⟩:=List.mem_iff_getElem?.1 hq
   obtain ⟨p,l,hp,hl,hll⟩:=hout j q hj
   rw [(ar4 hn holen σ t).1 j q l hj hl hqs] at hσ'
   injection hσ' with hσ'
   obtain ⟨_,h2⟩:=hrest j p hp
   obtain ⟨h3,_⟩:=hps j q p hj hp
   rw [hloc j q hj] at h2
   refine ⟨q.2.2,by rw [← hqs]; exact hσ q hq,by rw [← hσ',aD6],fun o ho=>?_⟩
   rw [← hqs] at ho ⊢
   refine h2 o ?_
   simp only
   omega
  ·rw [(ar4 hn holen σ t).2 (fun q hq he=>hb ⟨q,hq,he⟩)] at hσ'
   refine ⟨cs',hσ',rfl,fun o _=>?_⟩
   have hbx:=r.slots t
   rw [hσ'] at hbx
   have hw:=hbx.2.hwho
   have hL:¬eb5 bs lens (t,none):=fun ⟨j,q,hj,he,_⟩=>hb ⟨q,List.mem_of_getElem? hj,he.symm⟩
   have:=hst.old (G.loc t).1 (r.who _ _ hw) (noC _ _ hw hL)
   simp only [World.cell?,this]
 ·by_cases hb:∃ q∈bs,q.1=t
  ·right
   obtain ⟨q,hq,hqs⟩:=hb
   obtain ⟨j,hj⟩:=List.mem_iff_getElem?.1 hq
   obtain ⟨p,l,hp,hl,hll⟩:=hout j q hj
   obtain ⟨h3,h3'⟩:=hps j q p hj hp
   rw [(ar4 hn holen σ t).1 j q l hj hl hqs]
   have hbx:=r.slots t
   have hσt:σ t=.box q.2.2:=by rw [← hqs]; exact hσ q hq
   rw [hσt] at hbx
   obtain ⟨hb1,hb2⟩:=hbx
   have hcb:=hbox j l hl
   rw [hloc j q hj,hqs] at hcb
   obtain ⟨_,hr2⟩:=hrest j p hp
   rw [hloc j q hj,hqs] at hr2
   simp only at hr2
   obtain ⟨c,T,fz,k1,k2,k3,k4⟩:=hb2.row
   obtain ⟨c',T',fz',m1,m2,m3,m4⟩:=hcb.row
   simp only at m1 m2 m4
   show (t < aa6→_)∧au1 P U w' G2.I G2.who t (G.loc t) _
   refine ⟨hb1,?_,hcb.himm,c',T',fz',m1,?_,m3,fun i x hi=>?_⟩
   ·have:=toW _ j none q hcb.hwho hj
    rw [this,hqs]; rfl
   ·
    rw [aD6]
    rcases Nat.eq_zero_or_pos q.2.2.length with h0 | h0
    ·
     have hp0:p.length=0:=by omega
     rw [h0,Nat.add_zero]
     have:(G.loc t).2+q.2.1+l.length≤c'.size:=m2
     omega
    ·
     have key:(w'.cell? ⟨(G.loc t).1,(G.loc t).2+(q.2.2.length - 1),none⟩).isSome=true:=by
      by_cases hin:q.2.1≤q.2.2.length - 1∧q.2.2.length - 1 < q.2.1+p.length
      ·rw [ah8 m1,Array.getElem?_eq_getElem (by omega)]; rfl
      ·rw [hr2 _ (by omega),ah8 k1,Array.getElem?_eq_getElem (by omega)]; rfl
     rw [ah8 m1] at key
     obtain ⟨u,hu⟩:=Option.isSome_iff_exists.1 key
     have:=(Array.getElem?_eq_some_iff.1 hu).1
     omega
   ·rw [aV4 _ _ _ _ (by omega)] at hi
    rw [← ah8 m1]
    split at hi
    ·rename_i hc
     obtain ⟨u,hu,hk⟩:=m4 (i - q.2.1) x hi
     refine ⟨u,?_,?_⟩
     ·rw [ah8 m1,← hu]; congr 1; omega
     ·rcases hk with hk | ⟨e,css,n1,n2,n3⟩
      ·exact .inl hk
      ·refine .inr ⟨e,css,n1,n2,?_⟩
       rcases n3 with n3 | ⟨b,off,cap,n4,n5,n6,n7⟩
       ·exact .inl n3
       ·refine .inr ⟨b,off,cap,n4,n5,n6,?_⟩
        rcases n7 with n7 | ⟨n7,n8⟩
        ·exact .inl n7
        ·refine .inr ⟨?_,n8⟩
         have:=toW _ j _ q n7 hj
         rw [this,hqs]
         simp only [Option.map_some]
         rw [show q.2.1+(i - q.2.1)=i by omega]
    ·rename_i hc
     obtain ⟨u,hu,hk⟩:=k4 i x hi
     refine ⟨u,?_,hk.mono hx ?_⟩
     ·rw [hr2 _ (by omega),ah8 k1]; exact hu
     ·rintro ⟨j',q',hj',he,hh⟩
      obtain ⟨rfl,rfl⟩:=hinj j j' q q' hj hj' (by rw [hqs]; exact he)
      have:=hh i rfl
      rw [hlens j p hp] at this
      omega
  ·left
   refine ⟨(ar4 hn holen σ t).2 (fun q hq he=>hb ⟨q,hq,he⟩),rfl,?_,?_⟩
   ·rintro ⟨j,q,hj,he,_⟩; exact hb ⟨q,List.mem_of_getElem? hj,he.symm⟩
   ·rintro i ⟨j,q,hj,he,_⟩; exact hb ⟨q,List.mem_of_getElem? hj,he.symm⟩
theorem aZ6.slot {I:Nat→Nat→Prop} {v:AV U.τ} {u:Value} {G2:ab7} {σ2:ac0 U} (hI:G2.I=I) (h:aZ6 P U w I v u):v.owner=false∧∀ t,ae0 P U G2 σ2 w t v u:=by
 cases v with
 | one c=>exact ⟨rfl,fun t=>ae0.of_pc (by rw [hI]; exact h)⟩
 | agg cs=>exact ⟨rfl,fun t=>by rw [← hI] at h; exact h⟩
 | tup vs=>exact ⟨rfl,fun t=>by rw [← hI] at h; exact h⟩
 | _=>exact h.elim
theorem ej8 {I:Nat→Nat→Prop} {who:Nat→Option (Nat × Option Nat)} {loc:Nat→Nat × Nat} {us:List Value} {j:Nat} (h:aj7 P U w I who loc [] us j):us=[]:=by cases h; rfl
theorem eT4 (r:R P U N L0 G0 w0 G σ a w) (hd:∀ d,o.dst=some d→d < N) {c:Call} {f:Operand} (ho:o.op=.call c) (hb:c.callee=.value f) {rd:List Nat} {ws:List (Nat × AV U.τ)} (h:aa4 P U σ (ac6 P adv o) rd ws) :
  af8 P U N L0 G0 w0 σ o a w ws:=by
 obtain ⟨callee,args,argTypes⟩:=c
 simp only at hb
 subst hb
 simp only [ac6,ho] at h
 obtain ⟨c,_,h1,h⟩:=r.opd1 h
 cases c with
 | fn k=>
  simp only at h
  cases hfn:P.funcs[k]? with
  | none=>rw [hfn] at h; exact h.of_fail.elim
  | some fn=>
   rw [hfn] at h
   obtain ⟨hsz,h⟩:=aa4.of_cond h
   have hsz:=Nat.eq_of_beq_eq_true hsz
   obtain ⟨as,bs,_,h,hn,hlen,hσ,hps,hrel⟩:=do8 r _ h
   obtain ⟨out,hcn,h⟩:=h.of_call
   rcases hcn with ⟨hcallable,hcall⟩ | ⟨has,hcallable,cs,hret,hnew⟩
   rotate_left
   ·have hargs:=hrel (fun _=>none) (fun _=>(0,0)) 0 (fun m q l hm hl=>by rw [has] at hl; simp [ah5] at hl)
    rw [has] at hargs
    have hnil:args.map a.eval=#[]:=by
     have h1:(fn.params.toList.zip args.toList).map (fun p=>a.eval p.2)=[]:=ej8 hargs
     have h2:(fn.params.toList.zip args.toList).length=0:=by have:=congrArg List.length h1; simpa using this
     have h3:args.size=0:=by
      rw [List.length_zip,Array.length_toList,Array.length_toList] at h2
      have h4:fn.params.size=args.size:=hsz
      rw [h4,Nat.min_self] at h2
      exact h2
     simp [Array.eq_empty_of_size_eq_zero h3]
    have hrun:(execOp a.eval o).run P w=.ok (.enter k (args.map a.eval)) w:=by
     have he:=h1.fn
     have:=hcallable (args.map a.eval) w
     simp [execOp,ho,resolve,he,Deferred.ofValue,invoke,this]
    unfold eq3 at h
    rw [hret] at h
    simp only at h
    cases hdst:o.dst with
    | none=>rw [hdst] at h; exact h.of_fail.elim
    | some d=>
     rw [hdst] at h
     obtain ⟨_,h⟩:=h.of_read
     cases hσd:σ d <;> rw [hσd] at h <;> first | exact h.of_fail.elim | skip
     have hw:=h.of_done
     subst hw
     unfold af8 aA6
     rw [hrun,hnil]
     simp only
     refine (hnew w).mono fun e w' hh=>?_
     obtain ⟨us,T,he,hw,hs,hc⟩:=hh
     subst hw
     refine ⟨_,he,?_⟩
     rw [hdst]
     exact r.newBox (hd d hdst) hσd ⟨hs,fun i c hi=>by obtain ⟨u,hu,hp⟩:=hc i c hi; exact ⟨u,hu,hp _⟩⟩ T
   let lens:Nat→Nat:=fun j=>((ah5 as)[j]?.map List.length).getD 0
   have hlens:∀ (j:Nat) l,(ah5 as)[j]?=some l→lens j=l.length:=fun j l hl=>by simp [lens,hl]
   have hloc:∀ (j:Nat) q,bs[j]?=some q→bM8 G bs (aa6+j)=((G.loc q.1).1,(G.loc q.1).2+q.2.1):=fun j q hj=>by simp [bM8,hj]
   have hargs:=hrel (aC5 G bs lens) (bM8 G bs) 0 (fun m q l hm hl=>by
    rw [Nat.zero_add]
    refine ⟨?_,hloc m q hm⟩
    rw [hloc m q hm]
    obtain ⟨k1,k2⟩:=hps m q l hm hl
    have hbx:=r.slots q.1
    rw [hσ q (List.mem_of_getElem? hm)] at hbx
    obtain ⟨c,T,fz,m1,m2,m3,m4⟩:=hbx.2.row
    refine ⟨ez1 (lens:=lens) hn hm hbx.2.hwho,hbx.2.himm,c,T,fz,m1,by simp only; omega,m3,fun i x hi=>?_⟩
    have hil:=(List.getElem?_eq_some_iff.1 hi).1
    rw [dT9 k1 k2 i hil] at hi
    obtain ⟨u,hu,hk⟩:=m4 _ x hi
    refine ⟨u,by simp only; rw [Nat.add_assoc]; exact hu,?_⟩
    rcases hk with hk | ⟨e,css,n1,n2,n3⟩
    ·exact .inl hk
    ·refine .inr ⟨e,css,n1,n2,?_⟩
     rcases n3 with n3 | ⟨b,off,cap,n4,n5,n6,n7⟩
     ·exact .inl n3
     ·refine .inr ⟨b,off,cap,n4,n5,n6,?_⟩
      rcases n7 with n7 | ⟨n7,n8⟩
      ·exact .inl n7
      ·refine .inr ⟨?_,n8⟩
       rw [ez2 hn hm n7 (by omega) (by rw [hlens m l hl]; omega)]
       congr 3
       omega)
   have hvals:((fn.params.toList.zip args.toList).map fun p=>a.eval p.2)=(args.map a.eval).toList:=by
    rw [Array.toList_map]
    have h2:(fn.params.toList.zip args.toList).map (fun p=>a.eval p.2)=((fn.params.toList.zip args.toList).map Prod.snd).map a.eval:=by rw [List.map_map]; rfl
    rw [h2,List.map_snd_zip (by simp [hsz])]
   rw [hvals] at hargs
   have hC:=hcall ⟨G.I,bM8 G bs,aC5 G bs lens⟩ w _ hargs r.imm (fun b L hw=>by
    have:(G.who b).isSome=true:=cr4 (bs:=bs) (lens:=lens) (by show (aC5 G bs lens b).isSome=true; rw [show aC5 G bs lens b=some L from hw]; rfl)
    obtain ⟨L',hL'⟩:=Option.isSome_iff_exists.1 this
    exact r.who b L' hL') ⟨(r.env.step r.step).env,(r.env.step r.step).size,fun b hb=>by
     show aC5 G bs lens b=none
     unfold aC5
     rw [(r.env.step r.step).who b hb]⟩
   have hrun:(execOp a.eval o).run P w=.ok (.enter k (args.map a.eval)) w:=by
    have he:=h1.fn
    have:=hcallable (args.map a.eval) w
    simp [execOp,ho,resolve,he,Deferred.ofValue,invoke,this]
   unfold af8 aA6
   rw [hrun]
   simp only
   have harr:(args.map a.eval).toList.toArray=args.map a.eval:=by simp only [Array.toArray_toList]
   rw [harr] at hC
   by_cases hbox:∃ cs,out.ret=.box cs
   ·refine hC.mono fun e w' ⟨u,G',he,g1,g2,_⟩=>?_
    obtain ⟨cs,hc⟩:=hbox
    rw [hc] at g2
    exact g2.elim
   rw [eH9 (fun cs hc=>hbox ⟨cs,hc⟩)] at h
   obtain ⟨hbl,h⟩:=aa4.of_cond h
   have hbl:=Nat.eq_of_beq_eq_true hbl
   refine hC.mono fun e w' ⟨u,G',he,g1,g2,g3,g4,g5,g6,g7⟩=>⟨u,he,?_⟩
   obtain ⟨G2,hR,hI⟩:=r.called hn hlen hσ hps hlens g1 (by rw [g3,hlen]) g4 g5 g6 g7
   obtain ⟨k1,k2⟩:=aZ6.slot (G2:=G2) (σ2:=ae4 σ (aZ4 bs out.boxes)) hI g2
   rcases h.of_wr with ⟨m1,m2⟩ | ⟨d,m1,m2,m3⟩
   ·rw [m1,m2]; exact ⟨G2,hR⟩
   ·rw [m1,m2]
    have hdq:∀ q∈bs,q.1≠d:=fun q hq he=>by have:=hσ q hq; rw [he] at this; rw [this] at m3; cases m3
    have hat:ae4 σ (aZ4 bs out.boxes) d=σ d:=(ar4 hn (by rw [g3,hlen]) σ d).2 hdq
    have:=hR.put (hd d m1) (by rw [hat]; exact m3) k1 k2
    refine ⟨G2,?_⟩
    have e1:ae4 σ ((d,out.ret)::aZ4 bs out.boxes)=upd (ae4 σ (aZ4 bs out.boxes)) d out.ret:=by
     funext z
     simp only [ae4]
     by_cases hz:∃ q∈bs,q.1=z
     ·obtain ⟨q,hq,hqz⟩:=hz
      have hzd:z≠d:=fun he=>hdq q hq (by rw [hqz,he])
      obtain ⟨j,hj⟩:=List.mem_iff_getElem?.1 hq
      have hlt:=(List.getElem?_eq_some_iff.1 hj).1
      have hl:out.boxes[j]?=some out.boxes[j]:=List.getElem?_eq_getElem (by omega)
      rw [(ar4 hn (by rw [g3,hlen]) (upd σ d out.ret) z).1 j q _ hj hl hqz]
      simp only [upd,hzd,if_false]
      rw [(ar4 hn (by rw [g3,hlen]) σ z).1 j q _ hj hl hqz]
     ·rw [(ar4 hn (by rw [g3,hlen]) (upd σ d out.ret) z).2 (fun q hq he=>hz ⟨q,hq,he⟩)]
      simp only [upd]
      rw [(ar4 hn (by rw [g3,hlen]) σ z).2 (fun q hq he=>hz ⟨q,hq,he⟩)]
    rw [e1]
    exact this
 | _=>exact h.of_fail.elim
end
end Go.VI
namespace Go.VI
open Go
section
variable {P:Program} {U:af0} {N:Nat} {L0:Nat→Nat} {G0:ab7} {w0:World} {G:ab7} {σ:ac0 U} {a:Act} {w:World} {o:Oper} {adv:Adv}
theorem eT5 (hU:aD7 P U) (r:R P U N L0 G0 w0 G σ a w) (hd:∀ d,o.dst=some d→d < N) {rd:List Nat} {ws:List (Nat × AV U.τ)} (h:aa4 P U σ (ac6 P adv o) rd ws):af8 P U N L0 G0 w0 σ o a w ws:=by
 cases ho:o.op with
 | move x=>exact eT0 r hd ho h
 | assign x=>exact ey9 r hd ho h
 | pick c x y=>exact eS9 r hd ho h
 | alloc t=>exact eI9 r hd ho h
 | box t x=>exact eZ3 r hd ho h
 | build t ps=>exact eI8 r hd ho h
 | buildSlice t n ps=>exact dT6 hU r hd ho h
 | load t x=>exact eT1 r hd ho h
 | store t x y=>exact eJ2 r hd ho h
 | nilCheck x=>exact ej6 r hd ho h
 | binOp op t x y u=>exact eY9 r hd ho h
 | unOp op t x=>exact fd1 r hd ho h
 | convert s d x=>exact er0 r hd ho h
 | makeSlice t l c=>exact eb4 r hd ho h
 | slice t x lo hi mx=>exact eI7 r hd ho h
 | fieldAddr t x f=>exact ea6 r hd ho h
 | field t x f=>exact eI5 r hd ho h
 | indexAddr t x i=>exact eb0 r hd ho h
 | index t x i=>exact eI6 r hd ho h
 | extract x i=>exact eq7 r hd ho h
 | call c=>
  cases hc:c.callee with
  | value f=>exact eT4 r hd ho hc h
  | invoke x m=>simp only [ac6,ho,hc] at h; exact h.of_fail.elim
  | builtin b=>
   cases b with
   | append=>exact ez0 r hd ho hc h
   | copy=>exact eT2 r hd ho hc h
   | len=>exact eZ0 r hd ho hc h
   | max=>exact eZ2 r hd ho hc h
   | min=>exact eZ1 r hd ho hc h
   | _=>simp only [ac6,ho,hc] at h; exact h.of_fail.elim
 | _=>simp only [ac6,ho] at h; exact h.of_fail.elim
abbrev ak7 (P:Program) (U:af0) (N:Nat) (L0:Nat→Nat) (G0:ab7) (w0:World) (σ:ac0 U) (a:Act) (w:World):Prop:=∃ G,R P U N L0 G0 w0 G σ a w
theorem er2 {ops:Array Oper} (r:R P U N L0 G0 w0 G σ a w) {j t:Nat} {g:Oper} {b:Bool} (hj:ops[j]?=some g) (hg:g.dst=some t) (hb:σ t=.one (.bool b)):yielded ops a.tmps j=some b:=by
 have hs:=r.slots t
 rw [hb] at hs
 have hv:a.tmps.getD t undef=.bool b:=PC.of_bool (by
  rcases hs with hs | ⟨_,_,h1,_⟩
  ·exact hs
  ·simp [cont] at h1)
 have ht:a.tmps[t]?=some (.bool b):=by
  rw [Array.getD_eq_getD_getElem?] at hv
  cases hx:a.tmps[t]? with
  | none=>rw [hx] at hv; cases hv
  | some v=>rw [hx] at hv; exact congrArg some hv
 simp [yielded,hj,hg,ht]
theorem en0 (hU:aD7 P U) {Q:Exit→Act→World→Prop} {ops:List Oper} (r:R P U N L0 G0 w0 G σ a w) (hN:adv.n≤N) {i:Nat} (hi:ops[i]?=some o) {rd:List Nat} {ws:List (Nat × AV U.τ)} (h:aa4 P U σ (as6 P adv ops o) rd ws)
  {K:Act→World→Prop} (hK:∀ a' w',ak7 P U N L0 G0 w0 (ae4 σ ws) a' w'→K a' w'):wpOp P ops.toArray Q i K a w:=by
 have hi':ops.toArray[i]?=some o:=by simpa using hi
 unfold wpOp
 rw [hi']
 simp only
 unfold as6 at h
 obtain ⟨hdst,h⟩:=aa4.of_cond' h
 have hd:∀ d,o.dst=some d→d < N:=fun d hdd=>by
  rw [hdd] at hdst
  simp only at hdst
  rcases Nat.lt_or_ge d adv.n with h1 | h1
  ·exact Nat.lt_of_lt_of_le h1 hN
  ·rw [Nat.ble_eq_true_of_le h1] at hdst; cases hdst
 have go:∀ rd',aa4 P U σ (ac6 P adv o) rd' ws→o.wp P a w K Q:=fun rd' h=>Oper.wp_mono hK (aA6.wp (eT5 hU r hd h))
 cases hg:o.guard with
 | none=>
  rw [hg] at h
  have hw:Region.wanted o (yielded ops.toArray a.tmps)=true:=by simp [Region.wanted,hg]
  rw [if_pos hw]
  exact .inl (go _ h)
 | some p=>
  obtain ⟨j,want⟩:=p
  rw [hg] at h
  simp only at h
  cases hj:ops[j]? with
  | none=>rw [hj] at h; exact h.of_fail.elim
  | some g=>
   rw [hj] at h
   simp only at h
   cases hgd:g.dst with
   | none=>rw [hgd] at h; exact h.of_fail.elim
   | some t=>
    rw [hgd] at h
    have skip:∀ rd',aa4 P U σ (wr o.dst (.tup [])) rd' ws→K (a.put o.dst undef) w:=fun rd' h=>by
     refine hK _ _ ⟨G,?_⟩
     rcases h.of_wr with ⟨k1,k2⟩ | ⟨d,k1,k2,k3⟩
     ·rw [k1,k2]; exact r
     ·rw [k1,k2]; exact r.put (hd d k1) k3 rfl (fun _=>⟨#[],rfl,rfl,fun j a cs hj=>by simp at hj⟩)
    obtain ⟨_,h⟩:=h.of_read
    split at h
    ·rename_i hst
     have hw:Region.wanted o (yielded ops.toArray a.tmps)=false:=by
      have hs:=r.slots t
      rw [hst] at hs
      obtain ⟨us,hv,_⟩:=hs
      have hy:yielded ops.toArray a.tmps j=none:=by
       have hj2:ops.toArray[j]?=some g:=by simpa using hj
       rw [Array.getD_eq_getD_getElem?] at hv
       cases hx:a.tmps[t]? with
       | none=>simp [yielded,hj2,hgd,hx]
       | some v=>
        rw [hx] at hv
        have hv:v=.tuple us:=hv
        subst hv
        simp [yielded,hj2,hgd,hx]
      simp [Region.wanted,hg,hy]
     rw [hw]
     simp only [Bool.false_eq_true,if_false]
     exact skip _ h
    obtain ⟨b,_,hb,h⟩:=h.of_split
    have hy:=er2 (ops:=ops.toArray) r (j:=j) (g:=g) (by simpa using hj) hgd hb
    have hw:Region.wanted o (yielded ops.toArray a.tmps)=(b==want):=by
     simp only [Region.wanted,hg,hy]
     cases b <;> cases want <;> rfl
    rw [hw]
    cases hbw:(b==want) with
    | true=>
     rw [hbw] at h
     simp only [if_true]
     exact .inl (go _ h)
    | false=>
     rw [hbw] at h
     simp only [Bool.false_eq_true,if_false]
     exact skip _ h
structure fe4 (P:Program) (U:af0) (σ:ac0 U) (t:ad1 U) (rd:List Nat) (ws:List (Nat × AV U.τ)) (s off:Nat):Prop where
 box:∃ cs,σ s=.box cs∧(s∈ws.map (·.1)→∃ c,∀ τ:ac0 U,ae4 τ ws s=.box (cs.set off c))∧
  ∀ σ2 cs2,σ2 s=.box cs2→cs2[off]?=cs[off]?→(∀ x∈rd,x≠s→σ2 x=σ x)→s ∉ ws.map (·.1)→aa4 P U σ2 t rd ws
theorem aa4.read_inv {σ:ac0 U} {s:Nat} {f:AV U.τ→ad1 U} {rd:List Nat} {ws:List (Nat × AV U.τ)} (h:aa4 P U σ (.read s f) rd ws):∃ rd',rd=s::rd'∧aa4 P U σ (f (σ s)) rd' ws:=by
 cases h with
 | read _ _ rd' _ h=>exact ⟨rd',rfl,h⟩
theorem aa4.wr_inv {σ:ac0 U} {dst:Option Nat} {v:AV U.τ} {more:List (Nat × AV U.τ)} {rd:List Nat} {ws:List (Nat × AV U.τ)} (h:aa4 P U σ (wr dst v more) rd ws) :
  (dst=none∧ws=more)∨∃ d,dst=some d∧ws=(d,v)::more∧(σ d).owner=false:=by
 rcases h.of_wr with ⟨h1,h2⟩ | ⟨d,h1,h2,h3⟩
 ·exact .inl ⟨h1,h2⟩
 ·exact .inr ⟨d,h1,h2,h3⟩
theorem dv5 {t:TypeId} (h:aM2 P t=true) (cs:List (CV U.τ)) (off:Nat):an1 P t cs off=(cs[off]?).map .one:=by
 unfold aM2 at h
 unfold an1
 cases hu:P.underlying t with
 | none=>rw [hu] at h; cases h
 | some u=>
  rw [hu] at h
  cases u <;> first | (cases h; done) | (cases hx:cs[off]? <;> rfl)
theorem dP6 {σ:ac0 U} {ops:List Oper} {rd:List Nat} {ws:List (Nat × AV U.τ)} {s off:Nat} (hs:aP3 P σ o=some (s,off)) (h:aa4 P U σ (as6 P adv ops o) rd ws):fe4 P U σ (as6 P adv ops o) rd ws s off:=by
 unfold aP3 at hs
 split at hs
 ·rename_i t a hg hop
  split at hs
  ·rename_i s' off' ha
   cases h1:aM2 P t with
   | false=>rw [h1] at hs; cases hs
   | true=>
    rw [h1] at hs
    simp only [cond_true,Option.some.injEq,Prod.mk.injEq] at hs
    obtain ⟨rfl,rfl⟩:=hs
    have htree:(as6 P adv ops o:ad1 U)=cond (match o.dst with | some d=>Nat.ble adv.n d | none=>false) .fail (ac6 P adv o):=by
     unfold as6; rw [hg]; rfl
    rw [htree] at h ⊢
    obtain ⟨hdst,hA⟩:=aa4.of_cond' h
    clear h
    rw [hdst,cond_false]
    simp only [ac6,hop] at hA ⊢
    obtain ⟨hz,hB⟩:=aa4.of_cond hA
    clear hA
    rw [hz,cond_true]
    unfold rdO at hB ⊢
    simp only at hB ⊢
    obtain ⟨hv,hC⟩:=aa4.of_cond' hB
    clear hB
    rw [hv,cond_false]
    obtain ⟨rd1,hr1,hE⟩:=hC.read_inv
    clear hC
    subst hr1
    rw [ha] at hE
    simp only [ax5] at hE
    obtain ⟨rd2,hr2,h⟩:=hE.read_inv
    clear hE
    subst hr2
    cases hσ:σ s' <;> rw [hσ] at h <;> first | exact h.of_fail.elim | skip
    rename_i cs
    simp only [dv5 h1] at h
    have has:a≠s':=fun he=>by rw [he,hσ] at ha; cases ha
    cases hc:cs[off']? with
    | none=>rw [hc] at h; exact h.of_fail.elim
    | some c=>
     rw [hc] at h
     simp only [Option.map_some] at h
     cases hgv:bF0 adv o.dst (.one c) with
     | true=>
      rw [hgv,cond_true] at h
      have hd:∃ d,o.dst=some d:=by
       unfold bF0 at hgv
       split at hgv
       ·exact ⟨_,by assumption⟩
       ·exact ⟨_,by assumption⟩
       ·cases hgv
      obtain ⟨d,hd⟩:=hd
      rw [hd] at h
      rcases h.wr_inv with ⟨k1,_⟩ | ⟨d',k1,k2,k3⟩
      ·cases k1
      ·subst k2
       refine ⟨cs,hσ,fun _=>⟨c.plain,fun τ=>?_⟩,fun σ2 cs2 _ _ _ hn=>?_⟩
       ·simp [ae4,upd,AV.plain,setCells]
       ·simp at hn
     | false=>
      rw [hgv,cond_false] at h
      have hds:∀ d,o.dst=some d→d≠s':=fun d hd he=>by
       rw [hd] at h
       rcases h.wr_inv with ⟨k1,_⟩ | ⟨d',k1,k2,k3⟩
       ·cases k1
       ·injection k1 with k1
        rw [← k1,he,hσ] at k3
        cases k3
      refine ⟨cs,hσ,fun hm=>?_,fun σ2 cs2 k1 k2 k3 hn=>?_⟩
      ·exfalso
       rcases h.wr_inv with ⟨_,k2⟩ | ⟨d',k1,k2,k3⟩
       ·rw [k2] at hm; simp at hm
       ·rw [k2] at hm
        simp at hm
        exact hds d' k1 hm.symm
      ·have hrd:∀ x∈rd2,x≠s':=by
        unfold wr at h
        cases hd:o.dst with
        | none=>rw [hd] at h; cases h; simp
        | some d=>
         rw [hd] at h
         obtain ⟨rd3,hr3,h3⟩:=h.read_inv
         obtain ⟨_,h3⟩:=aa4.of_cond' h3
         cases h3
         subst hr3
         intro x hx
         simp at hx
         subst hx
         exact hds _ hd
       have h':=h.same (σ':=σ2) fun x hx=>k3 x (by simp [hx]) (hrd x hx)
       refine .read _ _ _ _ ?_
       rw [k3 a (List.mem_cons_self ..) has,ha]
       simp only [ax5]
       refine .read _ _ _ _ ?_
       rw [k1]
       simp only [dv5 h1,k2,hc,Option.map_some,hgv,cond_false]
       exact h'
  ·cases hs
 ·cases hs
inductive Lex (P:Program) (U:af0) (tree:Oper→ad1 U):List Oper→ac0 U→List (List Nat × List (Nat × AV U.τ) × Option (Nat × Nat))→ac0 U→Prop
 | nil (σ:ac0 U):Lex P U tree [] σ [] σ
 | cons (o:Oper) (rest:List Oper) (σ:ac0 U) (rd:List Nat) (ws:List (Nat × AV U.τ)) (D:List (List Nat × List (Nat × AV U.τ) × Option (Nat × Nat))) (σ':ac0 U) :
   aa4 P U σ (tree o) rd ws→Lex P U tree rest (ae4 σ ws) D σ'→Lex P U tree (o::rest) σ ((rd,ws,aP3 P σ o)::D) σ'
def bf2 (bits:Nat) (rd wr:List Nat) (sf:Option (Nat × Nat)) (e:Nat × List Nat × List Nat × Option (Nat × Nat)):Prop:=
 Nat.testBit bits e.1=true∨((∀ x∈wr,x ∉ e.2.2.1)∧(((∀ x∈wr,x ∉ e.2.1)∧∀ x∈rd,x ∉ e.2.2.1)∨
  ∃ s off off',sf=some (s,off)∧e.2.2.2=some (s,off')∧off≠off'∧(∀ x∈wr,x≠s→x ∉ e.2.1)∧∀ x∈rd,x≠s→x ∉ e.2.2.1))
theorem ca5:∀ (l m:List Nat),as7 l m=true↔∀ x∈l,x ∉ m
 | [],m=>by simp [as7]
 | x::l,m=>by
  simp only [as7]
  cases hm:ap6 x m with
  | true=>
   have:=(aZ8 x m).1 hm
   simp [this]
  | false=>
   have:x ∉ m:=fun h=>by rw [(aZ8 x m).2 h] at hm; cases hm
   simp [this,ca5 l m]
theorem bF2 (s:Nat):∀ (l:List Nat) (x:Nat),x∈l→x≠s→x∈bA3 s l
 | [],_,h,_=>by simp at h
 | y::l,x,h,hx=>by
  unfold bA3
  by_cases hy:y=s
  ·subst hy
   rw [Nat.beq_refl,cond_true]
   rcases List.mem_cons.1 h with h | h
   ·exact absurd h hx
   ·exact bF2 y l x h hx
  ·rw [aV2 hy,cond_false]
   rcases List.mem_cons.1 h with h | h
   ·exact h ▸ List.mem_cons_self ..
   ·exact List.mem_cons_of_mem _ (bF2 s l x h hx)
theorem di5 {bits:Nat} {rd wr:List Nat} {sf:Option (Nat × Nat)}:∀ {logs:Log},cx7 bits rd wr sf logs=true→∀ e∈logs,bf2 bits rd wr sf e
 | [],_,e,he=>by simp at he
 | (j,rd',wr',sf')::r,h,e,he=>by
  simp only [cx7] at h
  cases hb:(Nat.testBit bits j || (as7 wr wr' && as7 wr rd' && as7 rd wr') || ea1 rd wr sf rd' wr' sf') with
  | false=>rw [hb] at h; cases h
  | true=>
   rw [hb] at h
   rcases List.mem_cons.1 he with rfl | he
   ·simp only [Bool.or_eq_true,Bool.and_eq_true,ca5] at hb
    rcases hb with (hb | ⟨⟨h1,h2⟩,h3⟩) | hb
    ·exact .inl hb
    ·exact .inr ⟨h1,.inl ⟨h2,h3⟩⟩
    ·unfold ea1 at hb
     split at hb
     ·rename_i s off s' off'
      simp only [Bool.and_eq_true,ca5,Bool.not_eq_true'] at hb
      obtain ⟨⟨⟨⟨h1,h2⟩,h3⟩,h4⟩,h5⟩:=hb
      have h1:=Nat.eq_of_beq_eq_true h1
      subst h1
      refine .inr ⟨h3,.inr ⟨s,off,off',rfl,rfl,fun he=>?_,fun x hx hn=>h4 x (bF2 _ _ _ hx hn),fun x hx hn=>h5 x (bF2 _ _ _ hx hn)⟩⟩
      rw [he,Nat.beq_refl] at h2
      cases h2
     ·cases hb
   ·exact di5 h e he
theorem dP7 {Res:Type} {Φ:Tab U} (hΦ:as8 P U Φ) {all:List Oper} {draw:Bool} {before:List Nat} {k:St U→Option Res} {out:Res}:∀ (rest:List Oper) (i:Nat) (logs:Log) (st:St U),
  dY7 P Φ adv all draw before rest i logs st k=some out→
  ∃ D st',Lex P U (as6 P adv all) rest st.get D st'.get∧k st'=some out∧(draw=true→
   (∀ e∈logs,∀ (m:Nat) d,D[m]?=some d→bf2 (before.getD (i+m) 0) d.1 (d.2.1.map (·.1)) d.2.2 e)∧
   ∀ (p m:Nat) d d',p < m→D[p]?=some d→D[m]?=some d'→bf2 (before.getD (i+m) 0) d'.1 (d'.2.1.map (·.1)) d'.2.2 (i+p,d.1,d.2.1.map (·.1),d.2.2))
 | [],i,logs,st,h=>⟨[],st,.nil _,h,fun _=>⟨fun e he m d hm=>by simp at hm,fun p m d d' _ hp=>by simp at hp⟩⟩
 | o::rest,i,logs,st,h=>by
  simp only [dY7] at h
  obtain ⟨st',rd,ws,h1,h2,h3⟩:=eS6 hΦ _ _ _ _ _ h
  rw [List.append_nil,h1] at h3
  cases hc:(cond draw (cx7 (before.getD i 0) rd.reverse (ws.map (·.1)) (aP3 P st.get o) logs) true) with
  | false=>rw [hc] at h3; cases h3
  | true=>
   rw [hc] at h3
   simp only [cond_true] at h3
   obtain ⟨D,st2,g1,g2,g3⟩:=dP7 hΦ rest (i+1) _ _ h3
   rw [do2,h1] at g1
   have h2':aa4 P U st.get (as6 P adv all o) rd ws:=h2
   refine ⟨(rd,ws,aP3 P st.get o)::D,st2,.cons o rest _ rd ws D _ h2' g1,g2,fun hdraw=>?_⟩
   subst hdraw
   obtain ⟨k1,k2⟩:=g3 rfl
   simp only [cond_true] at hc k1
   have fix:∀ {bits:Nat} {wr:List Nat} {sf:Option (Nat × Nat)} {e:Nat × List Nat × List Nat × Option (Nat × Nat)},bf2 bits rd.reverse wr sf e→bf2 bits rd wr sf e:=fun h=>by
    unfold bf2 at h ⊢
    simpa only [List.mem_reverse] using h
   have fix2:∀ {bits:Nat} {rd2 wr:List Nat} {sf:Option (Nat × Nat)} {j:Nat} {wr2:List Nat} {sf2:Option (Nat × Nat)},bf2 bits rd2 wr sf (j,rd.reverse,wr2,sf2)→bf2 bits rd2 wr sf (j,rd,wr2,sf2):=fun h=>by
    unfold bf2 at h ⊢
    simpa only [List.mem_reverse] using h
   refine ⟨fun e he m d hm=>?_,fun p m d d' hpm hp hm=>?_⟩
   ·cases m with
    | zero=>
     simp at hm; subst hm
     exact fix (di5 hc e he)
    | succ m=>
     rw [show i+(m+1)=i+1+m by omega]
     exact k1 e (List.mem_cons_of_mem _ he) m d (by simpa using hm)
   ·cases m with
    | zero=>omega
    | succ m=>
     rw [show i+(m+1)=i+1+m by omega]
     cases p with
     | zero=>
      simp at hp; subst hp
      exact fix2 (k1 (i,rd.reverse,ws.map (·.1),aP3 P st.get o) (List.mem_cons_self ..) m d' (by simpa using hm))
     | succ p=>
      rw [show i+(p+1)=i+1+p by omega]
      exact k2 p m d d' (by omega) (by simpa using hp) (by simpa using hm)
theorem dP8 (hU:aD7 P U) {Q:Exit→Act→World→Prop} {all:List Oper} (hN:adv.n≤N) {σ':ac0 U} (hQ:∀ a w,ak7 P U N L0 G0 w0 σ' a w→Q .normal a w):∀ (rest:List Oper) (i:Nat) (σ:ac0 U) (D:List (List Nat × List (Nat × AV U.τ) × Option (Nat × Nat))) (a:Act) (w:World),
  (∀ j,rest[j]?=all[i+j]?)→Lex P U (as6 P adv all) rest σ D σ'→ak7 P U N L0 G0 w0 σ a w→wpOps P all.toArray Q (List.range' i rest.length) a w
 | [],i,σ,D,a,w,_,hL,hR=>by
  cases hL
  exact hQ a w hR
 | o::rest,i,σ,D,a,w,ha,hL,⟨G,r⟩=>by
  cases hL with
  | cons _ _ _ rd ws D' _ hdo hL=>
   rw [List.length_cons,List.range'_succ,wpOps_cons]
   refine en0 hU r hN (o:=o) (by have:=ha 0; simpa using this.symm) hdo (fun a' w' hR'=>?_)
   exact dP8 hU hN hQ rest (i+1) _ D' a' w' (fun j=>by have:=ha (j+1); rw [show i+(j+1)=i+1+j by omega] at this; simpa using this) hL hR'
end
end Go.VI
namespace Go.VI
open Go
abbrev Dat (U:af0):=List (List Nat × List (Nat × AV U.τ) × Option (Nat × Nat))
section
variable {P:Program} {U:af0} {N:Nat} {L0:Nat→Nat} {G0:ab7} {w0:World} {adv:Adv}
def ae9 (S:Nat→Bool):Dat U→Nat→ac0 U→ac0 U
 | [],_,σ=>σ
 | (_,ws,_)::D,i,σ=>ae9 S D (i+1) (if S i then ae4 σ ws else σ)
theorem aL7:∀ (ws:List (Nat × AV U.τ)) (σ:ac0 U) (x:Nat),x ∉ ws.map (·.1)→ae4 σ ws x=σ x
 | [],_,_,_=>rfl
 | (s,v)::ws,σ,x,h=>by
  simp only [List.map_cons,List.mem_cons,not_or] at h
  rw [ae4,aL7 ws _ x h.2]
  simp [upd,h.1]
theorem do9:∀ (ws:List (Nat × AV U.τ)) (σ σ':ac0 U) (x:Nat),x∈ws.map (·.1)→ae4 σ ws x=ae4 σ' ws x
 | [],_,_,_,h=>by simp at h
 | (s,v)::ws,σ,σ',x,h=>by
  simp only [ae4]
  by_cases hx:x∈ws.map (·.1)
  ·exact do9 ws _ _ x hx
  ·rw [aL7 ws _ x hx,aL7 ws _ x hx]
   simp only [List.map_cons,List.mem_cons] at h
   have:x=s:=h.resolve_right hx
   simp [upd,this]
theorem eJ4 (ws:List (Nat × AV U.τ)) (σ σ':ac0 U) (x:Nat) (h:σ x=σ' x):ae4 σ ws x=ae4 σ' ws x:=by
 by_cases hx:x∈ws.map (·.1)
 ·exact do9 ws σ σ' x hx
 ·rw [aL7 ws _ x hx,aL7 ws _ x hx,h]
theorem at6 {S S':Nat→Bool} {x:Nat}:∀ (D:Dat U) (i:Nat) (σ σ':ac0 U),σ x=σ' x→(∀ (m:Nat) d,D[m]?=some d→S (i+m)≠S' (i+m)→x ∉ d.2.1.map (·.1))→ae9 S D i σ x=ae9 S' D i σ' x
 | [],i,σ,σ',h,_=>h
 | (rd,ws,sf)::D,i,σ,σ',h,hd=>by
  simp only [ae9]
  refine at6 D (i+1) _ _ ?_ (fun m d hm hS=>hd (m+1) d (by simpa using hm) (by rw [show i+(m+1)=i+1+m by omega]; exact hS))
  have h0:=hd 0 (rd,ws,sf) rfl
  rw [Nat.add_zero] at h0
  cases h1:S i <;> cases h2:S' i <;> simp only [Bool.false_eq_true,if_true,if_false]
  ·exact h
  ·rw [aL7 ws _ x (h0 (by simp [h1,h2])),h]
  ·rw [aL7 ws _ x (h0 (by simp [h1,h2])),h]
  ·exact eJ4 ws _ _ x h
theorem aQ5 {S:Nat→Bool}:∀ (D:Dat U) (i:Nat) (σ:ac0 U),(∀ m,m < D.length→S (i+m)=false)→ae9 S D i σ=σ
 | [],_,_,_=>rfl
 | (rd,ws,sf)::D,i,σ,h=>by
  have h0:=h 0 (by simp)
  rw [Nat.add_zero] at h0
  simp only [ae9,h0,Bool.false_eq_true,if_false]
  exact aQ5 D (i+1) σ (fun m hm=>by have:=h (m+1) (by simp; omega); rwa [show i+(m+1)=i+1+m by omega] at this)
theorem ca6 {S:Nat→Bool} {x:Nat} (τ:ac0 U):∀ (D:Dat U) (i j:Nat) (σ:ac0 U) (d:List Nat × List (Nat × AV U.τ) × Option (Nat × Nat)),D[j]?=some d→S (i+j)=true→x∈d.2.1.map (·.1)→(∀ (m:Nat) e,j < m→D[m]?=some e→S (i+m)=true→x ∉ e.2.1.map (·.1))→ae9 S D i σ x=ae4 τ d.2.1 x
 | [],i,j,σ,d,h,_,_,_=>by simp at h
 | (rd,ws,sf)::D,i,j,σ,d,h,hS,hx,hl=>by
  simp only [ae9]
  cases j with
  | zero=>
   simp at h; subst h
   rw [Nat.add_zero] at hS
   simp only [hS,if_true]
   rw [at6 (S:=S) (S':=fun _=>false) D (i+1) (ae4 σ ws) (ae4 τ ws) (do9 ws _ _ x hx) (fun m e hm hne=>hl (m+1) e (by omega) (by simpa using hm) (by rw [show i+(m+1)=i+1+m by omega]; simpa using hne))]
   rw [aQ5 D (i+1) _ (fun _ _=>rfl)]
  | succ j=>
   refine ca6 τ D (i+1) j _ d (by simpa using h) (by rw [show i+1+j=i+(j+1) by omega]; exact hS) hx (fun m e hjm hm hSm=>hl (m+1) e (by omega) (by simpa using hm) (by rw [show i+(m+1)=i+1+m by omega]; exact hSm))
theorem ez3 {tree:Oper→ad1 U}:∀ {rest:List Oper} {σ:ac0 U} {D:Dat U} {σ':ac0 U},Lex P U tree rest σ D σ'→D.length=rest.length∧(∀ i,ae9 (fun _=>true) D i σ=σ')∧
  ∀ (j i:Nat) o,rest[j]?=some o→∃ d,D[j]?=some d∧aa4 P U (ae9 (fun m=>decide (m < i+j)) D i σ) (tree o) d.1 d.2.1∧d.2.2=aP3 P (ae9 (fun m=>decide (m < i+j)) D i σ) o:=by
 intro rest σ D σ' h
 induction h with
 | nil σ=>exact ⟨rfl,fun _=>rfl,fun j i o h=>by simp at h⟩
 | cons o rest σ rd ws D σ' hdo hL ih=>
  obtain ⟨h1,h2,h3⟩:=ih
  refine ⟨by simp [h1],fun i=>by simp only [ae9,if_true]; exact h2 (i+1),fun j i o' ho=>?_⟩
  cases j with
  | zero=>
   simp at ho; subst ho
   refine ⟨(rd,ws,aP3 P σ o),rfl,?_⟩
   have:ae9 (fun m=>decide (m < i+0)) ((rd,ws,aP3 P σ o)::D) i σ=σ:=aQ5 _ _ _ (fun m _=>by simp)
   rw [this]; exact ⟨hdo,rfl⟩
  | succ j=>
   obtain ⟨d,k1,k2⟩:=h3 j (i+1) o' (by simpa using ho)
   refine ⟨d,by simpa using k1,?_⟩
   rw [show i+(j+1)=i+1+j by omega]
   have:ae9 (fun m=>decide (m < i+1+j)) ((rd,ws,aP3 P σ o)::D) i σ=ae9 (fun m=>decide (m < i+1+j)) D (i+1) (ae4 σ ws):=by
    have hlt:i < i+1+j:=by omega
    simp only [ae9,hlt,decide_true,if_true]
   rw [this]; exact k2
def bp3 (acc:Array Nat) (s:Nat) (e:Edge):Nat:=if Region.binds .any e then s ||| 2 ^ e.on ||| acc.getD e.on 0 else s
theorem eb6 (acc:Array Nat):∀ (l:List Edge) (s p:Nat),Nat.testBit (l.foldl (bp3 acc) s) p=true→Nat.testBit s p=true∨∃ e∈l,Region.binds .any e=true∧(p=e.on∨Nat.testBit (acc.getD e.on 0) p=true)
 | [],s,p,h=>.inl h
 | e::l,s,p,h=>by
  rcases eb6 acc l _ p h with h1 | ⟨e',he',h1⟩
  ·unfold bp3 at h1
   split at h1
   ·rename_i hb
    rw [Nat.testBit_or,Nat.testBit_or,Bool.or_eq_true,Bool.or_eq_true] at h1
    rcases h1 with (h1 | h1) | h1
    ·exact .inl h1
    ·refine .inr ⟨e,List.mem_cons_self ..,hb,.inl ?_⟩
     have:=Nat.testBit_two_pow (n:=e.on) (m:=p)
     rw [this] at h1
     exact (of_decide_eq_true h1).symm
    ·exact .inr ⟨e,List.mem_cons_self ..,hb,.inr h1⟩
   ·exact .inl h1
  ·exact .inr ⟨e',List.mem_cons_of_mem _ he',h1⟩
theorem dv6:∀ (l:List Oper) (acc:Array Nat),let r:=l.foldl (fun acc o=>acc.push (o.after.toList.foldl (bp3 acc) 0)) acc
  r.size=acc.size+l.length∧(∀ i,i < acc.size→r[i]?=acc[i]?)∧
  ∀ (j:Nat) o,l[j]?=some o→∀ p,Nat.testBit (r.getD (acc.size+j) 0) p=true→∃ e∈o.after,Region.binds .any e=true∧(p=e.on∨(e.on < acc.size+j∧Nat.testBit (r.getD e.on 0) p=true))
 | [],acc=>⟨rfl,fun _ _=>rfl,fun j o h=>by simp at h⟩
 | o::l,acc=>by
  obtain ⟨h1,h2,h3⟩:=dv6 l (acc.push (o.after.toList.foldl (bp3 acc) 0))
  simp only [List.foldl_cons] at h1 h2 h3 ⊢
  rw [Array.size_push] at h1 h2 h3
  refine ⟨by rw [h1,List.length_cons]; omega,fun i hi=>?_,fun j o' hj p hp=>?_⟩
  ·rw [h2 i (by omega),Array.getElem?_push,if_neg (by omega)]
  ·cases j with
   | zero=>
    simp at hj; subst hj
    rw [Nat.add_zero] at hp ⊢
    have hr:=h2 acc.size (by omega)
    rw [Array.getElem?_push,if_pos rfl] at hr
    rw [Array.getD_eq_getD_getElem?,hr,Option.getD_some] at hp
    rcases eb6 acc _ _ p hp with h | ⟨e,he,hb,h⟩
    ·simp at h
    ·refine ⟨e,by simpa using he,hb,?_⟩
     rcases h with h | h
     ·exact .inl h
     ·right
      have hlt:e.on < acc.size:=by
       rcases Nat.lt_or_ge e.on acc.size with h' | h'
       ·exact h'
       ·rw [Array.getD_eq_getD_getElem?,Array.getElem?_eq_none h'] at h; simp at h
      refine ⟨hlt,?_⟩
      have hr:=h2 e.on (by omega)
      rw [Array.getElem?_push,if_neg (by omega)] at hr
      rw [Array.getD_eq_getD_getElem?,hr,← Array.getD_eq_getD_getElem?]
      exact h
   | succ j=>
    obtain ⟨e,he,hb,h⟩:=h3 j o' (by simpa using hj) p (by rw [show acc.size+1+j=acc.size+(j+1) by omega]; exact hp)
    exact ⟨e,he,hb,h.imp id fun ⟨k1,k2⟩=>⟨by omega,k2⟩⟩
theorem ej9 (ops:List Oper) (j:Nat) (o:Oper) (hj:ops[j]?=some o) (p:Nat) (hp:Nat.testBit ((Region.before ops.toArray).toList.getD j 0) p=true) :
  ∃ e∈o.after,Region.binds .any e=true∧(p=e.on∨(e.on < j∧Nat.testBit ((Region.before ops.toArray).toList.getD e.on 0) p=true)):=by
 have hb:Region.before ops.toArray=ops.foldl (fun acc o=>acc.push (o.after.toList.foldl (bp3 acc) 0)) #[]:=by
  unfold Region.before
  rw [← Array.foldl_toList]
  simp only [← Array.foldl_toList]
  rfl
 have hg:∀ i,(Region.before ops.toArray).toList.getD i 0=(Region.before ops.toArray).getD i 0:=fun i=>by
  rw [Array.getD_eq_getD_getElem?,List.getD_eq_getElem?_getD,Array.getElem?_toList]
 rw [hg] at hp
 obtain ⟨_,_,h3⟩:=dv6 ops #[]
 rw [hb] at hp
 obtain ⟨e,he,hbd,h⟩:=h3 j o hj p (by simpa using hp)
 refine ⟨e,he,hbd,?_⟩
 rw [hg,hb]
 simpa using h
theorem cT5:∀ {ops:List Oper} {i:Nat},bm1 ops i=true→∀ (j:Nat) o,ops[j]?=some o→∀ e∈o.after,Region.binds .any e=true→e.on < i+j
 | [],i,_,j,o,h=>by simp at h
 | o::r,i,h,j,o',ho=>by
  simp only [bm1] at h
  cases hc:(o.after.toList.all fun e=>!(Region.binds .any e) || Nat.blt e.on i) with
  | false=>rw [hc] at h; cases h
  | true=>
   rw [hc] at h
   intro e he hb
   cases j with
   | zero=>
    simp at ho; subst ho
    have:=List.all_eq_true.1 hc e (by simpa using he)
    rw [hb] at this
    simp only [Bool.not_true,Bool.false_or] at this
    have:=Nat.le_of_ble_eq_true this
    omega
   | succ j=>
    have:=cT5 h j o' (by simpa using ho) e he hb
    omega
theorem ez4 {l:List Bool} {i:Nat} (h:l[i]?=some false):(l.set i true).count false+1=l.count false:=by
 induction l generalizing i with
 | nil=>simp at h
 | cons b l ih=>
  cases i with
  | zero=>
   simp at h; subst h
   simp
  | succ i=>
   have:=ih (i:=i) (by simpa using h)
   cases b <;> simp <;> omega
theorem er3 (hU:aD7 P U) {Q:Exit→Act→World→Prop} {all:List Oper} (hN:adv.n≤N) {σ0 σ':ac0 U} {D:Dat U} (hL:Lex P U (as6 P adv all) all σ0 D σ')
  (hap:∀ (p m:Nat) d d',p < m→D[p]?=some d→D[m]?=some d'→bf2 ((Region.before all.toArray).toList.getD m 0) d'.1 (d'.2.1.map (·.1)) d'.2.2 (p,d.1,d.2.1.map (·.1),d.2.2))
  (hed:bm1 all 0=true) (hQ:∀ a w,ak7 P U N L0 G0 w0 σ' a w→Q .normal a w) :
  ∀ (fuel:Nat) (listed:Array Bool) (a:Act) (w:World),listed.size=all.length→listed.toList.count false=fuel→
   (∀ (m p:Nat),listed.getD m false=true→Nat.testBit ((Region.before all.toArray).toList.getD m 0) p=true→listed.getD p false=true)→
   ak7 P U N L0 G0 w0 (ae9 (fun m=>listed.getD m false) D 0 σ0) a w→wpAny P .any all.toArray Q fuel listed a w:=by
 obtain ⟨hlen,hall,hdo⟩:=ez3 hL
 intro fuel
 have done:∀ (listed:Array Bool) (a:Act) (w:World),listed.size=all.length→Region.ready .any all.toArray listed=[]→ak7 P U N L0 G0 w0 (ae9 (fun m=>listed.getD m false) D 0 σ0) a w→Q .normal a w:=by
  intro listed a w hsz hr hA
  have hl:∀ m,m < all.length→listed.getD m false=true:=by
   intro m
   induction m using Nat.strongRecOn with
   | _ m ih=>
    intro hm
    cases hc:listed.getD m false with
    | true=>rfl
    | false=>
     exfalso
     obtain ⟨o,ho⟩:∃ o,all[m]?=some o:=⟨_,List.getElem?_eq_getElem hm⟩
     have:m∈Region.ready .any all.toArray listed:=by
      rw [mem_ready]
      refine ⟨?_,o,by simpa using ho,fun e he hb=>?_⟩
      ·rw [Array.getD_eq_getD_getElem?] at hc ⊢
       rw [Array.getElem?_eq_getElem (by omega)] at hc ⊢
       simpa using hc
      ·have:=cT5 hed m o ho e he hb
       exact ih e.on (by omega) (by omega)
     rw [hr] at this
     cases this
  have:ae9 (fun m=>listed.getD m false) D 0 σ0=σ':=by
   rw [← hall 0]
   funext x
   exact at6 D 0 σ0 σ0 rfl (fun m d hm hne=>by
    exfalso
    have:=(List.getElem?_eq_some_iff.1 hm).1
    rw [Nat.zero_add,hl m (by omega)] at hne
    exact hne rfl)
  rw [this] at hA
  exact hQ a w hA
 have step:∀ (listed:Array Bool) (j:Nat),listed.size=all.length→j∈Region.ready .any all.toArray listed→
   (∀ (m p:Nat),listed.getD m false=true→Nat.testBit ((Region.before all.toArray).toList.getD m 0) p=true→listed.getD p false=true)→
   ∃ o d,all[j]?=some o∧D[j]?=some d∧listed[j]?=some false∧aa4 P U (ae9 (fun m=>listed.getD m false) D 0 σ0) (as6 P adv all o) d.1 d.2.1∧
    (∀ (m p:Nat),(listed.setIfInBounds j true).getD m false=true→Nat.testBit ((Region.before all.toArray).toList.getD m 0) p=true→(listed.setIfInBounds j true).getD p false=true)∧
    ae4 (ae9 (fun m=>listed.getD m false) D 0 σ0) d.2.1=ae9 (fun m=>(listed.setIfInBounds j true).getD m false) D 0 σ0:=by
  intro listed j hsz hj hdc
  obtain ⟨hun,o,ho,hedge⟩:=mem_ready.1 hj
  have ho:all[j]?=some o:=by simpa using ho
  have hjl:j < all.length:=(List.getElem?_eq_some_iff.1 ho).1
  have hlj:listed[j]?=some false:=by
   rw [Array.getD_eq_getD_getElem?,Array.getElem?_eq_getElem (by omega)] at hun
   rw [Array.getElem?_eq_getElem (by omega)]
   simpa using hun
  have hjf:listed.getD j false=false:=by rw [Array.getD_eq_getD_getElem?,hlj]; rfl
  obtain ⟨d,hd,hdoes,hsf⟩:=hdo j 0 o ho
  rw [Nat.zero_add] at hdoes hsf
  have hpre:∀ p,Nat.testBit ((Region.before all.toArray).toList.getD j 0) p=true→listed.getD p false=true:=by
   intro p hp
   obtain ⟨e,he,hb,h⟩:=ej9 all j o ho p hp
   have hl:=hedge e he hb
   rcases h with rfl | ⟨_,h⟩
   ·exact hl
   ·exact hdc e.on p hl h
  have hpost:∀ p,listed.getD p false=true→Nat.testBit ((Region.before all.toArray).toList.getD p 0) j=true→False:=fun p hp hb=>by
   have:=hdc p j hp hb
   rw [hjf] at this; cases this
  have hset:∀ m,(listed.setIfInBounds j true).getD m false=(if m=j then true else listed.getD m false):=fun m=>by
   rw [Array.getD_eq_getD_getElem?,Array.getElem?_setIfInBounds]
   by_cases hm:j=m
   ·subst hm
    rw [if_pos rfl,if_pos rfl,if_pos (by omega)]
    rfl
   ·rw [if_neg hm,if_neg (Ne.symm hm),Array.getD_eq_getD_getElem?]
  have hun:∀ (m:Nat) e,D[m]?=some e→decide (m < j)≠listed.getD m false→(∀ x∈d.2.1.map (·.1),x ∉ e.2.1.map (·.1))∧((∀ x∈d.1,x ∉ e.2.1.map (·.1))∨
    ∃ s off off',d.2.2=some (s,off)∧e.2.2=some (s,off')∧off≠off'∧∀ x∈d.1,x≠s→x ∉ e.2.1.map (·.1)):=by
   intro m e hm hne
   rcases Nat.lt_trichotomy m j with h | h | h
   ·have hmf:listed.getD m false=false:=by
     cases hc:listed.getD m false with
     | false=>rfl
     | true=>rw [hc] at hne; simp [h] at hne
    rcases hap m j e d h hm hd with hb | ⟨h0,⟨_,hb⟩ | ⟨s,off,off',h1,h2,h3,_,h5⟩⟩
    ·have:=hpre m hb; rw [hmf] at this; cases this
    ·exact ⟨h0,.inl hb⟩
    ·exact ⟨h0,.inr ⟨s,off,off',h1,h2,h3,h5⟩⟩
   ·subst h
    rw [hjf] at hne
    simp at hne
   ·have hmt:listed.getD m false=true:=by
     cases hc:listed.getD m false with
     | true=>rfl
     | false=>rw [hc] at hne; simp at hne; omega
    rcases hap j m d e h hd hm with hb | ⟨h0,⟨hb,_⟩ | ⟨s,off,off',h1,h2,h3,h4,_⟩⟩
    ·exact (hpost m hmt hb).elim
    ·exact ⟨fun x hx hxe=>h0 x hxe hx,.inl fun x hx hxe=>hb x hxe hx⟩
    ·exact ⟨fun x hx hxe=>h0 x hxe hx,.inr ⟨s,off',off,h2,h1,fun he=>h3 he.symm,fun x hx hn hxe=>h4 x hxe hn hx⟩⟩
  have hdo1:aa4 P U (ae9 (fun m=>listed.getD m false) D 0 σ0) (as6 P adv all o) d.1 d.2.1:=by
   by_cases hall1:∀ (m:Nat) e,D[m]?=some e→decide (m < j)≠listed.getD m false→∀ x∈d.1,x ∉ e.2.1.map (·.1)
   ·exact hdoes.same fun x hx=>at6 D 0 σ0 σ0 rfl fun m e hm hne=>by
     rw [Nat.zero_add] at hne
     exact hall1 m e hm (Ne.symm hne) x hx
   ·have hex:∃ m:Nat,∃ e x,D[m]?=some e∧decide (m < j)≠listed.getD m false∧x∈d.1∧x∈e.2.1.map (·.1):=by
     refine Classical.byContradiction fun hn=>hall1 fun m e hm hne x hx hxe=>hn ⟨m,e,x,hm,hne,hx,hxe⟩
    obtain ⟨m0,e0,x0,hm0,hne0,hx0,hxe0⟩:=hex
    obtain ⟨hw0,hc⟩:=hun m0 e0 hm0 hne0
    rcases hc with hc | ⟨s,off,off0,hs1,hs2,hs3,hs4⟩
    ·exact absurd hxe0 (hc x0 hx0)
    have hx0s:x0=s:=Classical.byContradiction fun hn=>hs4 x0 hx0 hn hxe0
    subst hx0s
    have hsd:x0 ∉ d.2.1.map (·.1):=fun h=>hw0 x0 h hxe0
    obtain ⟨cs,g1,g2,g3⟩:=(dP6 (hsf.symm.trans hs1) hdoes).box
    let V:ac0 U→Option (Option (CV U.τ)):=fun σ=>match σ x0 with | .box cs=>some cs[off]? | _=>none
    have hV:V (ae9 (fun m=>decide (m < j)) D 0 σ0)=V (ae9 (fun m=>listed.getD m false) D 0 σ0):=by
     have main:∀ k,V (ae9 (fun m=>decide (m < j) && decide (m < k)) D 0 σ0)=V (ae9 (fun m=>listed.getD m false && decide (m < k)) D 0 σ0):=by
      intro k
      induction k with
      | zero=>rw [aQ5 D 0 σ0 (fun m _=>by simp),aQ5 D 0 σ0 (fun m _=>by simp)]
      | succ k ih=>
       have stay:∀ S:Nat→Bool,(S k=false∨∀ e,D[k]?=some e→x0 ∉ e.2.1.map (·.1))→V (ae9 (fun m=>S m && decide (m < k+1)) D 0 σ0)=V (ae9 (fun m=>S m && decide (m < k)) D 0 σ0):=by
        intro S hS
        have:ae9 (fun m=>S m && decide (m < k+1)) D 0 σ0 x0=ae9 (fun m=>S m && decide (m < k)) D 0 σ0 x0:=at6 D 0 σ0 σ0 rfl fun m e hm hne=>by
         rw [Nat.zero_add] at hne
         by_cases hmk:m=k
         ·subst hmk
          rcases hS with hS | hS
          ·rw [hS] at hne; simp at hne
          ·exact hS e hm
         ·have:decide (m < k+1)=decide (m < k):=by
           by_cases h:m < k
           ·simp [h,Nat.lt_succ_of_lt h]
           ·have:¬m < k+1:=by omega
            simp [h,this]
          simp only [this] at hne
          exact absurd rfl hne
        show (match ae9 (fun m=>S m && decide (m < k+1)) D 0 σ0 x0 with | .box cs=>some cs[off]? | _=>none)=_
        rw [this]
       have put:∀ (S:Nat→Bool) (τ:ac0 U) e,S k=true→D[k]?=some e→x0∈e.2.1.map (·.1)→ae9 (fun m=>S m && decide (m < k+1)) D 0 σ0 x0=ae4 τ e.2.1 x0:=fun S τ e hS he hx=>
        ca6 (S:=fun m=>S m && decide (m < k+1)) τ D 0 k σ0 e he (by rw [Nat.zero_add]; simp [hS]) hx fun m e' hkm hm hSm=>by
         rw [Nat.zero_add] at hSm
         simp at hSm
         omega
       have keep:∀ (S:Nat→Bool) e,D[k]?=some e→S k=true→x0∈e.2.1.map (·.1)→decide (k < j)≠listed.getD k false→(ae9 (fun m=>S m && decide (m < k)) D 0 σ0 x0=ae9 (fun m=>decide (m < k)) D 0 σ0 x0)→V (ae9 (fun m=>S m && decide (m < k+1)) D 0 σ0)=V (ae9 (fun m=>S m && decide (m < k)) D 0 σ0):=by
        intro S e he hS hx hne hL
        obtain ⟨_,hcc⟩:=hun k e he hne
        rcases hcc with hcc | ⟨s',off',offk,t1,t2,t3,_⟩
        ·exact absurd hx (hcc x0 hx0)
        rw [hs1] at t1
        injection t1 with t1
        injection t1 with t1 t1'
        subst t1; subst t1'
        have hkl:=(List.getElem?_eq_some_iff.1 he).1
        obtain ⟨ok,hok⟩:∃ ok,all[k]?=some ok:=⟨_,List.getElem?_eq_getElem (by omega)⟩
        obtain ⟨e',he',hdk,hsk⟩:=hdo k 0 ok hok
        rw [he] at he'; injection he' with he'; subst he'
        rw [Nat.zero_add] at hdk hsk
        obtain ⟨csk,q1,q2,_⟩:=(dP6 (hsk.symm.trans t2) hdk).box
        obtain ⟨c,q2⟩:=q2 hx
        show (match ae9 (fun m=>S m && decide (m < k+1)) D 0 σ0 x0 with | .box cs=>some cs[off]? | _=>none)=(match ae9 (fun m=>S m && decide (m < k)) D 0 σ0 x0 with | .box cs=>some cs[off]? | _=>none)
        rw [put S σ0 e hS he hx,q2,hL,q1]
        simp only
        rw [List.getElem?_set_ne (fun h=>t3 h.symm)]
       cases he:D[k]? with
       | none=>rw [stay _ (.inr fun e h=>by rw [he] at h; cases h),stay _ (.inr fun e h=>by rw [he] at h; cases h)]; exact ih
       | some e=>
        by_cases hx:x0∈e.2.1.map (·.1)
        ·cases ha:decide (k < j) with
         | true=>cases hb:listed.getD k false with
          | true=>
           show (match ae9 (fun m=>decide (m < j) && decide (m < k+1)) D 0 σ0 x0 with | .box cs=>some cs[off]? | _=>none)=(match ae9 (fun m=>listed.getD m false && decide (m < k+1)) D 0 σ0 x0 with | .box cs=>some cs[off]? | _=>none)
           rw [put (fun m=>decide (m < j)) σ0 e ha he hx,put (fun m=>listed.getD m false) σ0 e hb he hx]
          | false=>
           rw [keep (fun m=>decide (m < j)) e he ha hx (by rw [ha,hb]; simp) ?_,stay (fun m=>listed.getD m false) (.inl hb)]
           ·exact ih
           ·congr 1
            congr 1
            funext m
            have:=of_decide_eq_true ha
            by_cases h:m < k
            ·have:m < j:=by omega
             simp [h,this]
            ·simp [h]
         | false=>cases hb:listed.getD k false with
          | false=>rw [stay (fun m=>decide (m < j)) (.inl ha),stay (fun m=>listed.getD m false) (.inl hb)]; exact ih
          | true=>
           rw [stay (fun m=>decide (m < j)) (.inl ha),keep (fun m=>listed.getD m false) e he hb hx (by rw [ha,hb]; simp) ?_]
           ·exact ih
           ·refine at6 D 0 σ0 σ0 rfl fun m e' hm hne=>?_
            rw [Nat.zero_add] at hne
            have hmk:m < k:=Classical.byContradiction fun h=>by simp [h] at hne
            have hml:listed.getD m false=false:=by
             cases hc:listed.getD m false with
             | false=>rfl
             | true=>simp [hmk,hc] at hne
            intro hxm
            rcases hap m k e' e hmk hm he with hb' | ⟨h0,_⟩
            ·have:=hdc k m hb hb'
             rw [hml] at this; cases this
            ·exact h0 x0 hx hxm
        ·rw [stay _ (.inr fun e' h=>by rw [he] at h; injection h with h; subst h; exact hx),stay _ (.inr fun e' h=>by rw [he] at h; injection h with h; subst h; exact hx)]; exact ih
     have h1:=main D.length
     have lim:∀ S:Nat→Bool,ae9 (fun m=>S m && decide (m < D.length)) D 0 σ0=ae9 S D 0 σ0:=fun S=>funext fun x=>at6 D 0 σ0 σ0 rfl fun m e hm hne=>by
      rw [Nat.zero_add] at hne
      have:=(List.getElem?_eq_some_iff.1 hm).1
      simp [this] at hne
     rw [lim,lim] at h1
     exact h1
    have hV2:V (ae9 (fun m=>listed.getD m false) D 0 σ0)=some cs[off]?:=by
     rw [← hV]
     show (match ae9 (fun m=>decide (m < j)) D 0 σ0 x0 with | .box cs=>some cs[off]? | _=>none)=_
     rw [g1]
    have hcs2:∃ cs2,ae9 (fun m=>listed.getD m false) D 0 σ0 x0=.box cs2∧cs2[off]?=cs[off]?:=by
     change (match ae9 (fun m=>listed.getD m false) D 0 σ0 x0 with | .box cs=>some cs[off]? | _=>none)=_ at hV2
     split at hV2
     ·rename_i cs2 h
      injection hV2 with hV2
      exact ⟨cs2,h,hV2⟩
     ·cases hV2
    obtain ⟨cs2,p1,p2⟩:=hcs2
    refine g3 _ cs2 p1 p2 (fun x hx hn=>?_) hsd
    refine at6 D 0 σ0 σ0 rfl fun m e hm hne=>?_
    rw [Nat.zero_add] at hne
    rcases (hun m e hm (Ne.symm hne)).2 with h | ⟨s',_,_,t1,_,_,h⟩
    ·exact h x hx
    ·rw [hs1] at t1
     injection t1 with t1
     injection t1 with t1 t1'
     subst t1
     exact h x hx hn
  refine ⟨o,d,ho,hd,hlj,hdo1,fun m p hm hp=>?_,?_⟩
  ·rw [hset] at hm ⊢
   by_cases hpj:p=j
   ·rw [if_pos hpj]
   ·rw [if_neg hpj]
    by_cases hmj:m=j
    ·subst hmj; exact hpre p hp
    ·rw [if_neg hmj] at hm
     exact hdc m p hm hp
  ·funext x
   by_cases hx:x∈d.2.1.map (·.1)
   ·refine (ca6 (S:=fun m=>(listed.setIfInBounds j true).getD m false) _ D 0 j σ0 d hd (by rw [Nat.zero_add,hset,if_pos rfl]) hx (fun m e hjm hm hS=>?_)).symm
    rw [Nat.zero_add,hset,if_neg (by omega)] at hS
    intro hxe
    rcases hap j m d e hjm hd hm with hb | ⟨hb,_⟩
    ·exact hpost m hS hb
    ·exact hb x hxe hx
   ·rw [aL7 _ _ x hx]
    refine at6 D 0 σ0 σ0 rfl (fun m e hm hne=>?_)
    rw [Nat.zero_add,hset] at hne
    by_cases hmj:m=j
    ·subst hmj
     rw [hd] at hm; injection hm with hm; subst hm
     exact hx
    ·rw [if_neg hmj] at hne
     exact absurd rfl hne
 induction fuel with
 | zero=>
  intro listed a w hsz hcnt hdc hA
  have hr:Region.ready .any all.toArray listed=[]:=by
   cases hr:Region.ready .any all.toArray listed with
   | nil=>rfl
   | cons j js=>
    exfalso
    obtain ⟨o,d,ho,_,hlj,_⟩:=step listed j hsz (by rw [hr]; exact List.mem_cons_self ..) hdc
    have:false∈listed.toList:=by
     refine List.mem_of_getElem? (i:=j) ?_
     rw [Array.getElem?_toList]; exact hlj
    have:=List.count_pos_iff.2 this
    omega
  exact ⟨hr,done listed a w hsz hr hA⟩
 | succ fuel ih=>
  intro listed a w hsz hcnt hdc hA
  refine ⟨fun hr=>done listed a w hsz hr hA,fun j hj=>?_⟩
  obtain ⟨o,d,ho,hd,hlj,hdoes,hdc',hst⟩:=step listed j hsz hj hdc
  obtain ⟨G,r⟩:=hA
  refine en0 hU r hN ho hdoes (fun a' w' hR'=>?_)
  refine ih _ a' w' (by simpa using hsz) ?_ hdc' (by rw [← hst]; exact hR')
  have:=ez4 (l:=listed.toList) (i:=j) (by rw [Array.getElem?_toList]; exact hlj)
  rw [Array.toList_setIfInBounds]
  omega
theorem R.drew {G:ab7} {σ:ac0 U} {a:Act} {w:World} (r:R P U N L0 G0 w0 G σ a w):R P U N L0 G0 w0 G σ a { w with drawn:=w.drawn+1 }:=by
 have x:Ext (fun _=>False) G G σ σ w { w with drawn:=w.drawn+1 }:=⟨fun _ _ h=>⟨h,rfl⟩,fun _ _ h _=>⟨h,rfl,fun _ h=>h⟩,fun _ _=>rfl,fun s cs h=>⟨cs,h⟩,fun s e y q h=>⟨e,y,h,rfl⟩⟩
 have s:aI3 G w G { w with drawn:=w.drawn+1 }:=⟨rfl,rfl,rfl,Nat.le_refl _,fun _ _ _=>rfl,fun _ _ h=>⟨h,rfl⟩,fun _ _ h=>.inl h,fun _ _ h=>.inr (by rw [h]; rfl)⟩
 exact r.go x s rfl rfl (fun _ _=>rfl) (fun b o h=>.inl h) (fun b L h=>.inl ⟨L,h⟩) (fun t cs' ht hσ=>⟨cs',hσ,rfl,fun _ _=>rfl⟩) (fun t=>.inl ⟨rfl,rfl,fun h=>h,fun _ h=>h⟩)
end
end Go.VI
namespace Go.VI
open Go
section
variable {U:af0} {Res:Type}
theorem dP9 (c:CV U.τ) (k:CV U.τ→Option Res):ea2 c k=k c:=by
 cases c <;> first | rfl | (rename_i f; cases f <;> rfl)
theorem aZ9:∀ (cs:List (CV U.τ)) (k:List (CV U.τ)→Option Res),bl9 cs k=k cs
 | [],_=>rfl
 | c::r,k=>by simp only [bl9,dP9,aZ9 r]
theorem cF0:∀ (vs:List (Bool × List (CV U.τ))) (k:List (Bool × List (CV U.τ))→Option Res),bZ3 vs k=k vs
 | [],_=>rfl
 | (true,cs)::r,k=>by simp only [bZ3,aZ9,cF0 r]
 | (false,cs)::r,k=>by simp only [bZ3,aZ9,cF0 r]
theorem ez5 (v:AV U.τ) (k:AV U.τ→Option Res):ca3 v k=k v:=by
 cases v with
 | undef=>rfl
 | one c=>simp only [ca3,dP9]
 | agg cs=>simp only [ca3,aZ9]
 | tup vs=>simp only [ca3,cF0]
 | box cs=>simp only [ca3,aZ9]
 | bblk e s t=>cases t <;> rfl
 | im cs=>simp only [ca3,aZ9]
theorem bp4:∀ (st:St U) (k:St U→Option Res),bm0 st k=k st
 | [],_=>rfl
 | (s,v)::r,k=>by simp only [bm0,ez5,bp4 r]
end
section
variable {P:Program} {U:af0} {N:Nat} {L0:Nat→Nat} {G0:ab7} {w0:World} {G:ab7} {σ σ':ac0 U} {a:Act} {w:World} {adv:Adv}
theorem R.tell (r:R P U N L0 G0 w0 G σ a w) (h:∀ t,ae0 P U G σ' w t (σ' t) (a.tmps.getD t undef)) (hb:∀ t cs',aa6≤t→σ' t=.box cs'→∃ cs,σ t=.box cs∧cs'.length=cs.length):R P U N L0 G0 w0 G σ' a w where
 defers:=r.defers
 env:=r.env
 size:=r.size
 small:=r.small
 slots:=h
 imm:=r.imm
 who:=r.who
 step:=r.step
 loc:=r.loc
 lens t cs' ht hσ:=by
  obtain ⟨cs,h1,h2⟩:=hb t cs' ht hσ
  rw [h2]; exact r.lens t cs ht h1
 rest t cs' ht hσ o ho:=by
  obtain ⟨cs,h1,h2⟩:=hb t cs' ht hσ
  exact r.rest t cs ht h1 o (by rw [← h2]; exact ho)
theorem R.weaken (r:R P U N L0 G0 w0 G σ a w) (h:∀ s,(σ' s=σ s∧∀ u,al2 (σ s)=some u→σ' u=σ u)∨σ' s=.undef∨σ' s=.one .any):R P U N L0 G0 w0 G σ' a w:=by
 refine r.tell (fun t=>?_) (fun t cs' ht hσ=>?_)
 ·rcases h t with ⟨h1,h2⟩ | h1 | h1
  ·rw [h1]
   have hs:=r.slots t
   cases hv:σ t with
   | one c=>
    rw [hv] at hs h2
    cases c with
    | ref s off=>
     obtain ⟨⟨cs,k1⟩,k2⟩:=hs
     exact ⟨⟨cs,by rw [h2 s rfl]; exact k1⟩,k2⟩
    | sref s=>
     obtain ⟨e,y,q,cap,k1,k2⟩:=hs
     exact ⟨e,y,q,cap,by rw [h2 s rfl]; exact k1,k2⟩
    | eref s i=>
     obtain ⟨⟨e,y,q,k1⟩,k2⟩:=hs
     exact ⟨⟨e,y,q,by rw [h2 s rfl]; exact k1⟩,k2⟩
    | prow s os=>
     obtain ⟨⟨cs,k1⟩,k2⟩:=hs
     exact ⟨⟨cs,by rw [h2 s rfl]; exact k1⟩,k2⟩
    | pcell s q=>
     obtain ⟨⟨cs,k1⟩,k2⟩:=hs
     exact ⟨⟨cs,by rw [h2 s rfl]; exact k1⟩,k2⟩
    | aref s q m i=>
     obtain ⟨⟨cs,k1⟩,k2⟩:=hs
     exact ⟨⟨cs,by rw [h2 s rfl]; exact k1⟩,k2⟩
    | _=>exact hs
   | _=>rw [hv] at hs; exact hs
  ·rw [h1]; trivial
  ·rw [h1]; trivial
 ·rcases h t with ⟨h1,_⟩ | h1 | h1
  ·exact ⟨cs',by rw [← h1]; exact hσ,rfl⟩
  ·rw [h1] at hσ; cases hσ
  ·rw [h1] at hσ; cases hσ
theorem aF0 (s:Nat) (v:AV U.τ) (r:St U) (t:Nat):St.get ((s,v)::r) t=if s=t then v else St.get r t:=by
 simp only [St.get]
 by_cases h:s=t
 ·subst h; simp
 ·rw [aV2 h]; simp [h]
theorem cF1 (t:Nat):∀ (st:St U) (s:Nat),(forget t st).get s=if s=t then .undef else if al2 (st.get s)=some t then .one .any else st.get s
 | [],s=>by
  have h1:(forget t ([]:St U)).get s=.undef:=rfl
  have h2:St.get ([]:St U) s=.undef:=rfl
  rw [h1,h2]
  simp [al2]
 | (q,v)::r,s=>by
  have ih:=cF1 t r s
  simp only [forget]
  by_cases hq:q=t
  ·subst hq
   rw [Nat.beq_refl,cond_true,ih,aF0]
   by_cases hs:s=q
   ·simp [hs]
   ·simp [hs,Ne.symm hs]
  ·rw [aV2 hq,cond_false]
   have tail:∀ v':AV U.τ,(if q=s then v' else (forget t r).get s)=if s=t then .undef else if al2 (if q=s then v else St.get r s)=some t then (if q=s then v' else .one .any) else (if q=s then v' else St.get r s):=by
    intro v'
    by_cases hqs:q=s
    ·subst hqs
     simp [hq]
    ·simp only [if_neg hqs,ih]
   rw [aF0]
   cases hr:al2 v with
   | none=>
    simp only [cond_false]
    rw [aF0,tail v]
    by_cases hqs:q=s
    ·simp [hqs,hr]
    ·simp [hqs]
   | some u=>
    simp only
    by_cases hu:u=t
    ·subst hu
     rw [Nat.beq_refl,cond_true,aF0,tail]
     by_cases hqs:q=s
     ·simp [hqs,hr]
     ·simp [hqs]
    ·rw [aV2 hu,cond_false,aF0,tail v]
     by_cases hqs:q=s
     ·simp [hqs,hr,hu]
     ·simp [hqs]
theorem ak7.forget {st:St U} (t:Nat) (h:ak7 P U N L0 G0 w0 st.get a w):ak7 P U N L0 G0 w0 (Go.VI.forget t st).get a w:=by
 obtain ⟨G,r⟩:=h
 refine ⟨G,r.weaken fun s=>?_⟩
 rw [cF1]
 by_cases hs:s=t
 ·right; left; simp [hs]
 ·simp only [hs,if_false]
  by_cases hr:al2 (st.get s)=some t
  ·right; right; simp [hr]
  ·left
   refine ⟨by simp [hr],fun u hu=>?_⟩
   rw [cF1]
   have hut:u≠t:=fun he=>hr (by rw [hu,he])
   have hown:al2 (st.get u)=none:=by
    have hsl:=r.slots s
    cases hv:st.get s with
    | one c=>
     rw [hv] at hsl hu
     cases c with
     | ref s' off=>simp only [al2,Option.some.injEq] at hu; subst hu; obtain ⟨⟨cs,k1⟩,_⟩:=hsl; rw [k1]; rfl
     | sref s'=>simp only [al2,Option.some.injEq] at hu; subst hu; obtain ⟨e,y,q,cap,k1,_⟩:=hsl; rw [k1]; rfl
     | eref s' i=>simp only [al2,Option.some.injEq] at hu; subst hu; obtain ⟨⟨e,y,q,k1⟩,_⟩:=hsl; rw [k1]; rfl
     | prow s' os=>simp only [al2,Option.some.injEq] at hu; subst hu; obtain ⟨⟨cs,k1⟩,_⟩:=hsl; rw [k1]; rfl
     | pcell s' q=>simp only [al2,Option.some.injEq] at hu; subst hu; obtain ⟨⟨cs,k1⟩,_⟩:=hsl; rw [k1]; rfl
     | aref s' q m i=>simp only [al2,Option.some.injEq] at hu; subst hu; obtain ⟨⟨cs,k1⟩,_⟩:=hsl; rw [k1]; rfl
     | _=>simp [al2] at hu
    | _=>rw [hv] at hu; simp [al2] at hu
   simp [hut,hown]
theorem ak7.freshen:∀ (ops:List Oper) {st:St U},ak7 P U N L0 G0 w0 st.get a w→ak7 P U N L0 G0 w0 (Go.VI.freshen ops st).get a w
 | [],st,h=>h
 | o::r,st,h=>by
  show ak7 P U N L0 G0 w0 (Go.VI.freshen r (match o.dst with | some d=>cond (st.get d).owner (Go.VI.forget d st) st | none=>st)).get a w
  refine ak7.freshen r ?_
  cases o.dst with
  | none=>exact h
  | some d=>
   show ak7 P U N L0 G0 w0 (cond (st.get d).owner (Go.VI.forget d st) st).get a w
   cases (st.get d).owner with
   | true=>exact h.forget d
   | false=>exact h
theorem di6 (keep:List Nat):∀ (st:St U) (s:Nat),(bZ2 keep st).get s=if s∈keep∨aa6≤s then cT2 keep (st.get s) else .undef
 | [],s=>by
  have h1:(bZ2 keep ([]:St U)).get s=.undef:=rfl
  have h2:St.get ([]:St U) s=.undef:=rfl
  rw [h1,h2]; simp [cT2,al2]
 | (q,v)::r,s=>by
  have ih:=di6 keep r s
  simp only [bZ2]
  have hk:(ap6 q keep || Nat.ble aa6 q)=true↔(q∈keep∨aa6≤q):=by
   rw [Bool.or_eq_true,aZ8,Nat.ble_eq]
  cases hb:(ap6 q keep || Nat.ble aa6 q) with
  | true=>
   have:=hk.1 hb
   simp only [cond_true]
   rw [aF0,aF0,ih]
   by_cases hqs:q=s
   ·subst hqs; simp [this]
   ·simp [hqs]
  | false=>
   have:¬(q∈keep∨aa6≤q):=fun h=>by rw [hk.2 h] at hb; cases hb
   simp only [cond_false]
   rw [ih,aF0]
   by_cases hqs:q=s
   ·subst hqs; simp [this]
   ·simp [hqs]
theorem R.target (r:R P U N L0 G0 w0 G σ a w) {s u:Nat} (h:al2 (σ s)=some u):al2 (σ u)=none:=by
 have hsl:=r.slots s
 cases hv:σ s with
 | one c=>
  rw [hv] at hsl h
  cases c with
  | ref s' off=>simp only [al2,Option.some.injEq] at h; subst h; obtain ⟨⟨cs,k1⟩,_⟩:=hsl; rw [k1]; rfl
  | sref s'=>simp only [al2,Option.some.injEq] at h; subst h; obtain ⟨e,y,q,cap,k1,_⟩:=hsl; rw [k1]; rfl
  | eref s' i=>simp only [al2,Option.some.injEq] at h; subst h; obtain ⟨⟨e,y,q,k1⟩,_⟩:=hsl; rw [k1]; rfl
  | prow s' os=>simp only [al2,Option.some.injEq] at h; subst h; obtain ⟨⟨cs,k1⟩,_⟩:=hsl; rw [k1]; rfl
  | pcell s' q=>simp only [al2,Option.some.injEq] at h; subst h; obtain ⟨⟨cs,k1⟩,_⟩:=hsl; rw [k1]; rfl
  | aref s' q m i=>simp only [al2,Option.some.injEq] at h; subst h; obtain ⟨⟨cs,k1⟩,_⟩:=hsl; rw [k1]; rfl
  | _=>simp [al2] at h
 | _=>rw [hv] at h; simp [al2] at h
theorem ak7.settle {st:St U} (keep:List Nat) (h:ak7 P U N L0 G0 w0 st.get a w):ak7 P U N L0 G0 w0 (Go.VI.settle keep st).get a w:=by
 obtain ⟨G,r⟩:=h
 obtain ⟨K,key⟩:∃ K:List Nat,∀ s,(Go.VI.settle keep st).get s=if s∈K∨aa6≤s then cT2 K (st.get s) else .undef:=⟨_,fun s=>di6 _ st s⟩
 refine ⟨G,r.weaken fun s=>?_⟩
 by_cases hs:s∈K∨aa6≤s
 ·cases hr:al2 (st.get s) with
  | none=>
   left
   rw [key,if_pos hs]
   unfold cT2
   rw [hr]
   exact ⟨rfl,fun u hu=>by cases hu⟩
  | some u=>
   cases hb:(ap6 u K || Nat.ble aa6 u) with
   | false=>
    right; right
    rw [key,if_pos hs]
    unfold cT2
    rw [hr]
    simp only [hb,cond_false]
   | true=>
    left
    rw [key s,if_pos hs]
    refine ⟨by unfold cT2; rw [hr]; simp only [hb,cond_true],fun u' hu'=>?_⟩
    injection hu' with hu'; subst hu'
    have hu:u∈K∨aa6≤u:=by rw [Bool.or_eq_true,aZ8,Nat.ble_eq] at hb; exact hb
    rw [key u,if_pos hu]
    unfold cT2
    rw [r.target hr]
 ·right; left; rw [key,if_neg hs]
theorem PC.loosen {I:Nat→Nat→Prop} {c:CV U.τ} {u:Value} (h:PC P U w I c u) (who:Nat→Option (Nat × Option Nat)) (L:Nat × Option Nat):af3 P U w I who L c.loosen u:=by
 have main:∀ (e:Nat) (css:List (List (CV U.τ))) (c':CV U.τ),cont c=some (e,css,.tight)→cont c'=some (e,css,.app)→af3 P U w I who L c' u:=by
  intro e css c' hc hc'
  obtain ⟨_,h2,h3⟩:=h.slice hc
  refine .inr ⟨e,css,hc',h2,?_⟩
  rcases h3 with h3 | ⟨h3,_⟩ | ⟨b,off,cap,h4,h5,h6,h7⟩
  ·exact .inl h3
  ·cases h3
  ·exact .inr ⟨b,off,cap,h4,h5,h7,.inl (h6 rfl)⟩
 cases c with
 | sl e xs f=>
  cases f with
  | tight=>exact main e _ _ rfl rfl
  | _=>exact .inl h
 | bs e xs f=>
  cases f with
  | tight=>exact main e _ _ rfl rfl
  | _=>exact .inl h
 | _=>exact .inl h
theorem af3.loosen {I:Nat→Nat→Prop} {who:Nat→Option (Nat × Option Nat)} {L:Nat × Option Nat} {c:CV U.τ} {u:Value} (h:af3 P U w I who L c u):af3 P U w I who L c.loosen u:=by
 rcases h with h | h
 ·exact h.loosen who L
 ·obtain ⟨e,css,h1,h2⟩:=h
  have:c.loosen=c:=by
   cases c with
   | sl e xs f=>cases f <;> first | rfl | (simp [cont] at h1)
   | bs e xs f=>cases f <;> first | rfl | (simp [cont] at h1)
   | _=>rfl
  rw [this]
  exact .inr ⟨e,css,h1,h2⟩
def en1:AV U.τ→AV U.τ
 | .one c=>.one c.loosen
 | .box cs=>.box (cs.map CV.loosen)
 | v=>v
theorem ax7:∀ (st:St U) (s:Nat),(loosen st).get s=en1 (st.get s)
 | [],_=>rfl
 | (q,v)::r,s=>by
  have ih:=ax7 r s
  have hl:loosen ((q,v)::r)=(q,en1 v)::loosen r:=by cases v <;> rfl
  rw [hl,aF0,aF0,ih]
  split <;> rfl
theorem ak7.loosen {st:St U} (h:ak7 P U N L0 G0 w0 st.get a w):ak7 P U N L0 G0 w0 (Go.VI.loosen st).get a w:=by
 obtain ⟨G,r⟩:=h
 refine ⟨G,r.tell (fun t=>?_) (fun t cs' ht hσ=>?_)⟩
 ·rw [ax7]
  have hs:=r.slots t
  cases hv:st.get t with
  | one c=>
   rw [hv] at hs
   cases c with
   | any=>trivial
   | ref s off=>obtain ⟨⟨cs,k1⟩,k2⟩:=hs; exact ⟨⟨cs.map CV.loosen,by rw [ax7,k1]; rfl⟩,k2⟩
   | sref s=>obtain ⟨e,y,q,cap,k1,k2⟩:=hs; exact ⟨e,y,q,cap,by rw [ax7,k1]; rfl,k2⟩
   | eref s i=>obtain ⟨⟨e,y,q,k1⟩,k2⟩:=hs; exact ⟨⟨e,y,q,by rw [ax7,k1]; rfl⟩,k2⟩
   | prow s os=>obtain ⟨⟨cs,k1⟩,k2⟩:=hs; exact ⟨⟨cs.map CV.loosen,by rw [ax7,k1]; rfl⟩,k2⟩
   | pcell s q=>obtain ⟨⟨cs,k1⟩,k2⟩:=hs; exact ⟨⟨cs.map CV.loosen,by rw [ax7,k1]; rfl⟩,k2⟩
   | aref s q m i=>obtain ⟨⟨cs,k1⟩,k2⟩:=hs; exact ⟨⟨cs.map CV.loosen,by rw [ax7,k1]; rfl⟩,k2⟩
   | bool b=>exact hs
   | int k n=>exact hs
   | str s=>exact hs
   | fn f=>exact hs
   | sl e xs f=>
    have:=af3.loosen (c:=.sl e xs f) hs
    cases f <;> exact this
   | bs e xs f=>
    have:=af3.loosen (c:=.bs e xs f) hs
    cases f <;> exact this
  | box cs=>
   rw [hv] at hs
   obtain ⟨h1,h2⟩:=hs
   obtain ⟨c,T,fz,k1,k2,k3,k4⟩:=h2.row
   refine ⟨h1,h2.hwho,h2.himm,c,T,fz,k1,by rw [List.length_map]; exact k2,k3,fun i x hi=>?_⟩
   rw [List.getElem?_map] at hi
   cases hx:cs[i]? with
   | none=>rw [hx] at hi; cases hi
   | some y=>
    rw [hx] at hi; injection hi with hi; subst hi
    obtain ⟨u,hu,hk⟩:=k4 i y hx
    exact ⟨u,hu,hk.loosen⟩
  | _=>rw [hv] at hs; exact hs
 ·rw [ax7] at hσ
  cases hv:st.get t with
  | box cs=>
   rw [hv] at hσ
   injection hσ with hσ
   exact ⟨cs,rfl,by rw [← hσ,List.length_map]⟩
  | _=>rw [hv] at hσ; cases hσ
end
end Go.VI
namespace Go.VI
open Go
section
variable {P:Program} {U:af0} {adv:Adv} {Res:Type} {Φ:Tab U}
def dG3 (kn:St U→Option Res) (ke:Nat→St U→Option Res) (kr:St U→Option Res):Exit→St U→Option Res
 | .normal=>kn
 | .exit id=>ke id
 | .ret=>kr
 | _=>fun _=>none
def Leaves (P:Program) (U:af0) (adv:Adv) (c:Code) (st:St U) (e:Exit) (st':St U):Prop:=
 ∀ {N:Nat} {L0:Nat→Nat} {G0:ab7} {w0:World},adv.n≤N→∀ a w,ak7 P U N L0 G0 w0 st.get a w→c.wp P (fun e' a' w'=>e'=e∧ak7 P U N L0 G0 w0 st'.get a' w') a w
theorem dU0 (hU:aD7 P U) (hΦ:as8 P U Φ) (hm:P.follows .mixedOrders=true) {id:Nat} {ops:Array Oper} {draw:Bool} {st:St U} {k:St U→Option Res} {out:Res} (h:do0 P Φ adv id ops.toList draw st k=some out) :
  ∃ st',k st'=some out∧Leaves P U adv (.region id ops draw) st .normal st':=by
 unfold do0 at h
 rw [ca4] at h
 cases hc:(draw && !(bm1 ops.toList 0)) with
 | true=>rw [hc] at h; cases h
 | false=>
  rw [hc,cond_false] at h
  obtain ⟨D,st2,h1,h2,h3⟩:=dP7 hΦ _ _ _ _ h
  rw [bp4] at h2
  refine ⟨_,h2,fun {N L0 G0 w0} hN a w hA=>?_⟩
  have hA':=hA.freshen ops.toList
  have hQ:∀ a w,ak7 P U N L0 G0 w0 st2.get a w→(fun (e':Exit) a' w'=>e'=Exit.normal∧ak7 P U N L0 G0 w0 (settle (adv.keep.getD id []) st2).get a' w') .normal a w:=fun a w h=>⟨rfl,h.settle _⟩
  cases draw with
  | false=>
   have:=dP8 hU (Q:=fun (e':Exit) a' w'=>e'=Exit.normal∧ak7 P U N L0 G0 w0 (settle (adv.keep.getD id []) st2).get a' w') hN hQ ops.toList 0 _ D a w (fun j=>by simp) h1 hA'
   refine wp_region ?_
   rw [List.range_eq_range']
   simpa using this
  | true=>
   obtain ⟨_,hap⟩:=h3 rfl
   have hed:bm1 ops.toList 0=true:=by cases he:bm1 ops.toList 0 <;> rw [he] at hc <;> first | rfl | cases hc
   refine wp_region_any hm ?_
   have hB:(Region.before ops.toList.toArray)=Region.before ops:=by simp
   have:=er3 hU (Q:=fun (e':Exit) a' w'=>e'=Exit.normal∧ak7 P U N L0 G0 w0 (settle (adv.keep.getD id []) st2).get a' w') hN h1 (fun p m d d' hpm hp hm=>by
    have:=hap p m d d' hpm hp hm
    simpa using this) hed hQ ops.size (Array.replicate ops.size false) a { w with drawn:=w.drawn+1 } (by simp) (by simp) (fun m p hmt=>by
     rw [Array.getD_eq_getD_getElem?,Array.getElem?_replicate] at hmt
     split at hmt <;> simp at hmt) (by
     have:ae9 (fun m=>(Array.replicate ops.size false).getD m false) D 0 (freshen ops.toList st).get=(freshen ops.toList st).get:=aQ5 D 0 _ (fun m _=>by
      rw [Array.getD_eq_getD_getElem?,Array.getElem?_replicate]
      split <;> rfl)
     rw [this]
     obtain ⟨G,r⟩:=hA'
     exact ⟨G,r.drew⟩)
   simpa using this
def bp5 (P:Program) (c:Code) (Q:Exit→Act→World→Prop) (a:Act) (w:World):Prop:=
 ∀ (b:Frame) (k:List Item) (cs:List Frame),∃ e a' w',Q e a' w'∧Arrives P (lone (b.at a (.code c::.inLoop c::k)) cs w) b k cs e a' w'
theorem bp5.loop {c:Code} {Q:Exit→Act→World→Prop} {a:Act} {w:World} (h:bp5 P c Q a w):(Code.loop c).wp P Q a w:=
 fun b k cs=>let ⟨e,a',w',hq,harr⟩:=h b k cs; ⟨e,a',w',hq,.of_steps (.one step_loop) harr⟩
theorem bp5.round {c:Code} {Q:Exit→Act→World→Prop} {a:Act} {w:World} (h:c.wp P (Exit.then (bp5 P c Q) Q) a w):bp5 P c Q a w:=by
 intro b k cs
 obtain ⟨e,a₁,w₁,hq,harr⟩:=h b (.inLoop c::k) cs
 cases e with
 | normal=>
  obtain ⟨e₂,a₂,w₂,hq₂,harr₂⟩:=hq b k cs
  exact ⟨e₂,a₂,w₂,hq₂,.of_steps (Steps.trans harr (.one step_inLoop)) harr₂⟩
 | exit id=>exact ⟨_,a₁,w₁,hq,.pass (x:=.inLoop c) rfl (fun _ _=>.inl (by simp)) harr⟩
 | goto l=>exact ⟨_,a₁,w₁,hq,.pass (x:=.inLoop c) rfl (fun _ _=>.inl (by simp)) harr⟩
 | ret=>exact ⟨_,a₁,w₁,hq,.pass (x:=.inLoop c) rfl (fun _ _=>.inl (by simp)) harr⟩
 | panic ch=>exact ⟨_,a₁,w₁,hq,.pass (x:=.inLoop c) rfl (fun _ _=>.inl (by simp)) harr⟩
 | outgrown=>exact ⟨_,a₁,w₁,hq,.pass (x:=.inLoop c) rfl (fun _ _=>.inl (by simp)) harr⟩
theorem ez6 (hU:aD7 P U) (hΦ:as8 P U Φ) (hm:P.follows .mixedOrders=true) {n:Nat}:∀ (c:Code) (kn:St U→Option Res) (ke:Nat→St U→Option Res) (kr:St U→Option Res) (st:St U) (out:Res),
  ev P Φ adv n c kn ke kr st=some out→∃ e st',dG3 kn ke kr e st'=some out∧Leaves P U adv c st e st':=by
 intro c
 induction c with
 | skip=>intro kn ke kr st out h; exact ⟨.normal,st,h,fun hN a w hA=>wp_skip ⟨rfl,hA⟩⟩
 | region id ops draw=>
  intro kn ke kr st out h
  obtain ⟨st',h1,h2⟩:=dU0 hU hΦ hm h
  exact ⟨.normal,st',h1,h2⟩
 | seq x y ihx ihy=>
  intro kn ke kr st out h
  simp only [ev] at h
  obtain ⟨e,st1,h1,h2⟩:=ihx _ _ _ _ _ h
  have stop:e≠.normal→dG3 kn ke kr e st1=some out→∃ e st',dG3 kn ke kr e st'=some out∧Leaves P U adv (.seq x y) st e st':=fun hne hk=>
   ⟨e,st1,hk,fun hN a w hA=>wp_seq (wp_mono (h2 hN a w hA) fun e' a' w' ⟨he,hA'⟩=>by
    subst he
    cases e' <;> first | exact absurd rfl hne | exact ⟨rfl,hA'⟩)⟩
  cases e with
  | normal=>
   obtain ⟨e2,st2,h3,h4⟩:=ihy _ _ _ _ _ h1
   exact ⟨e2,st2,h3,fun hN a w hA=>wp_seq (wp_mono (h2 hN a w hA) fun e' a' w' ⟨he,hA'⟩=>by
    subst he
    exact h4 hN a' w' hA')⟩
  | exit id=>exact stop (by simp) h1
  | ret=>exact stop (by simp) h1
  | _=>cases h1
 | cond c x y ihx ihy=>
  intro kn ke kr st out h
  simp only [ev] at h
  cases c with
  | tmp t=>
   simp only at h
   cases hs:st.get t with
   | one v=>
    cases v with
    | bool b=>
     rw [hs] at h
     simp only at h
     have hkn:(dY8 adv t b st).get=st.get:=by
      unfold dY8
      cases ap6 999999 adv.mutb with
      | false=>rfl
      | true=>
       rw [cond_true,dG1]; funext q
       by_cases hq:q=t
       ·subst hq; simp [upd,hs]
       ·simp [upd,hq]
     have hval:∀ {N:Nat} {L0:Nat→Nat} {G0:ab7} {w0:World} {a:Act} {w:World},ak7 P U N L0 G0 w0 st.get a w→a.eval (.tmp t)=.bool b:=by
      rintro N L0 G0 w0 a w ⟨G,r⟩
      have h1:=r.slots t
      rw [hs] at h1
      exact PC.of_bool (by
       rcases h1 with h1 | ⟨_,_,h1,_⟩
       ·exact h1
       ·simp [cont] at h1)
     cases b with
     | true=>
      rw [if_pos rfl] at h
      obtain ⟨e,st',h1,h2⟩:=ihx _ _ _ _ _ h
      exact ⟨e,st',h1,fun hN a w hA=>wp_cond_true (hval hA) (h2 hN a w (by rw [hkn]; exact hA))⟩
     | false=>
      rw [if_neg (by simp)] at h
      obtain ⟨e,st',h1,h2⟩:=ihy _ _ _ _ _ h
      exact ⟨e,st',h1,fun hN a w hA=>wp_cond_false (hval hA) (h2 hN a w (by rw [hkn]; exact hA))⟩
    | _=>rw [hs] at h; cases h
   | _=>rw [hs] at h; cases h
  | const v=>
   cases v with
   | bool b=>
    cases b with
    | true=>
     obtain ⟨e,st',h1,h2⟩:=ihx _ _ _ _ _ h
     exact ⟨e,st',h1,fun hN a w hA=>wp_cond_true rfl (h2 hN a w hA)⟩
    | false=>
     obtain ⟨e,st',h1,h2⟩:=ihy _ _ _ _ _ h
     exact ⟨e,st',h1,fun hN a w hA=>wp_cond_false rfl (h2 hN a w hA)⟩
   | _=>cases h
  | _=>cases h
 | block id c ih=>
  intro kn ke kr st out h
  simp only [ev] at h
  obtain ⟨e,st',h1,h2⟩:=ih _ _ _ _ _ h
  cases e with
  | normal=>exact ⟨.normal,st',h1,fun hN a w hA=>wp_block (wp_mono (h2 hN a w hA) fun e' a' w' ⟨he,hA'⟩=>by subst he; exact ⟨rfl,hA'⟩)⟩
  | ret=>exact ⟨.ret,st',h1,fun hN a w hA=>wp_block (wp_mono (h2 hN a w hA) fun e' a' w' ⟨he,hA'⟩=>by subst he; exact ⟨rfl,hA'⟩)⟩
  | exit id'=>
   simp only [dG3] at h1
   by_cases hid:id'=id
   ·subst hid
    rw [Nat.beq_refl,cond_true] at h1
    exact ⟨.normal,st',h1,fun hN a w hA=>wp_block (wp_mono (h2 hN a w hA) fun e' a' w' ⟨he,hA'⟩=>by subst he; simp only [Exit.inBlock,if_true]; exact ⟨trivial,hA'⟩)⟩
   ·rw [aV2 hid,cond_false] at h1
    exact ⟨.exit id',st',h1,fun hN a w hA=>wp_block (wp_mono (h2 hN a w hA) fun e' a' w' ⟨he,hA'⟩=>by subst he; simp only [Exit.inBlock,hid,if_false]; exact ⟨trivial,hA'⟩)⟩
  | _=>cases h1
 | loop c ih=>
  intro kn ke kr st out h
  simp only [ev] at h
  rw [bp4] at h
  have key:∀ (m:Nat) (st:St U),de3 m (fun k=>ev P Φ adv n c k ke kr) st=some out→∃ e st',e≠.normal∧dG3 kn ke kr e st'=some out∧
    ∀ {N:Nat} {L0:Nat→Nat} {G0:ab7} {w0:World},adv.n≤N→∀ a w,ak7 P U N L0 G0 w0 st.get a w→bp5 P c (fun e' a' w'=>e'=e∧ak7 P U N L0 G0 w0 st'.get a' w') a w:=by
   intro m
   induction m with
   | zero=>intro st h; cases h
   | succ m ihm=>
    intro st h
    simp only [de3] at h
    obtain ⟨e,st1,h1,h2⟩:=ih _ _ _ _ _ h
    cases e with
    | normal=>
     simp only [dG3,bp4] at h1
     obtain ⟨e2,st2,h3,h4,h5⟩:=ihm _ h1
     exact ⟨e2,st2,h3,h4,fun hN a w hA=>bp5.round (wp_mono (h2 hN a w hA) fun e' a' w' ⟨he,hA'⟩=>by
      subst he
      exact h5 hN a' w' hA'.loosen)⟩
    | exit id=>exact ⟨.exit id,st1,by simp,h1,fun hN a w hA=>bp5.round (wp_mono (h2 hN a w hA) fun e' a' w' ⟨he,hA'⟩=>by subst he; exact ⟨rfl,hA'⟩)⟩
    | ret=>exact ⟨.ret,st1,by simp,h1,fun hN a w hA=>bp5.round (wp_mono (h2 hN a w hA) fun e' a' w' ⟨he,hA'⟩=>by subst he; exact ⟨rfl,hA'⟩)⟩
    | _=>cases h1
  obtain ⟨e,st',_,h2,h3⟩:=key n _ h
  exact ⟨e,st',h2,fun hN a w hA=>(h3 hN a w hA.loosen).loop⟩
 | exit id=>intro kn ke kr st out h; exact ⟨.exit id,st,h,fun hN a w hA=>wp_exit ⟨rfl,hA⟩⟩
 | ret=>intro kn ke kr st out h; exact ⟨.ret,st,h,fun hN a w hA=>wp_ret ⟨rfl,hA⟩⟩
 | label l=>intro kn ke kr st out h; exact ⟨.normal,st,h,fun hN a w hA=>wp_label ⟨rfl,hA⟩⟩
 | _=>intro kn ke kr st out h; cases h
end
end Go.VI
namespace Go.VI
open Go
section
variable {P:Program} {U:af0} {N:Nat} {L0:Nat→Nat} {G0:ab7} {w0:World} {G:ab7} {σ:ac0 U} {a:Act} {w:World} {adv:Adv} {Res:Type} {Φ:Tab U}
theorem dG4 {I:Nat→Nat→Prop} {who:Nat→Option (Nat × Option Nat)} {loc:Nat→Nat × Nat} {as:List (Arg U.τ)} {vs:List Value} {j:Nat} (h:aj7 P U w I who loc as vs j):as.length=vs.length:=by
 induction h with
 | nil j=>rfl
 | val a cs u as us j _ _ ih=>simp [ih]
 | ptr cs as us j _ _ ih=>simp [ih]
theorem ek0 {as:List (Arg U.τ)} {vs:List Value} {j:Nat} (h:aj7 P U w G.I G.who G.loc as vs j):∀ (i:Nat) (σ:ac0 U),i+as.length≤aa6→
  (∀ t,(t < i∨i+as.length≤t)→(t < aa6+j∨aa6+j+(ah5 as).length≤t)→ae4 σ (aj6 as i j) t=σ t)∧
  (∀ (q:Nat) cs,(ah5 as)[q]?=some cs→ae4 σ (aj6 as i j) (aa6+(j+q))=.box cs∧au1 P U w G.I G.who (aa6+(j+q)) (G.loc (aa6+(j+q))) cs)∧
  (∀ σ':ac0 U,(∀ (q:Nat) cs,(ah5 as)[q]?=some cs→σ' (aa6+(j+q))=.box cs)→∀ (m:Nat) u,vs[m]?=some u→ae0 P U G σ' w (i+m) (ae4 σ (aj6 as i j) (i+m)) u)∧
  (∀ m,m < as.length→(ae4 σ (aj6 as i j) (i+m)).owner=false):=by
 induction h with
 | nil j=>
  intro i σ hi
  exact ⟨fun _ _ _=>rfl,fun q cs hq=>by simp [ah5] at hq,fun _ _ m u hm=>by simp at hm,fun m hm=>by simp at hm⟩
 | val ag cs u as us j hv hr ih=>
  intro i σ hi
  simp only [List.length_cons] at hi
  obtain ⟨v,hw,hown,hok⟩:∃ v:AV U.τ,aj6 (.val ag cs::as) i j=(i,v)::aj6 as (i+1) j∧v.owner=false∧∀ σ':ac0 U,ae0 P U G σ' w i v u:=by
   cases ag with
   | true=>exact ⟨.agg cs,rfl,rfl,fun σ'=>hv⟩
   | false=>
    obtain ⟨c,rfl,hc⟩:=hv
    exact ⟨.one c,rfl,rfl,fun σ'=>ae0.of_pc hc⟩
  rw [hw]
  obtain ⟨h1,h2,h3,h4⟩:=ih (i+1) (upd σ i v) (by omega)
  have hp:ah5 (.val ag cs::as)=ah5 as:=rfl
  have hat:ae4 (upd σ i v) (aj6 as (i+1) j) i=v:=by
   rw [h1 i (.inl (by omega)) (.inl (by omega))]
   simp [upd]
  simp only [ae4,hp]
  refine ⟨fun t ht ht2=>?_,h2,fun σ' hσ' m x hm=>?_,fun m hm=>?_⟩
  ·simp only [List.length_cons] at ht
   rw [h1 t (by omega) ht2]
   have:t≠i:=by omega
   simp [upd,this]
  ·cases m with
   | zero=>
    simp at hm; subst hm
    rw [Nat.add_zero,hat]
    exact hok σ'
   | succ m=>
    rw [show i+(m+1)=i+1+m by omega]
    exact h3 σ' hσ' m x (by simpa using hm)
  ·cases m with
   | zero=>exact (show (ae4 (upd σ i v) (aj6 as (i+1) j) i).owner=false by rw [hat]; exact hown)
   | succ m=>
    rw [show i+(m+1)=i+1+m by omega]
    exact h4 m (by simpa using hm)
 | ptr cs as us j hb hr ih=>
  intro i σ hi
  simp only [List.length_cons] at hi
  have hw:aj6 (.ptr cs::as) i j=(aa6+j,.box cs)::(i,.one (.ref (aa6+j) 0))::aj6 as (i+1) (j+1):=rfl
  rw [hw]
  obtain ⟨h1,h2,h3,h4⟩:=ih (i+1) (upd (upd σ (aa6+j) (.box cs)) i (.one (.ref (aa6+j) 0))) (by omega)
  have hp:ah5 (.ptr cs::as)=cs::ah5 as:=rfl
  simp only [ae4,hp]
  have hat:ae4 (upd (upd σ (aa6+j) (.box cs)) i (.one (.ref (aa6+j) 0))) (aj6 as (i+1) (j+1)) i=.one (.ref (aa6+j) 0):=by
   rw [h1 i (.inl (by omega)) (.inl (by omega))]
   simp [upd]
  have hbx:ae4 (upd (upd σ (aa6+j) (.box cs)) i (.one (.ref (aa6+j) 0))) (aj6 as (i+1) (j+1)) (aa6+j)=.box cs:=by
   rw [h1 (aa6+j) (.inr (by omega)) (.inl (by omega))]
   have:aa6+j≠i:=by omega
   simp [upd,this]
  refine ⟨fun t ht ht2=>?_,fun q l hq=>?_,fun σ' hσ' m x hm=>?_,fun m hm=>?_⟩
  ·simp only [List.length_cons] at ht ht2
   rw [h1 t (by omega) (by omega)]
   have k1:t≠i:=by omega
   have k2:t≠aa6+j:=by omega
   simp [upd,k1,k2]
  ·cases q with
   | zero=>
    simp at hq; subst hq
    rw [Nat.add_zero]
    exact ⟨hbx,hb⟩
   | succ q=>
    rw [show j+(q+1)=j+1+q by omega]
    exact h2 q l (by simpa using hq)
  ·cases m with
   | zero=>
    simp at hm; subst hm
    rw [Nat.add_zero,hat]
    have:=hσ' 0 cs rfl
    rw [Nat.add_zero] at this
    exact ⟨⟨cs,this⟩,rfl⟩
   | succ m=>
    rw [show i+(m+1)=i+1+m by omega]
    exact h3 σ' (fun q l hq=>by have:=hσ' (q+1) l (by simpa using hq); rwa [show j+(q+1)=j+1+q by omega] at this) m x (by simpa using hm)
  ·cases m with
   | zero=>exact (show (ae4 (upd (upd σ (aa6+j) (.box cs)) i (.one (.ref (aa6+j) 0))) (aj6 as (i+1) (j+1)) i).owner=false by rw [hat]; rfl)
   | succ m=>
    rw [show i+(m+1)=i+1+m by omega]
    exact h4 m (by simpa using hm)
def cm6 (tmps:Array Value):ResultVar→Sem Value
 | .tmp t=>pure (tmps.getD t undef)
 | .cell x t=>do loadVar t (← asAddr (tmps.getD x undef))
theorem ek1 (fn:Func) (tmps:Array Value):(results fn tmps).run P w=((fn.results.toList.mapM (cm6 tmps)).run P w).andThen fun us w'=>.ok (if h:us.toArray.size=1 then us.toArray[0] else .tuple us.toArray) w':=by
 have e:(fun (x:ResultVar)=>(match x with | .tmp t=>pure (tmps.getD t undef) | .cell a t=>do loadVar t (← asAddr (tmps.getD a undef)):Sem Value))=cm6 tmps:=by
  funext x; cases x <;> rfl
 have h:results fn tmps=(do
   let vs ← fn.results.mapM (cm6 tmps)
   pure (if h:vs.size=1 then vs[0] else .tuple vs)):=by
  rw [← e]; rfl
 rw [h,Array.mapM_eq_mapM_toList]
 simp only [Sem.run_bind,Sem.run_map]
 cases (fn.results.toList.mapM (cm6 tmps)).run P w <;> rfl
theorem ez7 (r:R P U N L0 G0 w0 G σ a w) {st:St U} (hst:st.get=σ) {rv:ResultVar} {ag:Bool} {cs:List (CV U.τ)} (h:cT3 P rv st=some (ag,cs)) :
  ∃ u,(cm6 a.tmps rv).run P w=.ok u w∧am1 P U w G.I ag cs u:=by
 cases rv with
 | tmp t=>
  simp only [cT3] at h
  rw [hst] at h
  refine ⟨_,rfl,?_⟩
  have hs:=r.slots t
  cases hv:σ t with
  | box cs'=>rw [hv] at h; simp [ax5,cellsOf] at h
  | bblk e y q=>rw [hv] at h; simp [ax5,cellsOf] at h
  | one c=>rw [hv] at h hs; exact bo8 hs h
  | agg cs'=>rw [hv] at h hs; exact bo8 hs h
  | _=>rw [hv] at h; simp [ax5,cellsOf] at h
 | cell x t=>
  simp only [cT3] at h
  cases hx:Nat.ble aa6 x with
  | true=>rw [hx] at h; cases h
  | false=>
   rw [hx,cond_false,hst] at h
   have hxv:x < aa6:=by
    rcases Nat.lt_or_ge x aa6 with h1 | h1
    ·exact h1
    ·rw [Nat.ble_eq_true_of_le h1] at hx; cases hx
   have main:∀ s off,(∃ cs',σ s=.box cs')→a.tmps.getD x undef=.pointer (some ⟨(G.loc s).1,(G.loc s).2+off,none⟩)→
     (match σ s with | .box cs=>cond (Nat.ble 1 (P.cellsOf t)) ((an1 P t cs off).bind fun v=>cellsOf v) none | _=>none)=some (ag,cs)→
     ∃ u,(cm6 a.tmps (.cell x t)).run P w=.ok u w∧am1 P U w G.I ag cs u:=by
    rintro s off ⟨cs',hs⟩ hp h
    rw [hs] at h
    simp only at h
    cases hz:Nat.ble 1 (P.cellsOf t) with
    | false=>rw [hz] at h; cases h
    | true=>
     rw [hz,cond_true] at h
     have hz:=Nat.le_of_ble_eq_true hz
     cases hpt:an1 P t cs' off with
     | none=>rw [hpt] at h; cases h
     | some v=>
      rw [hpt] at h
      simp only [Option.bind_some] at h
      have hbx:=r.slots s
      rw [hs] at hbx
      obtain ⟨k1,u,k2,k3,k4⟩:=cE6 (σ:=σ) (G:=G) (w:=w) hpt hz (b:=(G.loc s).1) (base:=(G.loc s).2) (fun j c hj=>by
       obtain ⟨y,hy,hk⟩:=hbx.2.cells j c hj
       exact ⟨y,hy,hk.plain⟩)
      refine ⟨u,by simp [cm6,hp,asAddr,k2],?_⟩
      have hcv:cellsOf v.plain=cellsOf v:=by
       cases v with
       | one c=>cases c <;> first | rfl | (rename_i f; cases f <;> rfl)
       | _=>rfl
      rw [← hcv] at h
      exact bo8 (k3 0) h
   have hs:=r.slots x
   cases hv:σ x with
   | box cs'=>
    rw [hv] at h hs
    exact main x 0 ⟨cs',hv⟩ (hs.1 hxv) h
   | one c=>
    rw [hv] at h hs
    cases c with
    | ref s off=>exact main s off hs.1 hs.2 h
    | _=>simp [ax5] at h
   | _=>rw [hv] at h; simp [ax5] at h
theorem dv7 (r:R P U N L0 G0 w0 G σ a w) {st:St U} (hst:st.get=σ):∀ (rs:List ResultVar) (vs:List (Bool × List (CV U.τ))),bA4 P rs st=some vs→
  ∃ us,(rs.mapM (cm6 a.tmps)).run P w=.ok us w∧us.length=vs.length∧∀ (j:Nat) ag cs,vs[j]?=some (ag,cs)→∃ u,us[j]?=some u∧am1 P U w G.I ag cs u
 | [],vs,h=>by
  simp only [bA4,Option.some.injEq] at h
  subst h
  exact ⟨[],rfl,rfl,fun j ag cs hj=>by simp at hj⟩
 | rv::rs,vs,h=>by
  simp only [bA4] at h
  cases h1:cT3 P rv st with
  | none=>rw [h1] at h; cases h
  | some x=>
   cases h2:bA4 P rs st with
   | none=>rw [h1,h2] at h; cases h
   | some xs=>
    rw [h1,h2] at h
    injection h with h; subst h
    obtain ⟨ag,cs⟩:=x
    obtain ⟨u,k1,k2⟩:=ez7 r hst h1
    obtain ⟨us,k3,k4,k5⟩:=dv7 r hst rs xs h2
    refine ⟨u::us,?_,by simp [k4],fun j ag' cs' hj=>?_⟩
    ·simp only [List.mapM_cons,Sem.run_bind,k1,k3,Result.andThen_ok,Sem.run_pure]
    ·cases j with
     | zero=>simp at hj; obtain ⟨rfl,rfl⟩:=hj; exact ⟨u,rfl,k2⟩
     | succ j=>simpa using k5 j ag' cs' (by simpa using hj)
theorem dv8 {st:St U}:∀ (m i:Nat) (bs:List (List (CV U.τ))),bZ4 st m i=some bs→bs.length=m∧∀ (j:Nat) cs,bs[j]?=some cs→st.get (aa6+(i+j))=.box cs
 | 0,i,bs,h=>by
  simp only [bZ4,Option.some.injEq] at h
  subst h
  exact ⟨rfl,fun j cs hj=>by simp at hj⟩
 | m+1,i,bs,h=>by
  simp only [bZ4] at h
  split at h
  ·rename_i cs r h1 h2
   injection h with h; subst h
   obtain ⟨k1,k2⟩:=dv8 m (i+1) r h2
   refine ⟨by simp [k1],fun j cs' hj=>?_⟩
   cases j with
   | zero=>simp at hj; subst hj; rw [Nat.add_zero]; exact h1
   | succ j=>rw [show i+(j+1)=i+1+j by omega]; exact k2 j cs' (by simpa using hj)
  ·cases h
theorem de7:∀ (as:List (Arg U.τ)),cT4 as=(ah5 as).length
 | []=>rfl
 | .ptr _::r=>by simp [cT4,ah5,de7 r]
 | .val _ _::r=>by simp [cT4,ah5,de7 r]
theorem er4 (r:R P U N L0 G0 w0 G σ a w) {st:St U} (hst:st.get=σ) {fn:Func} {m:Nat} {o:Out U.τ} (h:de4 P fn.results.toList m st=some o) :
  (∃ u,(results fn a.tmps).run P w=.ok u w∧aZ6 P U w G.I o.ret u)∧o.boxes.length=m∧∀ (j:Nat) cs,o.boxes[j]?=some cs→σ (aa6+j)=.box cs:=by
 unfold de4 at h
 cases h1:bA4 P fn.results.toList st with
 | none=>rw [h1] at h; cases h
 | some vs=>
  cases h2:bZ4 st m 0 with
  | none=>rw [h1,h2] at h; cases h
  | some bs=>
   rw [h1,h2] at h
   injection h with h; subst h
   obtain ⟨us,k1,k2,k3⟩:=dv7 r hst _ vs h1
   obtain ⟨k4,k5⟩:=dv8 m 0 bs h2
   have hbox:∀ (j:Nat) cs,bs[j]?=some cs→σ (aa6+j)=.box cs:=fun j cs hj=>by
    have:=k5 j cs hj
    rwa [Nat.zero_add,hst] at this
   refine ⟨?_,k4,hbox⟩
   have hrun:(results fn a.tmps).run P w=.ok (if h:us.toArray.size=1 then us.toArray[0] else .tuple us.toArray) w:=by
    rw [ek1,k1]; rfl
   have one:∀ x,vs=[x]→∃ u,us=[u]∧am1 P U w G.I x.1 x.2 u:=by
    intro x hx
    subst hx
    obtain ⟨u,g1,g2⟩:=k3 0 x.1 x.2 rfl
    refine ⟨u,?_,g2⟩
    cases us with
    | nil=>simp at k2
    | cons y ys=>
     simp at k2 g1
     rw [k2,g1]
   have tupCase:(∀ x,vs≠[x])→∃ u,(results fn a.tmps).run P w=.ok u w∧aZ6 P U w G.I (.tup vs) u:=by
    intro hne
    refine ⟨_,hrun,?_⟩
    have:¬us.toArray.size=1:=by
     simp only [List.size_toArray]
     intro h1
     rw [k2] at h1
     obtain ⟨x,hx⟩:=List.length_eq_one_iff.1 h1
     exact hne x hx
    rw [dif_neg this]
    exact ⟨us.toArray,rfl,by simpa using k2,fun j ag cs hj=>by
     obtain ⟨u,g1,g2⟩:=k3 j ag cs hj
     exact ⟨u,by simpa using g1,g2⟩⟩
   simp only
   cases hvs:vs with
   | nil=>rw [hvs] at tupCase; exact tupCase (by simp)
   | cons x xs=>
    cases xs with
    | nil=>
     obtain ⟨u,g1,g2⟩:=one x hvs
     subst g1
     obtain ⟨ag,cs⟩:=x
     cases ag with
     | true=>exact ⟨u,hrun,g2⟩
     | false=>
      obtain ⟨c',g3,g4⟩:=g2
      simp only at g3
      subst g3
      exact ⟨u,hrun,g4⟩
    | cons y ys=>
     have:=tupCase (by rw [hvs]; simp)
     rw [hvs] at this
     have hmk:eR0 (x::y::ys)=.tup (x::y::ys):=by
      obtain ⟨ag,cs⟩:=x
      cases ag with
      | true=>rfl
      | false=>cases cs with
       | nil=>rfl
       | cons c cs=>cases cs <;> rfl
     rw [hmk]
     exact this
theorem cF2 (hU:aD7 P U) (hΦ:as8 P U Φ) (hm:P.follows .mixedOrders=true) {n f:Nat} {fn:Func} (hf:P.funcs[f]?=some fn) (hcall:∀ (vs:Array Value) (w:World),(callFunc f vs).run P w=.ok (.enter f vs) w)
  {args:List (Arg U.τ)} {k:Out U.τ→Option Res} {out:Res} (h:ea3 P Φ adv n fn args k=some out):∃ o,aI4 P U f args o∧k o=some out:=by
 unfold ea3 at h
 cases hb:fn.body with
 | none=>rw [hb] at h; cases h
 | some c=>
  rw [hb] at h
  simp only at h
  cases hc:(Nat.ble adv.n fn.ntmps && Nat.ble fn.ntmps aa6 && Nat.ble args.length fn.ntmps) with
  | false=>rw [hc] at h; cases h
  | true=>
   rw [hc,cond_true,bp4] at h
   simp only [Bool.and_eq_true] at hc
   obtain ⟨⟨hn1,hn2⟩,hn3⟩:=hc
   have hn1:=Nat.le_of_ble_eq_true hn1
   have hn2:=Nat.le_of_ble_eq_true hn2
   have hn3:=Nat.le_of_ble_eq_true hn3
   obtain ⟨e,st',h1,h2⟩:=ez6 hU hΦ hm c _ _ _ _ _ h
   have hfin:(e=.normal∨e=.ret)∧(match de4 P fn.results.toList (cT4 args) st' with | some o=>k o | none=>none)=some out:=by
    cases e with
    | normal=>exact ⟨.inl rfl,h1⟩
    | ret=>exact ⟨.inr rfl,h1⟩
    | _=>cases h1
   obtain ⟨he,hk⟩:=hfin
   cases ho:de4 P fn.results.toList (cT4 args) st' with
   | none=>rw [ho] at hk; cases hk
   | some o=>
    rw [ho] at hk
    refine ⟨o,⟨hcall,fun G0 w vs hargs himm hwho henv=>?_⟩,hk⟩
    have hlen:=dG4 hargs
    let L0:Nat→Nat:=fun t=>((ah5 args)[t - aa6]?.map List.length).getD 0
    let a0:Act:={ tmps:=vs.toArray++Array.replicate (fn.ntmps - vs.toArray.size) undef,defers:=[] }
    obtain ⟨g1,g2,g3,g4⟩:=ek0 hargs 0 (fun _=>.undef) (by omega)
    have hget:(St.puts ([]:St U) (aj6 args 0 0)).get=ae4 (fun _=>.undef) (aj6 args 0 0):=by
     rw [do2]; rfl
    have hbox:∀ t cs,aa6≤t→ae4 (fun _=>.undef) (aj6 args 0 0) t=.box cs→(ah5 args)[t - aa6]?=some cs:=by
     intro t cs ht hσ
     by_cases hlt:t < aa6+(ah5 args).length
     ·have hlt2:t - aa6 < (ah5 args).length:=by omega
      obtain ⟨l,hq⟩:∃ l,(ah5 args)[t - aa6]?=some l:=⟨_,List.getElem?_eq_getElem hlt2⟩
      have:=(g2 (t - aa6) _ hq).1
      rw [show aa6+(0+(t - aa6))=t by omega,hσ] at this
      injection this with this
      rw [hq,← this]
     ·have e1:0+args.length≤t:=by omega
      have e2:aa6+0+(ah5 args).length≤t:=by omega
      rw [g1 t (Or.inr e1) (Or.inr e2)] at hσ
      cases hσ
    have r0:R P U fn.ntmps L0 G0 w G0 (ae4 (fun _=>.undef) (aj6 args 0 0)) a0 w:=by
     refine ⟨rfl,?_,hn2,fun t=>?_,himm,hwho,.refl G0 w,fun _ _=>rfl,fun t cs ht hσ=>?_,fun _ _ _ _ _ _=>rfl,henv⟩
     ·simp [a0]; omega
     ·by_cases ht:t < args.length
      ·have hv:vs[t]?=some vs[t]:=List.getElem?_eq_getElem (by omega)
       have:=g3 (ae4 (fun _=>.undef) (aj6 args 0 0)) (fun q cs hq=>(g2 q cs hq).1) t _ hv
       rw [Nat.zero_add] at this
       have hval:a0.tmps.getD t undef=vs[t]:=by
        rw [Array.getD_eq_getD_getElem?,Array.getElem?_append_left (by simp; omega)]
        simp [hv]
       rw [hval]
       exact this
      ·by_cases hp:aa6≤t∧t < aa6+(ah5 args).length
       ·have hlt2:t - aa6 < (ah5 args).length:=by omega
        obtain ⟨l,hq⟩:∃ l,(ah5 args)[t - aa6]?=some l:=⟨_,List.getElem?_eq_getElem hlt2⟩
        obtain ⟨k1,k2⟩:=g2 (t - aa6) _ hq
        rw [show aa6+(0+(t - aa6))=t by omega] at k1 k2
        rw [k1]
        exact ⟨fun h=>by omega,k2⟩
       ·rw [g1 t (.inr (by omega)) (by omega)]
        trivial
     ·have:=hbox t cs ht hσ
      simp [L0,this]
    have hA:ak7 P U fn.ntmps L0 G0 w (St.puts ([]:St U) (aj6 args 0 0)).get a0 w:=by rw [hget]; exact ⟨G0,r0⟩
    refine calls_of_wp hf hb ?_
    refine wp_mono (h2 hn1 a0 w hA) fun e' a' w' ⟨he',G,r⟩=>?_
    obtain ⟨⟨u,k1,k2⟩,k3,k4⟩:=er4 r rfl ho
    have fin:a'.defers=[]∧∃ v,(results fn a'.tmps).run P w'=.ok v w'∧(∃ u G',Ending.returned v=.returned u∧aI3 G0 w G' w'∧aZ6 P U w' G'.I o.ret u∧o.boxes.length=(ah5 args).length∧
      (∀ (j:Nat) cs,o.boxes[j]?=some cs→au1 P U w' G'.I G'.who (aa6+j) (G0.loc (aa6+j)) cs)∧
      (∀ (j:Nat) cs,(ah5 args)[j]?=some cs→(∃ l,o.boxes[j]?=some l∧l.length=cs.length)∧∀ q,(q < (G0.loc (aa6+j)).2∨(G0.loc (aa6+j)).2+cs.length≤q)→w'.cell? ⟨(G0.loc (aa6+j)).1,q,none⟩=w.cell? ⟨(G0.loc (aa6+j)).1,q,none⟩)∧
      (∀ b q,G'.I b q→(w'.cell? ⟨b,q,none⟩).isSome=true)∧(∀ b L,G'.who b=some L→b < w'.heap.size)):=by
     refine ⟨r.defers,u,k1,u,G,rfl,r.step,k2,by rw [k3,de7],fun j cs hj=>?_,fun j cs hj=>?_,r.imm,r.who⟩
     ·have hs:=r.slots (aa6+j)
      rw [k4 j cs hj] at hs
      have:=hs.2
      rwa [r.loc _ (by omega)] at this
     ·have hjl:=(List.getElem?_eq_some_iff.1 hj).1
      have hjl2:j < o.boxes.length:=by rw [k3,de7]; exact hjl
      have hl:o.boxes[j]?=some (o.boxes[j]'hjl2):=List.getElem?_eq_getElem hjl2
      have hσ:=k4 j _ hl
      have hln:=r.lens (aa6+j) _ (by omega) hσ
      have hL:L0 (aa6+j)=cs.length:=by simp [L0,hj]
      refine ⟨⟨_,hl,by rw [hln,hL]⟩,fun q hq=>?_⟩
      have:=r.rest (aa6+j) _ (by omega) hσ q (by rw [r.loc _ (by omega),hln,hL]; exact hq)
      rwa [r.loc _ (by omega)] at this
    subst he'
    rcases he with rfl | rfl
    ·exact fin
    ·exact fin
end
end Go.VI
namespace Go.VI
open Go
inductive FK where
 | int (k:IntKind)
 | bool
 | str
 | sl (e:Nat)
 | bs (e:Nat)
 | fn
 | any
def FK.den (τ:Nat→Type):FK→Type
 | .int _=>Int
 | .bool=>Bool
 | .str=>List UInt8
 | .sl e=>List (τ e)
 | .bs _=>List UInt8
 | .fn=>Nat
 | .any=>Unit
def aM3 (τ:Nat→Type):List FK→Type
 | []=>Unit
 | k::r=>k.den τ × aM3 τ r
def FK.enc {τ:Nat→Type} (m:Bool):(k:FK)→k.den τ→CV τ
 | .int i,n=>.int i n
 | .bool,b=>.bool b
 | .str,s=>.str s
 | .sl e,xs=>.sl e xs (cond m .app .ro)
 | .bs e,s=>.bs e s (cond m .app .ro)
 | .fn,f=>.fn f
 | .any,_=>.any
def aV5 {τ:Nat→Type} (m:Bool):(ks:List FK)→aM3 τ ks→List (CV τ)
 | [],_=>[]
 | k::r,x=>k.enc m x.1::aV5 m r x.2
def eb7 (m:Bool):Fl→Bool
 | .ro=>!m
 | _=>true
def FK.dec {τ:Nat→Type} (m:Bool):(k:FK)→CV τ→Option (k.den τ)
 | .int i,.int j n=>cond (decide (i=j)) (some n) none
 | .bool,.bool b=>some b
 | .str,.str s=>some s
 | .sl e,.sl e2 xs f=>cond (eb7 m f) (match Nat.decEq e2 e with | .isTrue h=>some (h ▸ xs) | .isFalse _=>none) none
 | .bs e,.bs e2 s f=>cond (eb7 m f && Nat.beq e2 e) (some s) none
 | .fn,.fn f=>some f
 | .any,_=>some ()
 | _,_=>none
def ca7 {α β:Type} (a:Option α) (b:Option β):Option (α × β):=match a with | some x=>(match b with | some y=>some (x,y) | none=>none) | none=>none
theorem bm5 {α β:Type} {a:Option α} {b:Option β} {r:α × β} (h:ca7 a b=some r):∃ x y,a=some x∧b=some y∧r=(x,y):=by
 cases a with
 | none=>cases h
 | some x=>
  cases b with
  | none=>cases h
  | some y=>injection h with h; exact ⟨x,y,rfl,rfl,h.symm⟩
def dZ0 {τ:Nat→Type} (m:Bool):(ks:List FK)→List (CV τ)→Option (aM3 τ ks)
 | []=>fun cs=>match cs with | []=>some () | _=>none
 | k::r=>fun cs=>match cs with | c::cs=>ca7 (k.dec m c) (dZ0 m r cs) | []=>none
structure Ty (τ:Nat→Type) where
 α:Type
 agg:Bool
 ks:List FK
 to:α→aM3 τ ks
 of:aM3 τ ks→α
 ok:∀ y,to (of y)=y
 one:agg=true∨∃ k,ks=[k]
def Ty.enc {τ:Nat→Type} (T:Ty τ) (m:Bool) (x:T.α):List (CV τ):=aV5 m T.ks (T.to x)
def Ty.dec {τ:Nat→Type} (T:Ty τ) (m:Bool) (cs:List (CV τ)):Option T.α:=match dZ0 m T.ks cs with | some y=>some (T.of y) | none=>none
section
variable {P:Program} {U:af0}
def CLe (P:Program) (U:af0) (m:Bool) (c c':CV U.τ):Prop:=
 ∀ w I who L u,(m=false→PC P U w I c u→PC P U w I c' u)∧(m=true→af3 P U w I who L c u→af3 P U w I who L c' u)
theorem CLe.refl (m:Bool) (c:CV U.τ):CLe P U m c c:=fun _ _ _ _ _=>⟨fun _ h=>h,fun _ h=>h⟩
theorem eb8 {m:Bool} {c c':CV U.τ} {e:Nat} {css:List (List (CV U.τ))} {f:Fl} (hc:cont c=some (e,css,f)) (hc':cont c'=some (e,css,cond m .app .ro)) (hf:eb7 m f=true):CLe P U m c c':=by
 intro w I who L u
 refine ⟨fun hm h=>?_,fun hm h=>?_⟩
 ·subst hm
  obtain ⟨_,h2,h3⟩:=h.slice hc
  rcases h3 with ⟨rfl,rfl⟩ | ⟨_,rfl,p,cap,rfl⟩ | ⟨b,off,cap,rfl,h4,h5,h6⟩
  ·exact .nil _ e .ro hc' (by simp)
  ·exact .emp _ e _ _ hc'
  ·exact PC.of_cont hc' (by simp) h4 (by simp) h2 h6
 ·subst hm
  have app:∀ h2:(css.length:Int)≤ae3,((css=[]∧u=.slice none 0 0)∨∃ b off cap,u=.slice (some ⟨b,off,none⟩) css.length cap∧css.length≤cap∧bo7 P U w I b off (P.cellsOf e) css∧(cap=css.length∨(who b=some L∧eq4 w I b (off+css.length * P.cellsOf e) (off+cap * P.cellsOf e))))→af3 P U w I who L c' u:=
   fun h2 h3=>.inr ⟨e,css,hc',h2,h3⟩
  rcases h with h | ⟨e1,css1,k1,k2,k3⟩
  ·obtain ⟨hne,h2,h3⟩:=h.slice hc
   have hft:f=.tight:=by
    cases f with
    | ro=>cases hf
    | tight=>rfl
    | app=>exact absurd rfl hne
   refine app h2 ?_
   rcases h3 with h3 | ⟨h3,_⟩ | ⟨b,off,cap,h4,h5,h6,h7⟩
   ·exact .inl h3
   ·rw [hft] at h3; cases h3
   ·exact .inr ⟨b,off,cap,h4,h5,h7,.inl (h6 hft)⟩
  ·rw [hc] at k1
   simp only [Option.some.injEq,Prod.mk.injEq] at k1
   obtain ⟨rfl,rfl,_⟩:=k1
   exact app k2 k3
theorem FK.dec_le {m:Bool}:∀ (k:FK) (c:CV U.τ) (x:k.den U.τ),k.dec m c=some x→CLe P U m c (k.enc m x):=by
 intro k c x h
 cases k with
 | int i=>
  cases c with
  | int j n=>
   simp only [FK.dec] at h
   cases hd:decide (i=j) with
   | false=>rw [hd] at h; cases h
   | true=>
    rw [hd] at h
    injection h with h; subst h
    have:=of_decide_eq_true hd
    subst this
    exact CLe.refl _ _
  | _=>cases h
 | bool=>cases c with
  | bool b=>injection h with h; subst h; exact CLe.refl _ _
  | _=>cases h
 | str=>cases c with
  | str s=>injection h with h; subst h; exact CLe.refl _ _
  | _=>cases h
 | fn=>cases c with
  | fn s=>injection h with h; subst h; exact CLe.refl _ _
  | _=>cases h
 | any=>exact fun w I who L u=>⟨fun _ h=>.any _ h.one1,fun _ h=>.inl (.any _ h.one1)⟩
 | sl e=>cases c with
  | sl e2 xs f=>
   simp only [FK.dec] at h
   cases hf:eb7 m f with
   | false=>rw [hf] at h; cases h
   | true=>
    rw [hf,cond_true] at h
    cases hd:Nat.decEq e2 e with
    | isFalse _=>rw [hd] at h; cases h
    | isTrue he=>
     rw [hd] at h
     subst he
     injection h with h; subst h
     exact eb8 (e:=e2) (css:=xs.map (U.enc e2)) (f:=f) rfl rfl hf
  | _=>cases h
 | bs e=>cases c with
  | bs e2 s f=>
   simp only [FK.dec] at h
   cases hf:(eb7 m f && Nat.beq e2 e) with
   | false=>rw [hf] at h; cases h
   | true=>
    rw [hf,cond_true] at h
    simp only [Bool.and_eq_true] at hf
    have he:=Nat.eq_of_beq_eq_true hf.2
    subst he
    injection h with h; subst h
    exact eb8 (e:=e2) (css:=s.map fun b=>[.int .u8 b.toNat]) (f:=f) rfl rfl hf.1
  | _=>cases h
def de8 (P:Program) (U:af0) (m:Bool) (cs cs':List (CV U.τ)):Prop:=
 cs'.length=cs.length∧∀ (j:Nat) c c',cs[j]?=some c→cs'[j]?=some c'→CLe P U m c c'
theorem eb9 {m:Bool}:∀ (ks:List FK) (cs:List (CV U.τ)) (x:aM3 U.τ ks),dZ0 m ks cs=some x→de8 P U m cs (aV5 m ks x)
 | [],[],x,h=>⟨rfl,fun j c c' h=>by have h3:(none:Option (CV U.τ))=some c:=h; cases h3⟩
 | k::r,c::cs,x,h=>by
  obtain ⟨a,b,h1,h2,rfl⟩:=bm5 h
  ·skip
   obtain ⟨g1,g2⟩:=eb9 r cs b h2
   refine ⟨congrArg Nat.succ g1,fun j d d' hd hd'=>?_⟩
   cases j with
   | zero=>
    have e1:c=d:=by injection hd
    have e2:k.enc m a=d':=by injection hd'
    subst e1; subst e2; exact FK.dec_le k c a h1
   | succ j=>exact g2 j d d' hd hd'
 | [],_::_,x,h=>by cases h
 | k::r,[],x,h=>by cases h
theorem Ty.dec_le (T:Ty U.τ) {m:Bool} {cs:List (CV U.τ)} {x:T.α} (h:T.dec m cs=some x):de8 P U m cs (T.enc m x):=by
 unfold Ty.dec at h
 cases hd:dZ0 m T.ks cs with
 | none=>rw [hd] at h; cases h
 | some y=>
  rw [hd] at h
  injection h with h; subst h
  unfold Ty.enc
  rw [T.ok]
  exact eb9 _ _ _ hd
theorem Ty.univ (T:Ty U.τ) {cs:List (CV U.τ)} {x:T.α} (h:T.dec false cs=some x):do6 P U cs (T.enc false x):=by
 obtain ⟨h1,h2⟩:=T.dec_le (P:=P) h
 exact ⟨h1,fun j c c' hc hc' w I u hp=>(h2 j c c' hc hc' w I (fun _=>none) (0,none) u).1 rfl hp⟩
structure Sig (τ:Nat→Type) where
 ps:List (Bool × Ty τ)
 rs:List (Ty τ)
def de9 {τ:Nat→Type}:List (Bool × Ty τ)→Type
 | []=>Unit
 | p::r=>p.2.α × de9 r
def bF3 {τ:Nat→Type}:List (Ty τ)→Type
 | []=>Unit
 | T::r=>T.α × bF3 r
def bI3 {τ:Nat→Type}:List (Bool × Ty τ)→List (Ty τ)
 | []=>[]
 | (true,T)::r=>T::bI3 r
 | (false,_)::r=>bI3 r
abbrev Sig.A {τ:Nat→Type} (s:Sig τ):Type:=de9 s.ps
abbrev Sig.B {τ:Nat→Type} (s:Sig τ):Type:=bF3 s.rs × bF3 (bI3 s.ps)
def er5 {τ:Nat→Type} (p:Bool × Ty τ) (x:p.2.α):Arg τ:=cond p.1 (.ptr (p.2.enc true x)) (.val p.2.agg (p.2.enc false x))
def ar2 {τ:Nat→Type}:(ps:List (Bool × Ty τ))→de9 ps→List (Arg τ)
 | [],_=>[]
 | p::r,x=>er5 p x.1::ar2 r x.2
def ez8 {τ:Nat→Type} (p:Bool × Ty τ) (a:Arg τ):Option p.2.α:=
 match p.1,a with
 | true,.ptr cs=>p.2.dec true cs
 | false,.val ag cs=>cond (ag==p.2.agg) (p.2.dec false cs) none
 | _,_=>none
def cy0 {τ:Nat→Type}:(ps:List (Bool × Ty τ))→List (Arg τ)→Option (de9 ps)
 | []=>fun as=>match as with | []=>some () | _=>none
 | p::r=>fun as=>match as with | a::as=>ca7 (ez8 p a) (cy0 r as) | []=>none
def df0 {τ:Nat→Type}:(l:List (Ty τ))→bF3 l→List (Bool × List (CV τ))
 | [],_=>[]
 | T::r,x=>(T.agg,T.enc false x.1)::df0 r x.2
def dZ1 {τ:Nat→Type}:(l:List (Ty τ))→List (Bool × List (CV τ))→Option (bF3 l)
 | []=>fun cs=>match cs with | []=>some () | _=>none
 | T::r=>fun cs=>match cs with | c::cs=>ca7 (cond (c.1==T.agg) (T.dec false c.2) none) (dZ1 r cs) | []=>none
def cF3 {τ:Nat→Type}:(l:List (Ty τ))→bF3 l→List (List (CV τ))
 | [],_=>[]
 | T::r,x=>T.enc true x.1::cF3 r x.2
def er6 {τ:Nat→Type}:(l:List (Ty τ))→List (List (CV τ))→Option (bF3 l)
 | []=>fun cs=>match cs with | []=>some () | _=>none
 | T::r=>fun cs=>match cs with | c::cs=>ca7 (T.dec true c) (er6 r cs) | []=>none
def eR2 {τ:Nat→Type}:AV τ→Option (List (Bool × List (CV τ)))
 | .one c=>some [(false,[c])]
 | .agg cs=>some [(true,cs)]
 | .tup []=>some []
 | .tup (x::y::r)=>some (x::y::r)
 | _=>none
def dZ2 {τ:Nat→Type} (vs:List (Bool × List (CV τ))):AV τ:=
 match vs with
 | [(true,cs)]=>.agg cs
 | [(false,[c])]=>.one c
 | vs=>.tup vs
def Sig.out {τ:Nat→Type} (s:Sig τ) (r:s.B):Out τ:=⟨dZ2 (df0 s.rs r.1),cF3 (bI3 s.ps) r.2⟩
def Sig.decOut {τ:Nat→Type} (s:Sig τ) (o:Out τ):Option s.B:=
 match eR2 o.ret with
 | some vs=>
  ca7 (dZ1 s.rs vs) (er6 (bI3 s.ps) o.boxes)
 | none=>none
structure Ent (U:af0) where
 f:Nat
 sig:Sig U.τ
 G:sig.A→Option sig.B
def dv9:List (Nat × List (CV U.τ))→Nat→Option (List (CV U.τ))
 | [],_=>none
 | (g,cs)::r,f=>cond (Nat.beq f g) (some cs) (dv9 r f)
theorem dQ0:∀ (l:List (Nat × List (CV U.τ))) (f:Nat) (cs:List (CV U.τ)),dv9 l f=some cs→(f,cs)∈l
 | [],f,cs,h=>by cases h
 | (g,ds)::r,f,cs,h=>by
  unfold dv9 at h
  cases hb:Nat.beq f g with
  | true=>rw [hb] at h; injection h with h; rw [← h,Nat.eq_of_beq_eq_true hb]; exact List.mem_cons_self ..
  | false=>rw [hb] at h; exact List.mem_cons_of_mem _ (dQ0 r f cs h)
def tab:List (Ent U)→Tab U
 | []=>fun _ f as k=>match dv9 U.news f with
  | some cs=>match as with
   | []=>k ⟨.box cs,[]⟩
   | _=>none
  | none=>none
 | e::es=>fun R f as k=>cond (Nat.beq f e.f) (match cy0 e.sig.ps as with | some x=>(e.G x).bind fun r=>k (e.sig.out r) | none=>none) (tab es R f as k)
def ax8 (P:Program) (U:af0) (e:Ent U):Prop:=∀ x r,e.G x=some r→aI4 P U e.f (ar2 e.sig.ps x) (e.sig.out r)
def aa5 (P:Program) (es:List (Ent U)) (adv:Adv) (n:Nat) (fn:Func) (s:Sig U.τ) (x:s.A):Option s.B:=ea3 P (tab es) adv n fn (ar2 s.ps x) s.decOut
theorem am1.le {w:World} {I:Nat→Nat→Prop} {a:Bool} {cs cs':List (CV U.τ)} {u:Value} (h:am1 P U w I a cs u) (hl:de8 P U false cs cs'):am1 P U w I a cs' u:=by
 cases a with
 | true=>
  obtain ⟨us,h1,h2,h3⟩:=h
  refine ⟨us,h1,by rw [h2,hl.1],fun j c hc=>?_⟩
  have hj:j < cs.length:=by rw [← hl.1]; exact (List.getElem?_eq_some_iff.1 hc).1
  have hd:cs[j]?=some (cs[j]'hj):=List.getElem?_eq_getElem hj
  obtain ⟨x,k1,k2⟩:=h3 j _ hd
  exact ⟨x,k1,(hl.2 j _ c hd hc w I (fun _=>none) (0,none) x).1 rfl k2⟩
 | false=>
  obtain ⟨c,rfl,h2⟩:=h
  match cs',hl with
  | [c'],hl=>exact ⟨c',rfl,(hl.2 0 c c' rfl rfl w I (fun _=>none) (0,none) u).1 rfl h2⟩
  | [],hl=>exact absurd hl.1 (by simp)
  | _::_::_,hl=>exact absurd hl.1 (by simp)
theorem au1.le {w:World} {I:Nat→Nat→Prop} {who:Nat→Option (Nat × Option Nat)} {s:Nat} {p:Nat × Nat} {cs cs':List (CV U.τ)} (h:au1 P U w I who s p cs) (hl:de8 P U true cs cs'):au1 P U w I who s p cs':=by
 refine ⟨h.hwho,h.himm,?_⟩
 obtain ⟨c,T,fz,h1,h2,h3,h4⟩:=h.row
 refine ⟨c,T,fz,h1,by rw [hl.1]; exact h2,h3,fun i x hx=>?_⟩
 have hj:i < cs.length:=by rw [← hl.1]; exact (List.getElem?_eq_some_iff.1 hx).1
 have hd:cs[i]?=some (cs[i]'hj):=List.getElem?_eq_getElem hj
 obtain ⟨u,k1,k2⟩:=h4 i _ hd
 exact ⟨u,k1,(hl.2 i _ x hd hx w I who (s,some i) u).2 rfl k2⟩
theorem cF4 {w:World} {I:Nat→Nat→Prop} {who:Nat→Option (Nat × Option Nat)} {loc:Nat→Nat × Nat}:∀ (ps:List (Bool × Ty U.τ)) (as:List (Arg U.τ)) (us:List Value) (j:Nat) (x:de9 ps),cy0 ps as=some x→aj7 P U w I who loc as us j→aj7 P U w I who loc (ar2 ps x) us j
 | [],[],us,j,x,h,r=>r
 | p::ps,a::as,us,j,x,h,r=>by
  obtain ⟨y,z,h1,h2,rfl⟩:=bm5 h
  ·skip
   obtain ⟨b,T⟩:=p
   cases r with
   | val ag cs u as us j k1 k2=>
    cases b with
    | true=>cases h1
    | false=>
     have e2:ez8 (false,T) (.val ag cs)=cond (ag==T.agg) (T.dec false cs) none:=rfl
     rw [e2] at h1
     cases he:(ag==T.agg) with
     | false=>rw [he] at h1; cases h1
     | true=>
      rw [he,cond_true] at h1
      have he:=eq_of_beq he
      subst he
      exact .val _ _ _ _ _ _ (k1.le (T.dec_le h1)) (cF4 ps as us j z h2 k2)
   | ptr cs as us j k1 k2=>
    cases b with
    | false=>cases h1
    | true=>exact .ptr _ _ _ _ (k1.le (T.dec_le h1)) (cF4 ps as us (j+1) z h2 k2)
 | [],_::_,us,j,x,h,r=>by cases h
 | _::_,[],us,j,x,h,r=>by cases h
theorem cT6 (P:Program):∀ (ps:List (Bool × Ty U.τ)) (as:List (Arg U.τ)) (x:de9 ps),cy0 ps as=some x→(ah5 (ar2 ps x)).map List.length=(ah5 as).map List.length
 | [],[],x,h=>rfl
 | p::ps,a::as,x,h=>by
  obtain ⟨y,z,h1,h2,rfl⟩:=bm5 h
  ·skip
   have ih:=cT6 P ps as z h2
   obtain ⟨b,T⟩:=p
   cases a with
   | val ag cs=>
    cases b with
    | true=>cases h1
    | false=>exact ih
   | ptr cs=>
    cases b with
    | false=>cases h1
    | true=>
     have k:=(T.dec_le (P:=P) h1).1
     show (ah5 (er5 (true,T) y::ar2 ps z)).map List.length=_
     simp only [er5,cond_true,ah5,List.map_cons]
     rw [ih]
     congr 1
 | [],_::_,x,h=>by cases h
 | _::_,[],x,h=>by cases h
theorem aL8 (hU:aD7 P U):∀ (es:List (Ent U)),(∀ e∈es,ax8 P U e)→as8 P U (tab es)
 | [],_=>fun R f as k r h=>by
  unfold tab at h
  cases hn:dv9 U.news f with
  | none=>rw [hn] at h; cases h
  | some cs=>
   rw [hn] at h
   cases as with
   | nil=>exact ⟨_,.inr (hU.news f cs (dQ0 _ _ _ hn)),h⟩
   | cons a as=>simp at h
 | e::es,hes=>fun R f as k r h=>by
  have eq:tab (e::es) R f as k=cond (Nat.beq f e.f) (match cy0 e.sig.ps as with | some x=>(e.G x).bind fun r=>k (e.sig.out r) | none=>none) (tab es R f as k):=rfl
  rw [eq] at h
  clear eq
  cases hf:Nat.beq f e.f with
  | false=>
   rw [hf] at h
   exact aL8 hU es (fun e he=>hes e (List.mem_cons_of_mem _ he)) R f as k r h
  | true=>
   rw [hf,cond_true] at h
   have hf:=Nat.eq_of_beq_eq_true hf
   subst hf
   split at h
   ·rename_i x hx
    cases hG:e.G x with
    | none=>rw [hG] at h; cases h
    | some y=>
     rw [hG] at h
     obtain ⟨c1,c2⟩:=hes e (List.mem_cons_self ..) x y hG
     have hp:=cT6 P e.sig.ps as x hx
     refine ⟨e.sig.out y,.inl ⟨c1,fun G0 w vs ha hi hw henv=>?_⟩,h⟩
     refine (c2 G0 w vs (cF4 _ _ _ _ _ hx ha) hi hw henv).mono fun e' w' hh=>?_
     obtain ⟨u,G',a1,a2,a3,a4,a5,a6,a7,a8⟩:=hh
     have hlen:(ah5 (ar2 e.sig.ps x)).length=(ah5 as).length:=by simpa using congrArg List.length hp
     refine ⟨u,G',a1,a2,a3,a4.trans hlen,a5,fun j cs hj=>?_,a7,a8⟩
     have hj2:j < (ah5 (ar2 e.sig.ps x)).length:=by rw [hlen]; exact (List.getElem?_eq_some_iff.1 hj).1
     have hd:(ah5 (ar2 e.sig.ps x))[j]?=some ((ah5 (ar2 e.sig.ps x))[j]'hj2):=List.getElem?_eq_getElem hj2
     have hl:((ah5 (ar2 e.sig.ps x))[j]'hj2).length=cs.length:=by
      have:=congrArg (fun l=>l[j]?) hp
      simp only [List.getElem?_map,hd,hj,Option.map_some,Option.some.injEq] at this
      exact this
     have:=a6 j _ hd
     rw [hl] at this
     exact this
   ·cases h
theorem ec0:∀ (l:List (Ty U.τ)) (vs:List (Bool × List (CV U.τ))) (x:bF3 l),dZ1 l vs=some x→
  (df0 l x).length=vs.length∧∀ (j:Nat) a cs a' cs',vs[j]?=some (a,cs)→(df0 l x)[j]?=some (a',cs')→a'=a∧de8 P U false cs cs'
 | [],[],x,h=>⟨rfl,fun j a cs a' cs' h _=>by have h3:(none:Option (Bool × List (CV U.τ)))=some (a,cs):=h; cases h3⟩
 | T::l,c::vs,x,h=>by
  obtain ⟨y,z,h1,h2,rfl⟩:=bm5 h
  ·skip
   obtain ⟨g1,g2⟩:=ec0 l vs z h2
   refine ⟨congrArg Nat.succ g1,fun j a cs a' cs' hd hd'=>?_⟩
   cases j with
   | zero=>
    cases he:(c.1==T.agg) with
    | false=>rw [he] at h1; cases h1
    | true=>
     rw [he,cond_true] at h1
     have e1:c=(a,cs):=by injection hd
     have e2:(T.agg,T.enc false y)=(a',cs'):=by injection hd'
     injection e2 with e2 e3
     subst e1; subst e2; subst e3
     exact ⟨(eq_of_beq he).symm,T.dec_le h1⟩
   | succ j=>exact g2 j a cs a' cs' hd hd'
 | [],_::_,x,h=>by cases h
 | _::_,[],x,h=>by cases h
theorem ec1:∀ (l:List (Ty U.τ)) (vs:List (List (CV U.τ))) (x:bF3 l),er6 l vs=some x→
  (cF3 l x).length=vs.length∧∀ (j:Nat) cs cs',vs[j]?=some cs→(cF3 l x)[j]?=some cs'→de8 P U true cs cs'
 | [],[],x,h=>⟨rfl,fun j cs cs' h _=>by have h3:(none:Option (List (CV U.τ)))=some cs:=h; cases h3⟩
 | T::l,c::vs,x,h=>by
  obtain ⟨y,z,h1,h2,rfl⟩:=bm5 h
  ·skip
   obtain ⟨g1,g2⟩:=ec1 l vs z h2
   refine ⟨congrArg Nat.succ g1,fun j cs cs' hd hd'=>?_⟩
   cases j with
   | zero=>
    have e1:c=cs:=by injection hd
    have e2:T.enc true y=cs':=by injection hd'
    subst e1; subst e2
    exact T.dec_le h1
   | succ j=>exact g2 j cs cs' hd hd'
 | [],_::_,x,h=>by cases h
 | _::_,[],x,h=>by cases h
theorem ez9 (x y:Bool × List (CV U.τ)) (r:List (Bool × List (CV U.τ))):dZ2 (x::y::r)=.tup (x::y::r):=by
 obtain ⟨a,c⟩:=x
 cases a with
 | true=>rfl
 | false=>
  match c with
  | []=>rfl
  | [_]=>rfl
  | _::_::_=>rfl
theorem eJ5 {w:World} {I:Nat→Nat→Prop} {v:AV U.τ} {u:Value} (h:aZ6 P U w I v u) {vs:List (Bool × List (CV U.τ))} (hv:eR2 v=some vs) (l:List (Ty U.τ)) (x:bF3 l) (hx:dZ1 l vs=some x):aZ6 P U w I (dZ2 (df0 l x)) u:=by
 obtain ⟨g1,g2⟩:=ec0 (P:=P) l vs x hx
 generalize hq:df0 l x=qs at *
 cases v with
 | one c=>
  injection hv with hv; subst hv
  match qs,g1 with
  | [(a,cs)],_=>
   obtain ⟨rfl,k2⟩:=g2 0 false [c] a cs rfl rfl
   match cs,k2 with
   | [c'],k2=>exact (k2.2 0 c c' rfl rfl w I (fun _=>none) (0,none) u).1 rfl h
   | [],k2=>exact absurd k2.1 (by simp)
   | _::_::_,k2=>exact absurd k2.1 (by simp)
 | agg cs0=>
  injection hv with hv; subst hv
  match qs,g1 with
  | [(a,cs)],_=>
   obtain ⟨rfl,k2⟩:=g2 0 true cs0 a cs rfl rfl
   exact am1.le (a:=true) h k2
 | tup ts=>
  have hr:ts=vs∧dZ2 qs=.tup qs:=by
   match ts,hv with
   | [],hv=>injection hv with hv; subst hv; match qs,g1 with | [],_=>exact ⟨rfl,rfl⟩
   | _::_::_,hv=>injection hv with hv; subst hv; match qs,g1 with | _::_::_,_=>exact ⟨rfl,ez9 _ _ _⟩
  obtain ⟨rfl,hr⟩:=hr
  rw [hr]
  obtain ⟨us,k1,k2,k3⟩:=h
  refine ⟨us,k1,by rw [k2,g1],fun j a cs hj=>?_⟩
  have hjl:j < ts.length:=by rw [← g1]; exact (List.getElem?_eq_some_iff.1 hj).1
  have hd:ts[j]?=some ((ts[j]'hjl).1,(ts[j]'hjl).2):=List.getElem?_eq_getElem hjl
  obtain ⟨y,m1,m2⟩:=k3 j _ _ hd
  obtain ⟨rfl,n2⟩:=g2 j _ _ a cs hd hj
  exact ⟨y,m1,m2.le n2⟩
 | _=>cases hv
theorem dQ1 {f:Nat} {as:List (Arg U.τ)} {o:Out U.τ} (h:aI4 P U f as o) {s:Sig U.τ} {r:s.B} (hr:s.decOut o=some r):aI4 P U f as (s.out r):=by
 obtain ⟨h1,h2⟩:=h
 unfold Sig.decOut at hr
 split at hr
 ·rename_i vs hv
  obtain ⟨x,y,hx,hy,rfl⟩:=bm5 hr
  ·skip
   obtain ⟨b1,b2⟩:=ec1 (P:=P) _ _ _ hy
   refine ⟨h1,fun G0 w us ha hi hw henv=>(h2 G0 w us ha hi hw henv).mono fun e w' hh=>?_⟩
   obtain ⟨u,G',a1,a2,a3,a4,a5,a6,a7,a8⟩:=hh
   refine ⟨u,G',a1,a2,eJ5 a3 hv _ _ hx,b1.trans a4,fun j cs hj=>?_,fun j cs hj=>?_,a7,a8⟩
   ·have hjl:j < o.boxes.length:=by rw [← b1]; exact (List.getElem?_eq_some_iff.1 hj).1
    have hd:o.boxes[j]?=some (o.boxes[j]'hjl):=List.getElem?_eq_getElem hjl
    exact (a5 j _ hd).le (b2 j _ _ hd hj)
   ·obtain ⟨⟨l,k1,k2⟩,k3⟩:=a6 j cs hj
    have hjl:j < (cF3 (bI3 s.ps) y).length:=by rw [b1]; exact (List.getElem?_eq_some_iff.1 k1).1
    have hd:(cF3 (bI3 s.ps) y)[j]?=some ((cF3 (bI3 s.ps) y)[j]'hjl):=List.getElem?_eq_getElem hjl
    exact ⟨⟨_,hd,by rw [(b2 j _ _ k1 hd).1,k2]⟩,k3⟩
 ·cases hr
theorem eJ6 (hU:aD7 P U) (hm:P.follows .mixedOrders=true) {es:List (Ent U)} (hes:∀ e∈es,ax8 P U e) {adv:Adv} {n f:Nat} {fn:Func} (hf:P.funcs[f]?=some fn)
  (hcall:∀ vs w,(callFunc f vs).run P w=.ok (.enter f vs) w) (s:Sig U.τ):ax8 P U ⟨f,s,aa5 P es adv n fn s⟩:=by
 intro x r h
 obtain ⟨o,h1,h2⟩:=cF2 hU (aL8 hU es hes) hm hf hcall h
 exact dQ1 h1 h2
def inl (P:Program) (f0:Nat) (Φ':Tab U) (adv:Adv) (n:Nat) (fn:Func) (Φ:Tab U):Tab U:=fun R f as k=>cond (Nat.beq f f0) (ea3 P Φ' adv n fn as k) (Φ R f as k)
theorem cT7 (hU:aD7 P U) (hm:P.follows .mixedOrders=true) {Φ Φ':Tab U} (h:as8 P U Φ) (h':as8 P U Φ') {adv:Adv} {n f0:Nat} {fn:Func} (hf:P.funcs[f0]?=some fn)
  (hcall:∀ vs w,(callFunc f0 vs).run P w=.ok (.enter f0 vs) w):as8 P U (inl P f0 Φ' adv n fn Φ):=by
 intro R f as k r hr
 unfold inl at hr
 cases hb:Nat.beq f f0 with
 | false=>rw [hb] at hr; exact h R f as k r hr
 | true=>
  rw [hb,cond_true] at hr
  have:=Nat.eq_of_beq_eq_true hb
  subst this
  obtain ⟨o,h1,h2⟩:=cF2 hU h' hm hf hcall hr
  exact ⟨o,.inl h1,h2⟩
def cF5 (P:Program) (Φ:Tab U) (adv:Adv) (n:Nat) (fn:Func) (s:Sig U.τ) (x:s.A):Option s.B:=ea3 P Φ adv n fn (ar2 s.ps x) s.decOut
theorem dp0 (hU:aD7 P U) (hm:P.follows .mixedOrders=true) {Φ:Tab U} (hΦ:as8 P U Φ) {adv:Adv} {n f:Nat} {fn:Func} (hf:P.funcs[f]?=some fn)
  (hcall:∀ vs w,(callFunc f vs).run P w=.ok (.enter f vs) w) (s:Sig U.τ):ax8 P U ⟨f,s,cF5 P Φ adv n fn s⟩:=by
 intro x r h
 obtain ⟨o,h1,h2⟩:=cF2 hU hΦ hm hf hcall h
 exact dQ1 h1 h2
end
end Go.VI
namespace Go.VI
open Go Go.RowKit Go.ChangeShapes Go.WideShapes
def dw0 {τ:Nat→Type}:(a b:List FK)→aM3 τ a→aM3 τ b→aM3 τ (a++b)
 | [],_,_,y=>y
 | _::a,b,x,y=>(x.1,dw0 a b x.2 y)
theorem cT8 {τ:Nat→Type} (m:Bool):∀ (a b:List FK) (x:aM3 τ a) (y:aM3 τ b),aV5 m (a++b) (dw0 a b x y)=aV5 m a x++aV5 m b y
 | [],_,_,y=>rfl
 | k::a,b,x,y=>congrArg (k.enc m x.1::·) (cT8 m a b x.2 y)
section
variable {P:Program} {U:af0}
def fd2 (P:Program) (g:∀ e,U.τ e→Prop):(k:FK)→k.den U.τ→Prop
 | .int i,n=>i.has n
 | .bool,_=>True
 | .str,s=>s.length≤140737488351232
 | .sl e,xs=>xs.length * P.bytesOf e≤140737488351232∧∀ x,List.Mem (α:=U.τ e) x xs→g e x
 | .bs e,s=>s.length * P.bytesOf e≤140737488351232
 | .fn,_=>True
 | .any,_=>True
def bW3 (P:Program) (g:∀ e,U.τ e→Prop):(ks:List FK)→aM3 U.τ ks→Prop
 | [],_=>True
 | k::r,x=>fd2 P g k x.1∧bW3 P g r x.2
theorem cF6 {g:∀ e,U.τ e→Prop}:∀ (a b:List FK) (x:aM3 U.τ a) (y:aM3 U.τ b),bW3 P g a x→bW3 P g b y→bW3 P g (a++b) (dw0 a b x y)
 | [],_,_,y,_,h=>h
 | k::a,b,x,y,hx,hy=>⟨hx.1,cF6 a b x.2 y hx.2 hy⟩
def IW (w:World) (b o:Nat):Prop:=(w.cell? ⟨b,o,none⟩).isSome=true
def ba0 (P:Program) (U:af0) (w:World) (l:List (CV U.τ)) (cs:List Value):Prop:=
 cs.length=l.length∧∀ (j:Nat) c u,l[j]?=some c→cs[j]?=some u→PC P U w (IW w) c u
theorem ba0.append {w:World} {a b:List (CV U.τ)} {x y:List Value} (h:ba0 P U w a x) (k:ba0 P U w b y):ba0 P U w (a++b) (x++y):=by
 refine ⟨by simp [h.1,k.1],fun j c u hc hu=>?_⟩
 rw [List.getElem?_append] at hc hu
 rw [h.1] at hu
 split at hc
 ·rename_i hlt
  rw [if_pos hlt] at hu
  exact h.2 j c u hc hu
 ·rename_i hge
  rw [if_neg hge] at hu
  exact k.2 _ c u hc hu
def ad6 (P:Program) (U:af0) (g:∀ e,U.τ e→Prop) (t:TypeId) (ks:List FK):Prop:=
 P.cellsOf t=ks.length∧∀ (H:Type) (enc:TypeId × Value→H) (w:World) (spare:Nat→Bool) (held:Bool) (fuel:Nat) (cs:List Value) (d:DataW H) (ps:List MemPlace),
  DataW.trod enc P w 0 spare held fuel t cs=some (d,ps)→(∀ n∈d.weights P t,n≤reachBytes)→∃ x:aM3 U.τ ks,bW3 P g ks x∧ba0 P U w (aV5 false ks x) cs
def aV6 (P:Program) (U:af0) (g:∀ e,U.τ e→Prop) (e:TypeId):Prop:=
 ∀ (H:Type) (enc:TypeId × Value→H) (w:World) (spare:Nat→Bool) (held:Bool) (fuel:Nat) (cs:List Value) (d:DataW H) (ps:List MemPlace),
  DataW.trod enc P w 0 spare held fuel e cs=some (d,ps)→(∀ n∈d.weights P e,n≤reachBytes)→∃ x:U.τ e,g e x∧ba0 P U w (U.enc e x) cs
variable {g:∀ e,U.τ e→Prop}
theorem aV6.of {e:TypeId} {ks:List FK} (h:ad6 P U g e ks) (f:aM3 U.τ ks→U.τ e) (hf:∀ y,U.enc e (f y)=aV5 false ks y) (hg:∀ y,bW3 P g ks y→g e (f y)):aV6 P U g e:=by
 intro H enc w spare held fuel cs d ps hd hs
 obtain ⟨x,h1,h2⟩:=h.2 H enc w spare held fuel cs d ps hd hs
 exact ⟨f x,hg x h1,by rw [hf]; exact h2⟩
theorem bm6 {w:World} {c:CV U.τ} {u:Value} (h:PC P U w (IW w) c u):ba0 P U w [c] [u]:=by
 refine ⟨rfl,fun j c' u' hc hu=>?_⟩
 cases j with
 | zero=>injection hc with hc; injection hu with hu; subst hc; subst hu; exact h
 | succ j=>cases hc
theorem ad6.int {t:TypeId} {k:IntKind} (ht:P.underlying t=some (.int k)) (hc:P.cellsOf t=1):ad6 P U g t [.int k]:=
 ⟨hc,fun H enc w spare held fuel cs d ps h _=>by
  obtain ⟨n,rfl,_,hw⟩:=DataW.trod_int ht h
  have:=(Lit.wf_int_iff k n).1 hw
  exact ⟨(n,()),⟨this,trivial⟩,bm6 (.int k n this)⟩⟩
theorem ad6.bool {t:TypeId} (ht:P.underlying t=some .bool) (hc:P.cellsOf t=1):ad6 P U g t [.bool]:=
 ⟨hc,fun H enc w spare held fuel cs d ps h _=>by
  obtain ⟨b,rfl,_⟩:=DataW.trod_bool ht h
  exact ⟨(b,()),⟨trivial,trivial⟩,bm6 (.bool b)⟩⟩
theorem ad6.str {t:TypeId} (ht:P.underlying t=some .string) (hc:P.cellsOf t=1):ad6 P U g t [.str]:=
 ⟨hc,fun H enc w spare held fuel cs d ps h hs=>by
  obtain ⟨s,rfl,hx,_⟩:=DataW.trod_string ht h
  injection hx with hd _
  subst hd
  have h1:s.data.toList.length≤140737488351232:=hs s.data.toList.length (by simp [DataW.weights])
  exact ⟨(s.data.toList,()),⟨h1,trivial⟩,bm6 (.str s.data.toList (by unfold ae3; omega))⟩⟩
theorem er7 {α:Type} {p:Nat→α→Prop} (n:Nat) (h:∀ i,i < n→∃ x,p i x):∃ l:List α,l.length=n∧∀ i x,l[i]?=some x→p i x:=by
 induction n with
 | zero=>exact ⟨[],rfl,fun i x h=>by simp at h⟩
 | succ n ih=>
  obtain ⟨l,hl,hp⟩:=ih (fun i hi=>h i (by omega))
  obtain ⟨x,hx⟩:=h n (by omega)
  refine ⟨l++[x],by simp [hl],fun i y hy=>?_⟩
  rcases Nat.lt_trichotomy i n with hi | hi | hi
  ·exact hp i y (by rw [List.getElem?_append_left (by omega)] at hy; exact hy)
  ·subst hi
   rw [List.getElem?_append_right (by omega),hl] at hy
   simp at hy
   subst hy
   exact hx
  ·rw [List.getElem?_eq_none (by simp; omega)] at hy
   cases hy
theorem bp6 {H:Type} {P:Program} {e:TypeId}:∀ {ds:List (DataW H)} {j:Nat} {d:DataW H},ds[j]?=some d→∀ n∈d.weights P e,n∈DataW.weightsAll P e ds
 | d0::ds,0,d,hd,n,hn=>by
  simp only [List.getElem?_cons_zero,Option.some.injEq] at hd
  subst hd
  simp only [DataW.weightsAll,List.mem_append]
  exact Or.inl hn
 | d0::ds,j+1,d,hd,n,hn=>by
  simp only [List.getElem?_cons_succ] at hd
  simp only [DataW.weightsAll,List.mem_append]
  exact Or.inr (bp6 hd n hn)
 | [],_,_,hd,_,_=>by simp at hd
theorem ec2 {H:Type} {enc:TypeId × Value→H} {w:World} {spare:Nat→Bool} {held:Bool} {fuel:Nat} {cs:List Value} {d:DataW H} {ps:List MemPlace} {α:Type} {t e:TypeId} (f:α→List (CV U.τ)) (p:α→Prop)
  (ht:P.underlying t=some (.slice e)) (hz:∀ x,p x→(f x).length=P.cellsOf e) (hz1:1≤P.cellsOf e)
  (he:∀ (n:Nat) (cs:List Value) (d:DataW H) (ps:List MemPlace),DataW.trod enc P w 0 spare held n e cs=some (d,ps)→(∀ n∈d.weights P e,n≤reachBytes)→∃ x:α,p x∧ba0 P U w (f x) cs)
  (h:DataW.trod enc P w 0 spare held fuel t cs=some (d,ps)) (hs:∀ n∈d.weights P t,n≤reachBytes) :
  ∃ xs:List α,(xs.length * P.bytesOf e≤140737488351232)∧(∀ x∈xs,p x)∧∀ c:CV U.τ,cont c=some (e,xs.map f,.ro)→∃ u,cs=[u]∧PC P U w (IW w) c u:=by
 rcases Deep.open_slice ht h with ⟨rfl,hx⟩ | ⟨a,len,cap,m,n,D,Pl,rfl,_,hl,hm,hmm,hx,hel⟩
 ·exact ⟨[],by simp,fun x hx=>by simp at hx,fun c hc=>⟨_,rfl,.nil c e .ro hc (by simp)⟩⟩
 ·injection hx with hd _
  subst hd
  have hlm:len≤m:=by
   rw [hmm]
   split <;> omega
  obtain ⟨xs,hxl,hxp⟩:=er7 (p:=fun i x=>∃ cs',w.cells? 0 (a.add (i * P.cellsOf e)) (P.cellsOf e)=some cs'∧p x∧ba0 P U w (f x) cs') len (fun i hi=>by
   obtain ⟨cs',h1,h2⟩:=hel i (by omega)
   obtain ⟨x,h3,h4⟩:=he n cs' _ _ h2 (fun n hn=>hs n (by
    simp only [DataW.weights,ht]
    refine List.mem_cons_of_mem _ (List.mem_append_left _ (bp6 (j:=i) ?_ n hn))
    simp [hi]))
   exact ⟨x,cs',h1,h3,h4⟩)
  refine ⟨xs,?_,fun x hx=>?_,fun c hc=>⟨_,rfl,?_⟩⟩
  ·have:=hs ((len+(m - len)) * P.bytesOf e) (by simp [DataW.weights,ht])
   have h5:xs.length * P.bytesOf e≤(len+(m - len)) * P.bytesOf e:=Nat.mul_le_mul_right _ (by omega)
   exact Nat.le_trans h5 this
  ·obtain ⟨j,hj⟩:=List.mem_iff_getElem?.1 hx
   obtain ⟨_,_,h4,_⟩:=hxp j x hj
   exact h4
  ·by_cases hne:xs=[]
   ·subst hne
    have:len=0:=hxl.symm
    subst this
    exact .emp c e a cap hc
   ·have hlen:(xs.map f).length=len:=by simp [hxl]
    have hpos:0 < len:=by rw [← hxl]; exact List.length_pos_iff.2 hne
    have hcell:∀ (i:Nat) (x:α) (j:Nat) (y:CV U.τ),xs[i]?=some x→(f x)[j]?=some y→∃ u,w.cell? (a.add (i * P.cellsOf e+j))=some u∧PC P U w (IW w) y u:=fun i x j y hi hj=>by
     obtain ⟨cs',h1,h2,h3⟩:=hxp i x hi
     have hjl:j < (f x).length:=(List.getElem?_eq_some_iff.1 hj).1
     have hjc:j < cs'.length:=by rw [h3.1]; exact hjl
     have hu:cs'[j]?=some (cs'[j]'hjc):=List.getElem?_eq_getElem hjc
     refine ⟨_,?_,h3.2 j y _ hj hu⟩
     have:=(World.cells?_some h1).2.2 j (by rw [← hz x h2]; exact hjl)
     rw [Deep.add_add,hu] at this
     exact this
    have hspot:a.spot=none:=by
     cases xs with
     | nil=>exact absurd rfl hne
     | cons x xs=>
      obtain ⟨_,_,h2,_⟩:=hxp 0 x rfl
      have hf:=hz x h2
      obtain ⟨y,hy⟩:∃ y,(f x)[0]?=some y:=⟨_,List.getElem?_eq_getElem (by omega)⟩
      obtain ⟨u,hu,_⟩:=hcell 0 x 0 y rfl hy
      have e0:a.add (0 * P.cellsOf e+0)=a:=by simp [Addr.add]
      rw [e0] at hu
      cases hsp:a.spot with
      | none=>rfl
      | some q=>
       unfold World.cell? at hu
       split at hu
       ·rw [hsp] at hu; simp at hu
       ·cases hu
    obtain ⟨b,off,sp⟩:=a
    simp only at hspot
    subst hspot
    have hmx:(len:Int)≤ae3:=by unfold ae3; unfold maxLen at hm; omega
    have key:=PC.of_cont (P:=P) (U:=U) (w:=w) (I:=IW w) (b:=b) (off:=off) (cap:=cap) hc (by simp) (by rw [hlen]; exact hl) (by simp) (by rw [hlen]; exact hmx)
     ⟨fun i l hi=>by
      rw [List.getElem?_map] at hi
      cases hxi:xs[i]? with
      | none=>rw [hxi] at hi; cases hi
      | some x=>rw [hxi] at hi; injection hi with hi; subst hi; obtain ⟨_,_,h2,_⟩:=hxp i x hxi; exact hz x h2,
     fun i l j y hi hj=>by
      rw [List.getElem?_map] at hi
      cases hxi:xs[i]? with
      | none=>rw [hxi] at hi; cases hi
      | some x=>
       rw [hxi] at hi; injection hi with hi; subst hi
       obtain ⟨u,hu,_⟩:=hcell i x j y hxi hj
       rw [Addr.add_none,← Nat.add_assoc] at hu
       show (w.cell? _).isSome=true
       rw [hu]; rfl,
     fun i l j y hi hj=>by
      rw [List.getElem?_map] at hi
      cases hxi:xs[i]? with
      | none=>rw [hxi] at hi; cases hi
      | some x=>
       rw [hxi] at hi; injection hi with hi; subst hi
       obtain ⟨u,hu,hp⟩:=hcell i x j y hxi hj
       rw [Addr.add_none,← Nat.add_assoc] at hu
       exact ⟨u,hu,hp⟩⟩
    rw [hlen] at key
    exact key
theorem ad6.slice {t e:TypeId} (ht:P.underlying t=some (.slice e)) (hc:P.cellsOf t=1) (hz:∀ x:U.τ e,(U.enc e x).length=P.cellsOf e) (hz1:1≤P.cellsOf e) (he:aV6 P U g e):ad6 P U g t [.sl e]:=
 ⟨hc,fun H enc w spare held fuel cs d ps h hs=>by
  obtain ⟨xs,h1,h2,h3⟩:=ec2 (U.enc e) (g e) ht (fun x _=>hz x) hz1 (fun n cs d ps a b=>he H enc w spare held n cs d ps a b) h hs
  obtain ⟨u,rfl,h4⟩:=h3 (.sl e xs .ro) rfl
  exact ⟨(xs,()),⟨⟨h1,h2⟩,trivial⟩,bm6 h4⟩⟩
theorem ad6.bytes {t e:TypeId} (ht:P.underlying t=some (.slice e)) (hc:P.cellsOf t=1) (hu:P.underlying e=some (.int .u8)) (hz:P.cellsOf e=1):ad6 P U g t [.bs e]:=
 ⟨hc,fun H enc w spare held fuel cs d ps h hs=>by
  obtain ⟨xs,h1,h2,h3⟩:=ec2 (U:=U) (fun b:UInt8=>[.int .u8 b.toNat]) (fun _:UInt8=>True) ht (fun x _=>by rw [hz]; rfl) (by omega) (fun n cs d ps a b=>by
   obtain ⟨n,rfl,_,hw⟩:=DataW.trod_int hu a
   have hw:=(Lit.wf_int_iff .u8 n).1 hw
   have h5:IntKind.u8.min=0:=by decide
   have h6:IntKind.u8.max=255:=by decide
   refine ⟨UInt8.ofNat n.toNat,trivial,bm6 ?_⟩
   have:((UInt8.ofNat n.toNat).toNat:Int)=n:=by
    have h7:(UInt8.ofNat n.toNat).toNat=n.toNat % 256:=by simp
    rw [h7]
    omega
   show PC P U w (IW w) (CV.int .u8 ((UInt8.ofNat n.toNat).toNat:Int)) (.int .u8 n)
   rw [this]
   exact .int _ _ hw) h hs
  obtain ⟨u,rfl,h4⟩:=h3 (.bs e xs .ro) rfl
  exact ⟨(xs,()),⟨h1,trivial⟩,bm6 h4⟩⟩
def af4 (P:Program) (U:af0) (g:∀ e,U.τ e→Prop) (fs:Array Field) (i off:Nat) (ks:List FK):Prop:=
 ∀ (H:Type) (enc:TypeId × Value→H) (w:World) (spare:Nat→Bool) (held:Bool) (n:Nat) (cs:List Value) (xs:List (DataW H × List MemPlace)),
  (∀ (j:Nat) (f:Field),fs[j]?=some f→DataW.trod enc P w 0 spare held n f.type ((cs.drop f.offset).take (P.cellsOf f.type))=xs[j]?)→xs.length=fs.size→
  (∀ (j:Nat) (f:Field) (y:DataW H × List MemPlace),fs[j]?=some f→xs[j]?=some y→∀ m∈y.1.weights P f.type,m≤reachBytes)→∃ x:aM3 U.τ ks,bW3 P g ks x∧ba0 P U w (aV5 false ks x) ((cs.drop off).take ks.length)
theorem af4.nil {fs:Array Field} {i off:Nat}:af4 P U g fs i off []:=fun H enc w spare held n cs xs hx hl hs=>⟨(),trivial,by simp [aV5,ba0]⟩
theorem af4.cons {fs:Array Field} {i off off2:Nat} {a b:List FK} (f:Field) (hf:fs[i]?=some f) (ho:f.offset=off) (h:ad6 P U g f.type a) (ho2:off2=off+a.length)
  (hb:af4 P U g fs (i+1) off2 b):af4 P U g fs i off (a++b):=by
 intro H enc w spare held n cs xs hx hl hs
 have hi:i < fs.size:=(Array.getElem?_eq_some_iff.1 hf).1
 have hy:xs[i]?=some xs[i]:=List.getElem?_eq_getElem (by omega)
 have ht:=hx i f hf
 rw [hy] at ht
 obtain ⟨x,h1,h2⟩:=h.2 H enc w spare held n _ _ _ ht (hs i f _ hf hy)
 obtain ⟨y,h3,h4⟩:=hb H enc w spare held n cs xs hx hl hs
 refine ⟨dw0 a b x y,cF6 a b x y h1 h3,?_⟩
 rw [cT8,List.length_append,List.take_add,List.drop_drop,← ho2]
 rw [h.1,ho] at h2
 exact h2.append h4
theorem ad6.struct {t:TypeId} {fs:Array Field} {ks:List FK} (ht:P.underlying t=some (.struct fs)) (hc:P.cellsOf t=ks.length) (h:af4 P U g fs 0 0 ks):ad6 P U g t ks:=
 ⟨hc,fun H enc w spare held fuel cs d ps hd hs=>by
  obtain ⟨xs,n,rfl,hx,hl,hxl,hel⟩:=DataW.trod_struct ht hd
  injection hx with hx1 _
  subst hx1
  obtain ⟨x,h1,h2⟩:=h H enc w spare held n cs xs hel hxl (fun j f y hf hy m hm=>hs m (by
   simp only [DataW.weights,ht]
   refine DataW.weights_mem_each (j:=j) (t:=f.type) (d:=y.1) ?_ ?_ m hm
   ·simp only [List.getElem?_map,Array.getElem?_toList,hf,Option.map_some]
   ·simp only [List.getElem?_map,hy,Option.map_some]))
  refine ⟨x,h1,?_⟩
  have e:(cs.drop 0).take ks.length=cs:=by
   rw [List.drop_zero]
   exact List.take_of_length_le (by omega)
  rw [e] at h2
  exact h2⟩
def cy1 (P:Program) (U:af0) (g:∀ e,U.τ e→Prop) (m i:Nat) (e:TypeId) (ks:List FK):Prop:=
 ∀ (H:Type) (enc:TypeId × Value→H) (w:World) (spare:Nat→Bool) (held:Bool) (n:Nat) (cs:List Value) (xs:List (DataW H × List MemPlace)),
  (∀ j,j < m→DataW.trod enc P w 0 spare held n e ((cs.drop (j * P.cellsOf e)).take (P.cellsOf e))=xs[j]?)→xs.length=m→
  (∀ (j:Nat) (y:DataW H × List MemPlace),xs[j]?=some y→∀ m∈y.1.weights P e,m≤reachBytes)→∃ x:aM3 U.τ ks,bW3 P g ks x∧ba0 P U w (aV5 false ks x) ((cs.drop (i * P.cellsOf e)).take ks.length)
theorem cy1.nil {m i:Nat} {e:TypeId}:cy1 P U g m i e []:=fun H enc w spare held n cs xs hx hl hs=>⟨(),trivial,by simp [aV5,ba0]⟩
theorem cy1.cons {m i:Nat} {e:TypeId} {a b:List FK} (hi:i < m) (h:ad6 P U g e a) (hb:cy1 P U g m (i+1) e b):cy1 P U g m i e (a++b):=by
 intro H enc w spare held n cs xs hx hl hs
 have hy:xs[i]?=some xs[i]:=List.getElem?_eq_getElem (by omega)
 have ht:=hx i hi
 rw [hy] at ht
 obtain ⟨x,h1,h2⟩:=h.2 H enc w spare held n _ _ _ ht (hs i _ hy)
 obtain ⟨y,h3,h4⟩:=hb H enc w spare held n cs xs hx hl hs
 refine ⟨dw0 a b x y,cF6 a b x y h1 h3,?_⟩
 rw [cT8,List.length_append,List.take_add,List.drop_drop,← h.1]
 rw [Nat.add_mul,Nat.one_mul] at h4
 exact h2.append h4
theorem ad6.array {t e:TypeId} {m:Nat} {ks:List FK} (ht:P.underlying t=some (.array m e)) (hc:P.cellsOf t=ks.length) (h:cy1 P U g m 0 e ks):ad6 P U g t ks:=
 ⟨hc,fun H enc w spare held fuel cs d ps hd hs=>by
  obtain ⟨xs,n,rfl,hx,hl,hxl,hel⟩:=DataW.trod_array ht hd
  injection hx with hx1 _
  subst hx1
  obtain ⟨x,h1,h2⟩:=h H enc w spare held n cs xs hel hxl (fun j y hy m hm=>hs m (by
   simp only [DataW.weights,ht]
   refine bp6 (j:=j) (d:=y.1) ?_ m hm
   simp only [List.getElem?_map,hy,Option.map_some]))
  refine ⟨x,h1,?_⟩
  have e:(cs.drop (0 * P.cellsOf e)).take ks.length=cs:=by
   rw [Nat.zero_mul,List.drop_zero]
   exact List.take_of_length_le (by omega)
  rw [e] at h2
  exact h2⟩
theorem eA0 {H:Type} {P:Program} {ts:List TypeId} {ds:List (DataW H)} (hsz:(DataW.weightsEach P ts ds).all (·≤reachBytes)=true) {j:Nat} {t:TypeId} {d:DataW H} (ht:ts[j]?=some t) (hd:ds[j]?=some d):∀ n∈d.weights P t,n≤reachBytes:=
 fun n hn=>by simpa using List.all_eq_true.1 hsz _ (DataW.weights_mem_each ht hd n hn)
def eZ4 (P:Program) (t:TypeId):Bool:=
 match P.underlying t with
 | some (.struct _)=>true
 | some (.array _ _)=>true
 | _=>false
theorem eJ7 {T:Ty U.τ} {t:TypeId} (h:ad6 P U g t T.ks) (ha:eZ4 P t=T.agg) {H:Type} {enc:TypeId × Value→H} {w:World} {base:Nat} {spare:Nat→Bool} {held:Bool} {v:Value} {d:DataW H} {ps:List MemPlace} (hok:Value.okWide P w .any base t v)
  (hd:DataW.Trod enc P w 0 spare held t v d ps) (hs:∀ n∈d.weights P t,n≤reachBytes):∃ x:T.α,(∃ y,x=T.of y∧bW3 P g T.ks y)∧am1 P U w (IW w) T.agg (T.enc false x) v:=by
 obtain ⟨fuel,hd⟩:=hd
 obtain ⟨y,h1,h2,h3⟩:=h.2 H enc w spare held fuel _ d ps hd hs
 refine ⟨T.of y,⟨y,rfl,h1⟩,?_⟩
 have he:T.enc false (T.of y)=aV5 false T.ks y:=by unfold Ty.enc; rw [T.ok]
 rw [he]
 unfold Value.okWide at hok
 unfold eZ4 at ha
 have row:∀ cs:Array Value,v=.agg cs→T.agg=true→am1 P U w (IW w) T.agg (aV5 false T.ks y) v:=fun cs hv hT=>by
  subst hv
  rw [hT]
  have hc:(Value.agg cs).cells.toList=cs.toList:=rfl
  rw [hc] at h2 h3
  refine ⟨cs,rfl,by simpa using h2,fun j c hj=>?_⟩
  have hjl:j < cs.toList.length:=by rw [h2]; exact (List.getElem?_eq_some_iff.1 hj).1
  have hu:cs.toList[j]?=some (cs.toList[j]'hjl):=List.getElem?_eq_getElem hjl
  exact ⟨_,by rw [← Array.getElem?_toList]; exact hu,h3 j c _ hj hu⟩
 have one:(∀ cs:Array Value,v≠.agg cs)→(∀ cs:Array Value,v≠.tuple cs)→T.agg=false→am1 P U w (IW w) T.agg (aV5 false T.ks y) v:=fun hv hv2 hT=>by
  rw [hT]
  have hc:v.cells.toList=[v]:=by cases v <;> first | rfl | exact absurd rfl (hv _) | exact absurd rfl (hv2 _)
  rw [hc] at h2 h3
  match hl:aV5 false T.ks y,h2,h3 with
  | [c],_,h3=>exact ⟨c,rfl,h3 0 c v rfl rfl⟩
  | [],h2,_=>exact absurd h2 (by simp)
  | _::_::_,h2,_=>exact absurd h2 (by simp)
 cases hu:P.underlying t with
 | none=>rw [hu] at hok; simp [Cell.okWide,Cell.ok,hu] at hok
 | some d0=>
  rw [hu] at hok ha
  cases d0 with
  | struct fs=>obtain ⟨cs,hv,_⟩:=hok; exact row cs hv ha.symm
  | array m e=>obtain ⟨cs,hv,_⟩:=hok; exact row cs hv ha.symm
  | _=>exact one (fun cs hv=>by subst hv; simp [Cell.okWide,Cell.ok,hu] at hok) (fun cs hv=>by subst hv; simp [Cell.okWide,Cell.ok,hu] at hok) ha.symm
theorem eA1 {e:Ent U} (he:ax8 P U e) {T:Ty U.τ} {x:e.sig.A} {vs:List Value} {w:World} {r:e.sig.B} (hr:e.G x=some r) (ho:e.sig.out r=⟨.one (.bool true),[]⟩) (ha:aj7 P U w (IW w) (fun _=>none) (fun _=>(0,0)) (ar2 e.sig.ps x) vs 0) (henv:U.env w) (hnb:U.nb≤w.heap.size) :
  Calls P e.f vs.toArray w fun ed w'=>ed=.returned (.bool true)∧Below w.heap.size w w':=by
 obtain ⟨_,h2⟩:=he x r hr
 refine (h2 ⟨IW w,fun _=>(0,0),fun _=>none⟩ w vs ha (fun b o h=>h) (fun b L h=>by cases h) ⟨henv,hnb,fun _ _=>rfl⟩).mono fun ed w' hh=>?_
 obtain ⟨u,G',h3,h4,h5,_⟩:=hh
 rw [ho] at h5
 have h6:u=.bool true:=PC.of_bool h5
 subst h6
 exact ⟨h3,h4.os,h4.tape,h4.output,h4.size,fun k hk=>h4.old k hk rfl⟩
end
end Go.VI
namespace Go.VI
open Go Go.RowKit Go.ChangeShapes Go.WideShapes
section
variable {P:Program} {U:af0}
noncomputable def eR3 (P:Program) (fn:Func) (m:Nat) (s:Sig U.τ):St U→Option s.B:=fun st=>match de4 P fn.results.toList m st with | some o=>s.decOut o | none=>none
theorem ar0 {f:Nat} {fn:Func} (hf:P.funcs[f]?=some fn) (h:(fn.name== "runtime.NumGoroutine")=false) (hb:fn.body.isNone=false):∀ (vs:Array Value) w,(callFunc f vs).run P w=.ok (.enter f vs) w:=by
 intro vs w
 have h1:¬fn.name= "runtime.NumGoroutine" := by simpa using h
 have h2:¬fn.body=none:=fun he=>by rw [he] at hb; cases hb
 simp [callFunc,hf,h1,h2]
theorem er8 {f:Nat} {s:Sig U.τ} {G:s.A→Option s.B} (he:ax8 P U ⟨f,s,G⟩) {x:s.A} {vs:List Value} {w:World} {r:s.B} (hr:G x=some r) (ho:s.out r=⟨.one (.bool true),[]⟩) (ha:aj7 P U w (IW w) (fun _=>none) (fun _=>(0,0)) (ar2 s.ps x) vs 0) (henv:U.env w) (hnb:U.nb≤w.heap.size) :
  Calls P f vs.toArray w fun ed w'=>ed=.returned (.bool true)∧Below w.heap.size w w':=by
 exact eA1 (e:=⟨f,s,G⟩) he (T:=⟨Bool,false,[.bool],fun x=>(x,()),fun y=>y.1,fun _=>rfl,.inr ⟨_,rfl⟩⟩) hr ho ha henv hnb
end
end Go.VI
namespace Go.VI
open Go Go.RowKit Go.ChangeShapes Go.WideShapes
section
variable {P:Program} {U:af0}
theorem eZ5 {f:Nat} {as:List (Arg U.τ)} {out:AV U.τ} (hc:∀ (vs:Array Value) w,(callFunc f vs).run P w=.ok (.enter f vs) w) (hp:ah5 as=[])
  (h:∀ (G0:ab7) (w:World) (vs:List Value),aj7 P U w G0.I G0.who G0.loc as vs 0→de5 U G0 w→
   Calls P f vs.toArray w fun e w'=>∃ u,e=.returned u∧Below w.heap.size w w'∧∃ J:Nat→Nat→Prop,(∀ b o,J b o→w.heap.size≤b∧(w'.cell? ⟨b,o,none⟩).isSome=true)∧aZ6 P U w' (fun b o=>G0.I b o∨J b o) out u):aI4 P U f as ⟨out,[]⟩:=by
 refine ⟨hc,fun G0 w vs ha hi hw henv=>(h G0 w vs ha henv).mono fun e w' hh=>?_⟩
 obtain ⟨u,he,hb,J,hJ,hr⟩:=hh
 have hcell:∀ b o,G0.I b o→w'.cell? ⟨b,o,none⟩=w.cell? ⟨b,o,none⟩:=fun b o hI=>by
  obtain ⟨v,hv⟩:=Option.isSome_iff_exists.1 (hi b o hI)
  exact hb.cell (p:=⟨b,o,none⟩) (World.block_lt_of_cell? w _ hv)
 refine ⟨u,⟨fun b o=>G0.I b o∨J b o,G0.loc,G0.who⟩,he,?_,hr,by rw [hp],fun j cs hj=>by simp at hj,fun j cs hj=>by rw [hp] at hj; simp at hj,fun b o hI=>?_,fun b L hL=>Nat.lt_of_lt_of_le (hw b L hL) hb.size⟩
 ·exact ⟨hb.os,hb.tape,hb.output,hb.size,fun b hlt _=>hb.block b hlt,fun b o hI=>⟨.inl hI,hcell b o hI⟩,fun b o hI=>by
   rcases hI with hI | hI
   ·exact .inl hI
   ·exact .inr (.inl (hJ b o hI).1),fun b L hL=>.inr (by rw [hL]; rfl)⟩
 ·rcases hI with hI | hI
  ·show (w'.cell? ⟨b,o,none⟩).isSome=true
   rw [hcell b o hI]; exact hi b o hI
  ·exact (hJ b o hI).2
end
end Go.VI
namespace Go.VI
open Go Go.RowKit Go.ChangeShapes Go.WideShapes
section
variable {P:Program} {U:af0}
theorem er9 {w:World} {I:Nat→Nat→Prop} {who:Nat→Option (Nat × Option Nat)} {L:Nat × Option Nat} {k:IntKind} {n:Int} {u:Value} (h:af3 P U w I who L (.int k n) u):u=.int k n∧k.has n:=by
 rcases h with h | ⟨e,css,hc,_⟩
 ·cases h with
  | int _ _ hk=>exact ⟨rfl,hk⟩
  | nil _ e f h1 h2=>cases h1
  | emp _ e p cap h1=>cases h1
  | row _ e css f b off cap h1=>cases h1
 ·cases hc
theorem ca8 {f:Nat} {k:IntKind} {n n':Int} {rest:List (Arg U.τ)} {ret:AV U.τ} (hc:∀ (vs:Array Value) w,(callFunc f vs).run P w=.ok (.enter f vs) w) (hp:ah5 rest=[]) (hn:n'=n∨k.has n')
  (h:∀ (G0:ab7) (w:World) (b o:Nat) (vs:List Value),aj7 P U w G0.I G0.who G0.loc rest vs 1→k.has n→w.cell? ⟨b,o,none⟩=some (.int k n)→w.frozen? ⟨b,o,none⟩=false→
   Calls P f (Value.pointer (some ⟨b,o,none⟩)::vs).toArray w fun e w'=>∃ u,e=.returned u∧(∀ w2 I,aZ6 P U w2 I ret u)∧∃ w1,w1.heap=w.heap∧w1.os=w.os∧w1.tape=w.tape∧w1.output=w.output∧(w'=w1.setCell ⟨b,o,none⟩ (.int k n')∨(w'=w1∧n'=n))) :
  aI4 P U f (.ptr [.int k n]::rest) ⟨ret,[[.int k n']]⟩:=by
 refine ⟨hc,fun G0 w vs ha hi hw henv=>?_⟩
 cases ha with
 | ptr cs as us j hbx hrest=>
  obtain ⟨b,o,hbo⟩:∃ b o,G0.loc (aa6+0)=(b,o):=⟨_,_,rfl⟩
  rw [hbo] at hbx
  rw [hbo]
  obtain ⟨c,T,fz,h1,h2,h3,h4⟩:=hbx.row
  obtain ⟨u0,hu0,hk0⟩:=h4 0 _ rfl
  obtain ⟨e0,hkn⟩:=er9 hk0
  subst e0
  have hn:k.has n':=hn.elim (fun e=>by rw [e]; exact hkn) id
  simp only [Nat.add_zero,List.length_cons,List.length_nil,Nat.zero_add] at h1 h2 hu0
  have hcell:w.cell? ⟨b,o,none⟩=some (.int k n):=by simp [World.cell?,h1,hu0]
  have hfz:w.frozen? ⟨b,o,none⟩=false:=by
   simp only [World.frozen?,h1]
   cases hx:(decide (fz.1≤o) && decide (o < fz.2)) with
   | false=>rfl
   | true=>
    simp only [Bool.and_eq_true,decide_eq_true_eq] at hx
    have:=h3 o hx.1 hx.2
    omega
  refine (h G0 w b o us hrest hkn hcell hfz).mono fun e w' hh=>?_
  obtain ⟨u,he,hr,w1,k1,k2,k3,k4,k5⟩:=hh
  have hos:w'.os=w.os∧w'.tape=w.tape∧w'.output=w.output∧w'.heap.size=w.heap.size∧(∀ b',b'≠b→w'.heap[b']?=w.heap[b']?)∧∃ c',w'.heap[b]?=some (.cells c' T fz)∧c'.size=c.size∧c'[o]?=some (.int k n')∧∀ i,i≠o→c'[i]?=c[i]?:=by
   have h1':w1.heap[b]?=some (.cells c T fz):=by rw [k1]; exact h1
   rcases k5 with rfl | ⟨rfl,rfl⟩
   ·refine ⟨k2,k3,k4,by rw [World.size_setCell,k1],fun b' hb=>?_,c.setIfInBounds o (.int k n'),?_,by simp,?_,fun i hio=>?_⟩
    ·simp only [World.setCell,Array.getElem?_modify]
     rw [if_neg (Ne.symm hb),k1]
    ·simp [World.setCell,Array.getElem?_modify,h1']
    ·rw [Array.getElem?_setIfInBounds,if_pos rfl,if_pos (by omega)]
    ·rw [Array.getElem?_setIfInBounds,if_neg (Ne.symm hio)]
   ·exact ⟨k2,k3,k4,by rw [k1],fun b' _=>by rw [k1],c,h1',rfl,hu0,fun _ _=>rfl⟩
  obtain ⟨o1,o2,o3,o4,o5,c',o6,o7,o8,o9⟩:=hos
  have hcellN:∀ b' o',(b'≠b∨o'≠o)→w'.cell? ⟨b',o',none⟩=w.cell? ⟨b',o',none⟩:=fun b' o' hne=>by
   by_cases hb:b'=b
   ·subst hb
    have:o'≠o:=hne.resolve_left (fun h=>h rfl)
    simp [World.cell?,o6,h1,o9 o' this]
   ·simp [World.cell?,o5 b' hb]
  have hI:∀ b' o',G0.I b' o'→w'.cell? ⟨b',o',none⟩=w.cell? ⟨b',o',none⟩:=fun b' o' h=>hcellN b' o' (.inl (fun e=>by rw [e] at h; exact hbx.himm o' h))
  refine ⟨u,G0,he,⟨o1,o2,o3,Nat.le_of_eq o4.symm,fun b' _ hwn=>o5 b' (fun e=>by rw [e,hbx.hwho] at hwn; cases hwn),fun b' o' h=>⟨h,hI b' o' h⟩,fun b' o' h=>.inl h,fun b' L h=>.inr (by rw [h]; rfl)⟩,hr _ _,by simp [ah5,hp],?_,?_,?_,?_⟩
  ·intro j cs hj
   cases j with
   | zero=>
    have hj:some [CV.int k n']=some cs:=hj
    injection hj with hj
    subst hj
    rw [hbo]
    refine ⟨hbx.hwho,hbx.himm,c',T,fz,o6,by simp; omega,by rw [o7]; exact h3,fun i x hx=>?_⟩
    cases i with
    | zero=>
     have hx:some (CV.int k n')=some x:=hx
     injection hx with hx
     subst hx
     exact ⟨_,by simpa using o8,.inl (.int k n' hn)⟩
    | succ i=>simp at hx
   | succ j=>simp at hj
  ·intro j cs hj
   cases j with
   | zero=>
    have hj:some [CV.int k n]=some cs:=hj
    injection hj with hj
    subst hj
    rw [hbo]
    refine ⟨⟨_,rfl,rfl⟩,fun o' ho'=>hcellN b o' (.inr ?_)⟩
    simp at ho'
    omega
   | succ j=>simp [ah5,hp] at hj
  ·intro b' o' h
   rw [hI b' o' h]; exact hi b' o' h
  ·intro b' L h
   rw [o4]; exact hw b' L h
end
end Go.VI
