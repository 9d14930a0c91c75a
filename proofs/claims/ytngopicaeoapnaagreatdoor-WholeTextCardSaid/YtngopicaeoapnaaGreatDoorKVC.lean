import Derived.Test.YtngopicaeoapnaaGreatDoorKVB
import Derived.Deep.Slices
import Derived.Carry
import Derived.SizedLaws
import Derived.WideShapes
import Derived.DataReads
import Derived.OpenShut
import Derived.Below
import Derived.DataShut
set_option linter.unusedVariables false
set_option linter.unusedSimpArgs false
namespace Go.VI
open Go
abbrev Bs (U:ad6):=List (Nat × Nat × List (CV U.τ))
section
variable {P:Program} {U:ad6} {N:Nat} {L0:Nat→Nat} {G0:ab7} {w0:World} {G:ab7} {σ:ac0 U} {a:Act} {w:World} {o:Oper} {adv:Adv}
theorem aU5 (t:Nat):∀ l:List Nat,ao2 t l=true↔t∈l
 | []=>by simp [ao2]
 | s::r=>by
  simp only [ao2]
  by_cases h:t=s
  ·subst h; simp
  ·rw [aQ6 h]; simp [aU5 t r,h]
theorem dc7 (r:R P U N L0 G0 w0 G σ a w):∀ (l:List (TypeId × Operand)) {k:List (Arg U.τ)→Bs U→ac6 U} {rd:List Nat} {ws:List (Nat × AV U.τ)},aa5 P U σ (cR9 P l k) rd ws→
  ∃ as bs rd',aa5 P U σ (k as bs) rd' ws∧(bs.map (·.1)).Nodup∧(af8 as).length=bs.length∧(∀ q∈bs,σ q.1=.box q.2.2)∧
   (∀ (m:Nat) q l,bs[m]?=some q→(af8 as)[m]?=some l→q.2.1+l.length≤q.2.2.length∧l=(q.2.2.drop q.2.1).take l.length)∧
   ∀ (who:Nat→Option (Nat × Option Nat)) (loc:Nat→Nat × Nat) (j:Nat),
    (∀ (m:Nat) q l,bs[m]?=some q→(af8 as)[m]?=some l→as1 P U w G.I who (aa9+(j+m)) (loc (aa9+(j+m))) l∧loc (aa9+(j+m))=((G.loc q.1).1,(G.loc q.1).2+q.2.1))→
    ag6 P U w G.I who loc as (l.map fun p=>a.eval p.2) j
 | [],k,rd,ws,h=>⟨[],[],rd,h,List.nodup_nil,rfl,fun _ h=>by simp at h,fun _ _ _ h=>by simp at h,fun who loc j _=>.nil j⟩
 | (t,x)::l,k,rd,ws,h=>by
  simp only [cR9] at h
  obtain ⟨v,_,h1,h⟩:=r.opd h
  have val:∀ ag cs rd',cellsOf v=some (ag,cs)→aa5 P U σ (cR9 P l fun as bs=>k (.val ag cs::as) bs) rd' ws→∃ as bs rd',aa5 P U σ (k as bs) rd' ws∧(bs.map (·.1)).Nodup∧(af8 as).length=bs.length∧(∀ q∈bs,σ q.1=.box q.2.2)∧
    (∀ (m:Nat) q l,bs[m]?=some q→(af8 as)[m]?=some l→q.2.1+l.length≤q.2.2.length∧l=(q.2.2.drop q.2.1).take l.length)∧
    ∀ (who:Nat→Option (Nat × Option Nat)) (loc:Nat→Nat × Nat) (j:Nat),
     (∀ (m:Nat) q l,bs[m]?=some q→(af8 as)[m]?=some l→as1 P U w G.I who (aa9+(j+m)) (loc (aa9+(j+m))) l∧loc (aa9+(j+m))=((G.loc q.1).1,(G.loc q.1).2+q.2.1))→
     ag6 P U w G.I who loc as (((t,x)::l).map fun p=>a.eval p.2) j:=by
   intro ag cs rd' hc h
   obtain ⟨as,bs,rd',g1,g2,g3,g4,g5,g6⟩:=dc7 r l h
   obtain ⟨t',h3,_⟩:=h1.ok
   exact ⟨_,bs,rd',g1,g2,g3,g4,g5,fun who loc j hh=>.val ag cs _ as _ j (bh1 h3 hc) (g6 who loc j hh)⟩
  cases hv:v with
  | one c=>
   cases hcv:c with
   | ref s off=>
    rw [hv,hcv] at h h1
    obtain ⟨⟨cs,hs⟩,hp⟩:=h1.ref
    obtain ⟨_,h⟩:=h.of_read
    rw [hs] at h
    simp only at h
    split at h
    ·rename_i e hu
     cases hl:aj2 cs off (P.cellsOf e) with
     | none=>rw [hl] at h; exact h.of_fail.elim
     | some l0=>
      rw [hl] at h
      obtain ⟨k1,k2⟩:=aF2 hl
      have hlen:l0.length=P.cellsOf e:=by rw [k2,List.length_take,List.length_drop]; omega
      obtain ⟨as,bs,rd',g1,g2,g3,g4,g5,g6⟩:=dc7 r l h
      obtain ⟨g0,g1⟩:=aa5.of_cond' g1
      have hns:s ∉ bs.map (·.1):=fun hm=>by rw [(aU5 s _).2 hm] at g0; cases g0
      refine ⟨_,_,rd',g1,?_,by simp [af8,g3],?_,?_,?_⟩
      ·simp only [List.map_cons,List.nodup_cons]
       exact ⟨hns,g2⟩
      ·intro q hq
       rcases List.mem_cons.1 hq with rfl | hq
       ·exact hs
       ·exact g4 q hq
      ·intro m q l' hm hl'
       cases m with
       | zero=>
        simp [af8] at hm hl'
        subst hm; subst hl'
        exact ⟨by show off+l0.length≤cs.length; omega,by rw [hlen]; exact k2⟩
       | succ m=>exact g5 m q l' (by simpa using hm) (by simpa [af8] using hl')
      ·intro who loc j hh
       have h0:=hh 0 (s,off,cs) l0 rfl rfl
       rw [Nat.add_zero] at h0
       simp only [List.map_cons]
       have:=ag6.ptr (P:=P) (U:=U) (w:=w) (I:=G.I) (who:=who) (loc:=loc) l0 as (l.map fun p=>a.eval p.2) j h0.1 (g6 who loc (j+1) fun m q l' hm hl'=>by
        have:=hh (m+1) q l' (by simpa using hm) (by simpa [af8] using hl')
        rwa [show j+(m+1)=j+1+m by omega] at this)
       rw [h0.2] at this
       rw [hp]
       exact this
    ·exact h.of_fail.elim
   | _=>
    rw [hv,hcv] at h
    first
    | (simp only [cellsOf] at h; exact h.of_fail.elim)
    | (exact val _ _ _ (by rw [hv,hcv]; rfl) h)
  | agg cs=>rw [hv] at h; exact val _ _ _ (by rw [hv]; rfl) h
  | _=>rw [hv] at h; exact h.of_fail.elim
def cS2 (bs:Bs U) (s:Nat):Option Nat:=bs.findIdx? fun q=>q.1==s
theorem cr4 {bs:Bs U} (h:(bs.map (·.1)).Nodup) {j:Nat} {q:Nat × Nat × List (CV U.τ)} (hj:bs[j]?=some q):cS2 bs q.1=some j:=by
 induction bs generalizing j with
 | nil=>simp at hj
 | cons p bs ih=>
  simp only [List.map_cons,List.nodup_cons] at h
  simp only [cS2,List.findIdx?_cons]
  cases j with
  | zero=>simp at hj; subst hj; simp
  | succ j=>
   simp at hj
   have hm:q∈bs:=List.mem_of_getElem? hj
   have hne:¬p.1=q.1:=fun he=>h.1 (by rw [he]; exact List.mem_map_of_mem hm)
   have:=ih h.2 hj
   simp only [cS2] at this
   simp [hne,this]
theorem eh6 {bs:Bs U} {s j:Nat} (h:cS2 bs s=some j):∃ q,bs[j]?=some q∧q.1=s:=by
 obtain ⟨h1,h2,_⟩:=List.findIdx?_eq_some_iff_getElem.1 h
 exact ⟨bs[j],List.getElem?_eq_getElem h1,by simpa using h2⟩
def az4 (G:ab7) (bs:Bs U) (lens:Nat→Nat) (b:Nat):Option (Nat × Option Nat):=
 match G.who b with
 | some (s,x)=>
  match cS2 bs s with
  | some j=>
   match x with
   | none=>some (aa9+j,none)
   | some i=>if ((bs[j]?.map (·.2.1)).getD 0)≤i∧i < ((bs[j]?.map (·.2.1)).getD 0)+lens j then some (aa9+j,some (i - ((bs[j]?.map (·.2.1)).getD 0))) else none
  | none=>none
 | none=>none
def bD2 (G:ab7) (bs:Bs U) (t:Nat):Nat × Nat:=
 match bs[t - aa9]? with
 | some q=>((G.loc q.1).1,(G.loc q.1).2+q.2.1)
 | none=>(0,0)
def cr5 (G G':ab7) (bs:Bs U) (lens:Nat→Nat) (sz:Nat) (b:Nat):Option (Nat × Option Nat):=
 match G'.who b with
 | some (t,x)=>
  if aa9≤t then
   match bs[t - aa9]? with
   | some q=>match x with
    | none=>some (q.1,none)
    | some i=>some (q.1,some (q.2.1+i))
   | none=>none
  else none
 | none=>if (az4 G bs lens b).isSome then none else if b < sz then G.who b else none
theorem ep7 {G:ab7} {bs:Bs U} {lens:Nat→Nat} {b:Nat} {j:Nat} {q:Nat × Nat × List (CV U.τ)} (hn:(bs.map (·.1)).Nodup) (hj:bs[j]?=some q) (h:G.who b=some (q.1,none)):az4 G bs lens b=some (aa9+j,none):=by
 simp [az4,h,cr4 hn hj]
theorem ep8 {G:ab7} {bs:Bs U} {lens:Nat→Nat} {b i:Nat} {j:Nat} {q:Nat × Nat × List (CV U.τ)} (hn:(bs.map (·.1)).Nodup) (hj:bs[j]?=some q) (h:G.who b=some (q.1,some i)) (h1:q.2.1≤i) (h2:i < q.2.1+lens j) :
  az4 G bs lens b=some (aa9+j,some (i - q.2.1)):=by
 simp [az4,h,cr4 hn hj,hj,h1,h2]
def dN7 (bs:Bs U) (lens:Nat→Nat) (L:Nat × Option Nat):Prop:=
 ∃ (j:Nat) (q:Nat × Nat × List (CV U.τ)),bs[j]?=some q∧L.1=q.1∧∀ i,L.2=some i→q.2.1≤i∧i < q.2.1+lens j
theorem eA9 {G:ab7} {bs:Bs U} {lens:Nat→Nat} {b:Nat} {L:Nat × Option Nat} (h:G.who b=some L) (hL:¬dN7 bs lens L):az4 G bs lens b=none:=by
 obtain ⟨s,x⟩:=L
 simp only [az4,h]
 cases hi:cS2 bs s with
 | none=>rfl
 | some j=>
  obtain ⟨q,hq,hqs⟩:=eh6 hi
  cases x with
  | none=>exact absurd ⟨j,q,hq,hqs.symm,fun i hi=>by cases hi⟩ hL
  | some i=>
   simp only [hq,Option.map_some,Option.getD_some]
   rw [if_neg (fun hh=>hL ⟨j,q,hq,hqs.symm,fun i' hi'=>by injection hi' with hi'; subst hi'; exact hh⟩)]
theorem ce4 {G:ab7} {bs:Bs U} {lens:Nat→Nat} {b:Nat} (h:(az4 G bs lens b).isSome=true):(G.who b).isSome=true:=by
 unfold az4 at h
 cases hw:G.who b with
 | none=>rw [hw] at h; cases h
 | some L=>rfl
theorem ap9 {bs:Bs U} (hn:(bs.map (·.1)).Nodup):∀ {ls:List (List (CV U.τ))},ls.length=bs.length→∀ (σ:ac0 U) (t:Nat),(∀ (j:Nat) q l,bs[j]?=some q→ls[j]?=some l→q.1=t→ad1 σ (aZ9 bs ls) t=.box (setCells q.2.2 q.2.1 l))∧((∀ q∈bs,q.1≠t)→ad1 σ (aZ9 bs ls) t=σ t):=by
 induction bs with
 | nil=>
  intro ls hl σ t
  exact ⟨fun j q l h=>by simp at h,fun _=>by simp [aZ9,ad1]⟩
 | cons p bs ih=>
  intro ls hl σ t
  obtain ⟨s,off,cs⟩:=p
  cases ls with
  | nil=>simp at hl
  | cons l ls=>
   simp only [List.map_cons,List.nodup_cons] at hn
   simp only [List.length_cons,Nat.add_right_cancel_iff] at hl
   obtain ⟨h1,h2⟩:=ih hn.2 hl (upd σ s (.box (setCells cs off l))) t
   simp only [aZ9,ad1]
   refine ⟨fun j q l' hj hl' hq=>?_,fun hq=>?_⟩
   ·cases j with
    | zero=>
     simp at hj hl'
     subst hj; subst hl'
     simp only at hq
     subst hq
     rw [h2 (fun q' hq' he=>hn.1 (he ▸ List.mem_map_of_mem hq'))]
     simp [upd]
    | succ j=>exact h1 j q l' (by simpa using hj) (by simpa using hl') hq
   ·rw [h2 (fun q' hq'=>hq q' (List.mem_cons_of_mem _ hq'))]
    have:=hq (s,off,cs) (List.mem_cons_self ..)
    simp [upd,Ne.symm this]
end
end Go.VI
namespace Go.VI
open Go
section
variable {P:Program} {U:ad6} {N:Nat} {L0:Nat→Nat} {G0:ab7} {w0:World} {G:ab7} {σ:ac0 U} {a:Act} {w:World} {o:Oper} {adv:Adv}
theorem dF3 {cs l:List (CV U.τ)} {off:Nat} (h:off+l.length≤cs.length) (hl:l=(cs.drop off).take l.length) (j:Nat) (hj:j < l.length):l[j]?=cs[off+j]?:=by
 have h1:l[j]?=((cs.drop off).take l.length)[j]?:=by rw [← hl]
 rw [h1,List.getElem?_take,if_pos hj,getElem?_drop']
theorem R.called (r:R P U N L0 G0 w0 G σ a w) {bs:Bs U} {ps:List (List (CV U.τ))} (hn:(bs.map (·.1)).Nodup) (hlen:ps.length=bs.length) (hσ:∀ q∈bs,σ q.1=.box q.2.2)
  (hps:∀ (m:Nat) q l,bs[m]?=some q→ps[m]?=some l→q.2.1+l.length≤q.2.2.length∧l=(q.2.2.drop q.2.1).take l.length)
  {lens:Nat→Nat} (hlens:∀ (j:Nat) l,ps[j]?=some l→lens j=l.length)
  {G':ab7} {w':World} (hst:aF1 ⟨G.I,bD2 G bs,az4 G bs lens⟩ w G' w') {outs:List (List (CV U.τ))} (holen:outs.length=bs.length)
  (hbox:∀ (j:Nat) cs,outs[j]?=some cs→as1 P U w' G'.I G'.who (aa9+j) (bD2 G bs (aa9+j)) cs)
  (hrest:∀ (j:Nat) cs,ps[j]?=some cs→(∃ l,outs[j]?=some l∧l.length=cs.length)∧∀ o,(o < (bD2 G bs (aa9+j)).2∨(bD2 G bs (aa9+j)).2+cs.length≤o)→w'.cell? ⟨(bD2 G bs (aa9+j)).1,o,none⟩=w.cell? ⟨(bD2 G bs (aa9+j)).1,o,none⟩)
  (himm:∀ b o,G'.I b o→(w'.cell? ⟨b,o,none⟩).isSome=true) (hwho:∀ b L,G'.who b=some L→b < w'.heap.size) :
  ∃ G2,R P U N L0 G0 w0 G2 (ad1 σ (aZ9 bs outs)) a w'∧G2.I=G'.I:=by
 let G2:ab7:=⟨G'.I,G.loc,cr5 G G' bs lens w.heap.size⟩
 have hloc:∀ (j:Nat) q,bs[j]?=some q→bD2 G bs (aa9+j)=((G.loc q.1).1,(G.loc q.1).2+q.2.1):=fun j q hj=>by
  simp [bD2,hj]
 have hout:∀ (j:Nat) q,bs[j]?=some q→∃ p l,ps[j]?=some p∧outs[j]?=some l∧l.length=p.length:=fun j q hj=>by
  have hlt:=(List.getElem?_eq_some_iff.1 hj).1
  have hp:ps[j]?=some ps[j]:=List.getElem?_eq_getElem (by omega)
  obtain ⟨⟨l,h1,h2⟩,_⟩:=hrest j _ hp
  exact ⟨_,l,hp,h1,h2⟩
 have hinj:∀ (i j:Nat) p q,bs[i]?=some p→bs[j]?=some q→p.1=q.1→i=j∧p=q:=fun i j p q hi hj he=>by
  have h1:=cr4 hn hi
  have h2:=cr4 hn hj
  rw [he,h2] at h1
  injection h1 with h1
  subst h1
  rw [hi] at hj; injection hj with hj
  exact ⟨rfl,hj⟩
 have noC:∀ b L,G.who b=some L→¬dN7 bs lens L→az4 G bs lens b=none:=fun b L h hL=>eA9 h hL
 have noG':∀ b,b < w.heap.size→az4 G bs lens b=none→G'.who b=none:=fun b hb hw=>by
  cases hx:G'.who b with
  | none=>rfl
  | some L=>
   rcases hst.newW b L hx with h | h
   ·omega
   ·have h':(az4 G bs lens b).isSome=true:=h
    rw [hw] at h'; cases h'
 have keepW:∀ b L,G.who b=some L→¬dN7 bs lens L→G2.who b=some L:=fun b L h hL=>by
  have hb:=r.who b L h
  have h1:=noC b L h hL
  have h2:=noG' b hb h1
  show cr5 G G' bs lens w.heap.size b=some L
  simp only [cr5,h2,h1,Option.isSome_none,Bool.false_eq_true,if_false,if_pos hb,h]
 have toW:∀ b (j:Nat) x q,G'.who b=some (aa9+j,x)→bs[j]?=some q→G2.who b=some (q.1,x.map (q.2.1 + ·)):=fun b j x q h hj=>by
  show cr5 G G' bs lens w.heap.size b=_
  have e:aa9+j - aa9=j:=by omega
  simp only [cr5,h,Nat.le_add_right,if_true,e,hj]
  cases x <;> rfl
 have hx:Ext (dN7 bs lens) G G2 σ (ad1 σ (aZ9 bs outs)) w w':=by
  refine ⟨fun b o h=>hst.imm b o h,fun b L h hL=>⟨keepW b L h hL,hst.old b (r.who b L h) (noC b L h hL),fun o hI=>?_⟩,fun _ _=>rfl,fun s cs hs=>?_,fun s e y q hs=>?_⟩
  ·rcases hst.newI b o hI with h1 | h1 | h1
   ·exact h1
   ·have:=r.who b L h; omega
   ·have h':(az4 G bs lens b).isSome=true:=h1
    rw [noC b L h hL] at h'; cases h'
  ·by_cases hb:∃ q∈bs,q.1=s
   ·obtain ⟨q,hq,hqs⟩:=hb
    obtain ⟨j,hj⟩:=List.mem_iff_getElem?.1 hq
    obtain ⟨p,l,_,hl,_⟩:=hout j q hj
    exact ⟨_,(ap9 hn holen σ s).1 j q l hj hl hqs⟩
   ·exact ⟨cs,by rw [(ap9 hn holen σ s).2 (fun q hq he=>hb ⟨q,hq,he⟩),hs]⟩
  ·have:∀ q∈bs,q.1≠s:=fun q hq he=>by have:=hσ q hq; rw [he,hs] at this; cases this
   exact ⟨e,y,by rw [(ap9 hn holen σ s).2 this,hs],rfl⟩
 have hstep:aF1 G w G2 w':=by
  refine ⟨hst.os,hst.tape,hst.output,hst.size,fun b hb hw=>hst.old b hb ?_,fun b o h=>hst.imm b o h,fun b o h=>?_,fun b L h=>?_⟩
  ·show az4 G bs lens b=none
   simp [az4,hw]
  ·rcases hst.newI b o h with h1 | h1 | h1
   ·exact .inl h1
   ·exact .inr (.inl h1)
   ·exact .inr (.inr (ce4 h1))
  ·have h':cr5 G G' bs lens w.heap.size b=some L:=h
   unfold cr5 at h'
   cases hg:G'.who b with
   | some L'=>
    rcases hst.newW b L' hg with h1 | h1
    ·exact .inl h1
    ·exact .inr (ce4 h1)
   | none=>
    rw [hg] at h'
    simp only at h'
    split at h'
    ·cases h'
    ·split at h'
     ·exact .inr (by rw [h']; rfl)
     ·cases h'
 refine ⟨G2,r.go hx hstep rfl rfl (fun _ _=>rfl) (fun b o h=>.inr (himm b o h)) (fun b L h=>?_) (fun t cs' ht hσ'=>?_) (fun t=>?_),rfl⟩
 ·have h':cr5 G G' bs lens w.heap.size b=some L:=h
  unfold cr5 at h'
  cases hg:G'.who b with
  | some L'=>exact .inr (hwho b L' hg)
  | none=>
   rw [hg] at h'
   simp only at h'
   split at h'
   ·cases h'
   ·split at h'
    ·exact .inl ⟨L,h'⟩
    ·cases h'
 ·by_cases hb:∃ q∈bs,q.1=t
  ·obtain ⟨q,hq,hqs⟩:=hb
   obtain ⟨j,hj⟩:=List.mem_iff_getElem?.1 hq
   obtain ⟨p,l,hp,hl,hll⟩:=hout j q hj
   rw [(ap9 hn holen σ t).1 j q l hj hl hqs] at hσ'
   injection hσ' with hσ'
   obtain ⟨_,h2⟩:=hrest j p hp
   obtain ⟨h3,_⟩:=hps j q p hj hp
   rw [hloc j q hj] at h2
   refine ⟨q.2.2,by rw [← hqs]; exact hσ q hq,by rw [← hσ',aB4],fun o ho=>?_⟩
   rw [← hqs] at ho ⊢
   refine h2 o ?_
   simp only
   omega
  ·rw [(ap9 hn holen σ t).2 (fun q hq he=>hb ⟨q,hq,he⟩)] at hσ'
   refine ⟨cs',hσ',rfl,fun o _=>?_⟩
   have hbx:=r.slots t
   rw [hσ'] at hbx
   have hw:=hbx.2.hwho
   have hL:¬dN7 bs lens (t,none):=fun ⟨j,q,hj,he,_⟩=>hb ⟨q,List.mem_of_getElem? hj,he.symm⟩
   have:=hst.old (G.loc t).1 (r.who _ _ hw) (noC _ _ hw hL)
   simp only [World.cell?,this]
 ·by_cases hb:∃ q∈bs,q.1=t
  ·right
   obtain ⟨q,hq,hqs⟩:=hb
   obtain ⟨j,hj⟩:=List.mem_iff_getElem?.1 hq
   obtain ⟨p,l,hp,hl,hll⟩:=hout j q hj
   obtain ⟨h3,h3'⟩:=hps j q p hj hp
   rw [(ap9 hn holen σ t).1 j q l hj hl hqs]
   have hbx:=r.slots t
   have hσt:σ t=.box q.2.2:=by rw [← hqs]; exact hσ q hq
   rw [hσt] at hbx
   obtain ⟨hb1,hb2⟩:=hbx
   have hcb:=hbox j l hl
   rw [hloc j q hj,hqs] at hcb
   obtain ⟨_,hr2⟩:=hrest j p hp
   rw [hloc j q hj,hqs] at hr2
   simp only at hr2
   obtain ⟨c,T,fz,k1,k2,k3,k4⟩:=hb2.row
   obtain ⟨c',T',fz',m1,m2,m3,m4⟩:=hcb.row
   simp only at m1 m2 m4
   show (t < aa9→_)∧as1 P U w' G2.I G2.who t (G.loc t) _
   refine ⟨hb1,?_,hcb.himm,c',T',fz',m1,?_,m3,fun i x hi=>?_⟩
   ·have:=toW _ j none q hcb.hwho hj
    rw [this,hqs]; rfl
   ·
    rw [aB4]
    rcases Nat.eq_zero_or_pos q.2.2.length with h0 | h0
    ·
     have hp0:p.length=0:=by omega
     rw [h0,Nat.add_zero]
     have:(G.loc t).2+q.2.1+l.length≤c'.size:=m2
     omega
    ·
     have key:(w'.cell? ⟨(G.loc t).1,(G.loc t).2+(q.2.2.length - 1),none⟩).isSome=true:=by
      by_cases hin:q.2.1≤q.2.2.length - 1∧q.2.2.length - 1 < q.2.1+p.length
      ·rw [ag3 m1,Array.getElem?_eq_getElem (by omega)]; rfl
      ·rw [hr2 _ (by omega),ag3 k1,Array.getElem?_eq_getElem (by omega)]; rfl
     rw [ag3 m1] at key
     obtain ⟨u,hu⟩:=Option.isSome_iff_exists.1 key
     have:=(Array.getElem?_eq_some_iff.1 hu).1
     omega
   ·rw [aQ8 _ _ _ _ (by omega)] at hi
    rw [← ag3 m1]
    split at hi
    ·rename_i hc
     obtain ⟨u,hu,hk⟩:=m4 (i - q.2.1) x hi
     refine ⟨u,?_,?_⟩
     ·rw [ag3 m1,← hu]; congr 1; omega
     ·rcases hk with hk | ⟨e,css,n1,n2,n3⟩
      ·exact .inl hk
      ·refine .inr ⟨e,css,n1,n2,?_⟩
       rcases n3 with n3 | ⟨b,off,cap,n4,n5,n6,n7⟩
       ·exact .inl n3
       ·refine .inr ⟨b,off,cap,n4,n5,n6,?_⟩
        rcases n7 with n7 | ⟨n7,n8⟩
        ·exact .inl n7
        ·refine .inr ⟨?_,n8⟩
         have:=toW _ j _ q n7 hj
         rw [this,hqs]
         simp only [Option.map_some]
         rw [show q.2.1+(i - q.2.1)=i by omega]
    ·rename_i hc
     obtain ⟨u,hu,hk⟩:=k4 i x hi
     refine ⟨u,?_,hk.mono hx ?_⟩
     ·rw [hr2 _ (by omega),ag3 k1]; exact hu
     ·rintro ⟨j',q',hj',he,hh⟩
      obtain ⟨rfl,rfl⟩:=hinj j j' q q' hj hj' (by rw [hqs]; exact he)
      have:=hh i rfl
      rw [hlens j p hp] at this
      omega
  ·left
   refine ⟨(ap9 hn holen σ t).2 (fun q hq he=>hb ⟨q,hq,he⟩),rfl,?_,?_⟩
   ·rintro ⟨j,q,hj,he,_⟩; exact hb ⟨q,List.mem_of_getElem? hj,he.symm⟩
   ·rintro i ⟨j,q,hj,he,_⟩; exact hb ⟨q,List.mem_of_getElem? hj,he.symm⟩
theorem ay5.slot {I:Nat→Nat→Prop} {v:AV U.τ} {u:Value} {G2:ab7} {σ2:ac0 U} (hI:G2.I=I) (h:ay5 P U w I v u):v.owner=false∧∀ t,ac9 P U G2 σ2 w t v u:=by
 cases v with
 | one c=>exact ⟨rfl,fun t=>ac9.of_pc (by rw [hI]; exact h)⟩
 | agg cs=>exact ⟨rfl,fun t=>by rw [← hI] at h; exact h⟩
 | tup vs=>exact ⟨rfl,fun t=>by rw [← hI] at h; exact h⟩
 | _=>exact h.elim
theorem eL4 (r:R P U N L0 G0 w0 G σ a w) (hd:∀ d,o.dst=some d→d < N) {c:Call} {f:Operand} (ho:o.op=.call c) (hb:c.callee=.value f) {rd:List Nat} {ws:List (Nat × AV U.τ)} (h:aa5 P U σ (ac3 P adv o) rd ws) :
  ae5 P U N L0 G0 w0 σ o a w ws:=by
 obtain ⟨callee,args,argTypes⟩:=c
 simp only at hb
 subst hb
 simp only [ac3,ho] at h
 obtain ⟨c,_,h1,h⟩:=r.opd1 h
 cases c with
 | fn k=>
  simp only at h
  cases hfn:P.funcs[k]? with
  | none=>rw [hfn] at h; exact h.of_fail.elim
  | some fn=>
   rw [hfn] at h
   obtain ⟨hsz,h⟩:=aa5.of_cond h
   have hsz:=Nat.eq_of_beq_eq_true hsz
   obtain ⟨as,bs,_,h,hn,hlen,hσ,hps,hrel⟩:=dc7 r _ h
   obtain ⟨out,⟨hcallable,hcall⟩,h⟩:=h.of_call
   obtain ⟨hbl,h⟩:=aa5.of_cond h
   have hbl:=Nat.eq_of_beq_eq_true hbl
   let lens:Nat→Nat:=fun j=>((af8 as)[j]?.map List.length).getD 0
   have hlens:∀ (j:Nat) l,(af8 as)[j]?=some l→lens j=l.length:=fun j l hl=>by simp [lens,hl]
   have hloc:∀ (j:Nat) q,bs[j]?=some q→bD2 G bs (aa9+j)=((G.loc q.1).1,(G.loc q.1).2+q.2.1):=fun j q hj=>by simp [bD2,hj]
   have hargs:=hrel (az4 G bs lens) (bD2 G bs) 0 (fun m q l hm hl=>by
    rw [Nat.zero_add]
    refine ⟨?_,hloc m q hm⟩
    rw [hloc m q hm]
    obtain ⟨k1,k2⟩:=hps m q l hm hl
    have hbx:=r.slots q.1
    rw [hσ q (List.mem_of_getElem? hm)] at hbx
    obtain ⟨c,T,fz,m1,m2,m3,m4⟩:=hbx.2.row
    refine ⟨ep7 (lens:=lens) hn hm hbx.2.hwho,hbx.2.himm,c,T,fz,m1,by simp only; omega,m3,fun i x hi=>?_⟩
    have hil:=(List.getElem?_eq_some_iff.1 hi).1
    rw [dF3 k1 k2 i hil] at hi
    obtain ⟨u,hu,hk⟩:=m4 _ x hi
    refine ⟨u,by simp only; rw [Nat.add_assoc]; exact hu,?_⟩
    rcases hk with hk | ⟨e,css,n1,n2,n3⟩
    ·exact .inl hk
    ·refine .inr ⟨e,css,n1,n2,?_⟩
     rcases n3 with n3 | ⟨b,off,cap,n4,n5,n6,n7⟩
     ·exact .inl n3
     ·refine .inr ⟨b,off,cap,n4,n5,n6,?_⟩
      rcases n7 with n7 | ⟨n7,n8⟩
      ·exact .inl n7
      ·refine .inr ⟨?_,n8⟩
       rw [ep8 hn hm n7 (by omega) (by rw [hlens m l hl]; omega)]
       congr 3
       omega)
   have hvals:((fn.params.toList.zip args.toList).map fun p=>a.eval p.2)=(args.map a.eval).toList:=by
    rw [Array.toList_map]
    have h2:(fn.params.toList.zip args.toList).map (fun p=>a.eval p.2)=((fn.params.toList.zip args.toList).map Prod.snd).map a.eval:=by rw [List.map_map]; rfl
    rw [h2,List.map_snd_zip (by simp [hsz])]
   rw [hvals] at hargs
   have hC:=hcall ⟨G.I,bD2 G bs,az4 G bs lens⟩ w _ hargs r.imm (fun b L hw=>by
    have:(G.who b).isSome=true:=ce4 (bs:=bs) (lens:=lens) (by show (az4 G bs lens b).isSome=true; rw [show az4 G bs lens b=some L from hw]; rfl)
    obtain ⟨L',hL'⟩:=Option.isSome_iff_exists.1 this
    exact r.who b L' hL') ⟨(r.env.step r.step).env,(r.env.step r.step).size,fun b hb=>by
     show az4 G bs lens b=none
     unfold az4
     rw [(r.env.step r.step).who b hb]⟩
   have hrun:(execOp a.eval o).run P w=.ok (.enter k (args.map a.eval)) w:=by
    have he:=h1.fn
    have:=hcallable (args.map a.eval) w
    simp [execOp,ho,resolve,he,Deferred.ofValue,invoke,this]
   unfold ae5 az3
   rw [hrun]
   simp only
   have harr:(args.map a.eval).toList.toArray=args.map a.eval:=by simp only [Array.toArray_toList]
   rw [harr] at hC
   refine hC.mono fun e w' ⟨u,G',he,g1,g2,g3,g4,g5,g6,g7⟩=>⟨u,he,?_⟩
   obtain ⟨G2,hR,hI⟩:=r.called hn hlen hσ hps hlens g1 (by rw [g3,hlen]) g4 g5 g6 g7
   obtain ⟨k1,k2⟩:=ay5.slot (G2:=G2) (σ2:=ad1 σ (aZ9 bs out.boxes)) hI g2
   rcases h.of_wr with ⟨m1,m2⟩ | ⟨d,m1,m2,m3⟩
   ·rw [m1,m2]; exact ⟨G2,hR⟩
   ·rw [m1,m2]
    have hdq:∀ q∈bs,q.1≠d:=fun q hq he=>by have:=hσ q hq; rw [he] at this; rw [this] at m3; cases m3
    have hat:ad1 σ (aZ9 bs out.boxes) d=σ d:=(ap9 hn (by rw [g3,hlen]) σ d).2 hdq
    have:=hR.put (hd d m1) (by rw [hat]; exact m3) k1 k2
    refine ⟨G2,?_⟩
    have e1:ad1 σ ((d,out.ret)::aZ9 bs out.boxes)=upd (ad1 σ (aZ9 bs out.boxes)) d out.ret:=by
     funext z
     simp only [ad1]
     by_cases hz:∃ q∈bs,q.1=z
     ·obtain ⟨q,hq,hqz⟩:=hz
      have hzd:z≠d:=fun he=>hdq q hq (by rw [hqz,he])
      obtain ⟨j,hj⟩:=List.mem_iff_getElem?.1 hq
      have hlt:=(List.getElem?_eq_some_iff.1 hj).1
      have hl:out.boxes[j]?=some out.boxes[j]:=List.getElem?_eq_getElem (by omega)
      rw [(ap9 hn (by rw [g3,hlen]) (upd σ d out.ret) z).1 j q _ hj hl hqz]
      simp only [upd,hzd,if_false]
      rw [(ap9 hn (by rw [g3,hlen]) σ z).1 j q _ hj hl hqz]
     ·rw [(ap9 hn (by rw [g3,hlen]) (upd σ d out.ret) z).2 (fun q hq he=>hz ⟨q,hq,he⟩)]
      simp only [upd]
      rw [(ap9 hn (by rw [g3,hlen]) σ z).2 (fun q hq he=>hz ⟨q,hq,he⟩)]
    rw [e1]
    exact this
 | _=>exact h.of_fail.elim
end
end Go.VI
namespace Go.VI
open Go
section
variable {P:Program} {U:ad6} {N:Nat} {L0:Nat→Nat} {G0:ab7} {w0:World} {G:ab7} {σ:ac0 U} {a:Act} {w:World} {o:Oper} {adv:Adv}
theorem eL5 (hU:aF4 P U) (r:R P U N L0 G0 w0 G σ a w) (hd:∀ d,o.dst=some d→d < N) {rd:List Nat} {ws:List (Nat × AV U.τ)} (h:aa5 P U σ (ac3 P adv o) rd ws):ae5 P U N L0 G0 w0 σ o a w ws:=by
 cases ho:o.op with
 | move x=>exact eL0 r hd ho h
 | assign x=>exact ep5 r hd ho h
 | pick c x y=>exact eK9 r hd ho h
 | alloc t=>exact eA5 r hd ho h
 | box t x=>exact eS3 r hd ho h
 | build t ps=>exact eA4 r hd ho h
 | buildSlice t n ps=>exact dF0 hU r hd ho h
 | load t x=>exact eL1 r hd ho h
 | store t x y=>exact eA8 r hd ho h
 | nilCheck x=>exact dY1 r hd ho h
 | binOp op t x y u=>exact eR9 r hd ho h
 | unOp op t x=>exact eW4 r hd ho h
 | convert s d x=>exact eh5 r hd ho h
 | makeSlice t l c=>exact dN6 r hd ho h
 | slice t x lo hi mx=>exact eA3 r hd ho h
 | fieldAddr t x f=>exact dM8 r hd ho h
 | field t x f=>exact eA1 r hd ho h
 | indexAddr t x i=>exact dN2 r hd ho h
 | index t x i=>exact eA2 r hd ho h
 | extract x i=>exact eh2 r hd ho h
 | call c=>
  cases hc:c.callee with
  | value f=>exact eL4 r hd ho hc h
  | invoke x m=>simp only [ac3,ho,hc] at h; exact h.of_fail.elim
  | builtin b=>
   cases b with
   | append=>exact ep6 r hd ho hc h
   | copy=>exact eL2 r hd ho hc h
   | len=>exact eS0 r hd ho hc h
   | max=>exact eS2 r hd ho hc h
   | min=>exact eS1 r hd ho hc h
   | _=>simp only [ac3,ho,hc] at h; exact h.of_fail.elim
 | _=>simp only [ac3,ho] at h; exact h.of_fail.elim
abbrev aj3 (P:Program) (U:ad6) (N:Nat) (L0:Nat→Nat) (G0:ab7) (w0:World) (σ:ac0 U) (a:Act) (w:World):Prop:=∃ G,R P U N L0 G0 w0 G σ a w
theorem eh7 {ops:Array Oper} (r:R P U N L0 G0 w0 G σ a w) {j t:Nat} {g:Oper} {b:Bool} (hj:ops[j]?=some g) (hg:g.dst=some t) (hb:σ t=.one (.bool b)):yielded ops a.tmps j=some b:=by
 have hs:=r.slots t
 rw [hb] at hs
 have hv:a.tmps.getD t undef=.bool b:=PC.of_bool (by
  rcases hs with hs | ⟨_,_,h1,_⟩
  ·exact hs
  ·simp [cont] at h1)
 have ht:a.tmps[t]?=some (.bool b):=by
  rw [Array.getD_eq_getD_getElem?] at hv
  cases hx:a.tmps[t]? with
  | none=>rw [hx] at hv; cases hv
  | some v=>rw [hx] at hv; exact congrArg some hv
 simp [yielded,hj,hg,ht]
theorem ec6 (hU:aF4 P U) {Q:Exit→Act→World→Prop} {ops:List Oper} (r:R P U N L0 G0 w0 G σ a w) (hN:adv.n≤N) {i:Nat} (hi:ops[i]?=some o) {rd:List Nat} {ws:List (Nat × AV U.τ)} (h:aa5 P U σ (ar0 P adv ops o) rd ws)
  {K:Act→World→Prop} (hK:∀ a' w',aj3 P U N L0 G0 w0 (ad1 σ ws) a' w'→K a' w'):wpOp P ops.toArray Q i K a w:=by
 have hi':ops.toArray[i]?=some o:=by simpa using hi
 unfold wpOp
 rw [hi']
 simp only
 unfold ar0 at h
 obtain ⟨hdst,h⟩:=aa5.of_cond' h
 have hd:∀ d,o.dst=some d→d < N:=fun d hdd=>by
  rw [hdd] at hdst
  simp only at hdst
  rcases Nat.lt_or_ge d adv.n with h1 | h1
  ·exact Nat.lt_of_lt_of_le h1 hN
  ·rw [Nat.ble_eq_true_of_le h1] at hdst; cases hdst
 have go:∀ rd',aa5 P U σ (ac3 P adv o) rd' ws→o.wp P a w K Q:=fun rd' h=>Oper.wp_mono hK (az3.wp (eL5 hU r hd h))
 cases hg:o.guard with
 | none=>
  rw [hg] at h
  have hw:Region.wanted o (yielded ops.toArray a.tmps)=true:=by simp [Region.wanted,hg]
  rw [if_pos hw]
  exact .inl (go _ h)
 | some p=>
  obtain ⟨j,want⟩:=p
  rw [hg] at h
  simp only at h
  cases hj:ops[j]? with
  | none=>rw [hj] at h; exact h.of_fail.elim
  | some g=>
   rw [hj] at h
   simp only at h
   cases hgd:g.dst with
   | none=>rw [hgd] at h; exact h.of_fail.elim
   | some t=>
    rw [hgd] at h
    have skip:∀ rd',aa5 P U σ (wr o.dst (.tup [])) rd' ws→K (a.put o.dst undef) w:=fun rd' h=>by
     refine hK _ _ ⟨G,?_⟩
     rcases h.of_wr with ⟨k1,k2⟩ | ⟨d,k1,k2,k3⟩
     ·rw [k1,k2]; exact r
     ·rw [k1,k2]; exact r.put (hd d k1) k3 rfl (fun _=>⟨#[],rfl,rfl,fun j a cs hj=>by simp at hj⟩)
    obtain ⟨_,h⟩:=h.of_read
    split at h
    ·rename_i hst
     have hw:Region.wanted o (yielded ops.toArray a.tmps)=false:=by
      have hs:=r.slots t
      rw [hst] at hs
      obtain ⟨us,hv,_⟩:=hs
      have hy:yielded ops.toArray a.tmps j=none:=by
       have hj2:ops.toArray[j]?=some g:=by simpa using hj
       rw [Array.getD_eq_getD_getElem?] at hv
       cases hx:a.tmps[t]? with
       | none=>simp [yielded,hj2,hgd,hx]
       | some v=>
        rw [hx] at hv
        have hv:v=.tuple us:=hv
        subst hv
        simp [yielded,hj2,hgd,hx]
      simp [Region.wanted,hg,hy]
     rw [hw]
     simp only [Bool.false_eq_true,if_false]
     exact skip _ h
    obtain ⟨b,_,hb,h⟩:=h.of_split
    have hy:=eh7 (ops:=ops.toArray) r (j:=j) (g:=g) (by simpa using hj) hgd hb
    have hw:Region.wanted o (yielded ops.toArray a.tmps)=(b==want):=by
     simp only [Region.wanted,hg,hy]
     cases b <;> cases want <;> rfl
    rw [hw]
    cases hbw:(b==want) with
    | true=>
     rw [hbw] at h
     simp only [if_true]
     exact .inl (go _ h)
    | false=>
     rw [hbw] at h
     simp only [Bool.false_eq_true,if_false]
     exact skip _ h
structure eX6 (P:Program) (U:ad6) (σ:ac0 U) (t:ac6 U) (rd:List Nat) (ws:List (Nat × AV U.τ)) (s off:Nat):Prop where
 box:∃ cs,σ s=.box cs∧(s∈ws.map (·.1)→∃ c,∀ τ:ac0 U,ad1 τ ws s=.box (cs.set off c))∧
  ∀ σ2 cs2,σ2 s=.box cs2→cs2[off]?=cs[off]?→(∀ x∈rd,x≠s→σ2 x=σ x)→s ∉ ws.map (·.1)→aa5 P U σ2 t rd ws
theorem aa5.read_inv {σ:ac0 U} {s:Nat} {f:AV U.τ→ac6 U} {rd:List Nat} {ws:List (Nat × AV U.τ)} (h:aa5 P U σ (.read s f) rd ws):∃ rd',rd=s::rd'∧aa5 P U σ (f (σ s)) rd' ws:=by
 cases h with
 | read _ _ rd' _ h=>exact ⟨rd',rfl,h⟩
theorem aa5.wr_inv {σ:ac0 U} {dst:Option Nat} {v:AV U.τ} {more:List (Nat × AV U.τ)} {rd:List Nat} {ws:List (Nat × AV U.τ)} (h:aa5 P U σ (wr dst v more) rd ws) :
  (dst=none∧ws=more)∨∃ d,dst=some d∧ws=(d,v)::more∧(σ d).owner=false:=by
 rcases h.of_wr with ⟨h1,h2⟩ | ⟨d,h1,h2,h3⟩
 ·exact .inl ⟨h1,h2⟩
 ·exact .inr ⟨d,h1,h2,h3⟩
theorem di8 {t:TypeId} (h:aI3 P t=true) (cs:List (CV U.τ)) (off:Nat):al8 P t cs off=(cs[off]?).map .one:=by
 unfold aI3 at h
 unfold al8
 cases hu:P.underlying t with
 | none=>rw [hu] at h; cases h
 | some u=>
  rw [hu] at h
  cases u <;> first | (cases h; done) | (cases hx:cs[off]? <;> rfl)
theorem dA3 {σ:ac0 U} {ops:List Oper} {rd:List Nat} {ws:List (Nat × AV U.τ)} {s off:Nat} (hs:aK9 P σ o=some (s,off)) (h:aa5 P U σ (ar0 P adv ops o) rd ws):eX6 P U σ (ar0 P adv ops o) rd ws s off:=by
 unfold aK9 at hs
 split at hs
 ·rename_i t a hg hop
  split at hs
  ·rename_i s' off' ha
   cases h1:aI3 P t with
   | false=>rw [h1] at hs; cases hs
   | true=>
    rw [h1] at hs
    simp only [cond_true,Option.some.injEq,Prod.mk.injEq] at hs
    obtain ⟨rfl,rfl⟩:=hs
    have htree:(ar0 P adv ops o:ac6 U)=cond (match o.dst with | some d=>Nat.ble adv.n d | none=>false) .fail (ac3 P adv o):=by
     unfold ar0; rw [hg]; rfl
    rw [htree] at h ⊢
    obtain ⟨hdst,hA⟩:=aa5.of_cond' h
    clear h
    rw [hdst,cond_false]
    simp only [ac3,hop] at hA ⊢
    obtain ⟨hz,hB⟩:=aa5.of_cond hA
    clear hA
    rw [hz,cond_true]
    unfold rdO at hB ⊢
    simp only at hB ⊢
    obtain ⟨hv,hC⟩:=aa5.of_cond' hB
    clear hB
    rw [hv,cond_false]
    obtain ⟨rd1,hr1,hE⟩:=hC.read_inv
    clear hC
    subst hr1
    rw [ha] at hE
    simp only [av1] at hE
    obtain ⟨rd2,hr2,h⟩:=hE.read_inv
    clear hE
    subst hr2
    cases hσ:σ s' <;> rw [hσ] at h <;> first | exact h.of_fail.elim | skip
    rename_i cs
    simp only [di8 h1] at h
    have has:a≠s':=fun he=>by rw [he,hσ] at ha; cases ha
    cases hc:cs[off']? with
    | none=>rw [hc] at h; exact h.of_fail.elim
    | some c=>
     rw [hc] at h
     simp only [Option.map_some] at h
     cases hgv:bx0 adv o.dst (.one c) with
     | true=>
      rw [hgv,cond_true] at h
      have hd:∃ d,o.dst=some d:=by
       unfold bx0 at hgv
       split at hgv
       ·exact ⟨_,by assumption⟩
       ·exact ⟨_,by assumption⟩
       ·cases hgv
      obtain ⟨d,hd⟩:=hd
      rw [hd] at h
      rcases h.wr_inv with ⟨k1,_⟩ | ⟨d',k1,k2,k3⟩
      ·cases k1
      ·subst k2
       refine ⟨cs,hσ,fun _=>⟨c.plain,fun τ=>?_⟩,fun σ2 cs2 _ _ _ hn=>?_⟩
       ·simp [ad1,upd,AV.plain,setCells]
       ·simp at hn
     | false=>
      rw [hgv,cond_false] at h
      have hds:∀ d,o.dst=some d→d≠s':=fun d hd he=>by
       rw [hd] at h
       rcases h.wr_inv with ⟨k1,_⟩ | ⟨d',k1,k2,k3⟩
       ·cases k1
       ·injection k1 with k1
        rw [← k1,he,hσ] at k3
        cases k3
      refine ⟨cs,hσ,fun hm=>?_,fun σ2 cs2 k1 k2 k3 hn=>?_⟩
      ·exfalso
       rcases h.wr_inv with ⟨_,k2⟩ | ⟨d',k1,k2,k3⟩
       ·rw [k2] at hm; simp at hm
       ·rw [k2] at hm
        simp at hm
        exact hds d' k1 hm.symm
      ·have hrd:∀ x∈rd2,x≠s':=by
        unfold wr at h
        cases hd:o.dst with
        | none=>rw [hd] at h; cases h; simp
        | some d=>
         rw [hd] at h
         obtain ⟨rd3,hr3,h3⟩:=h.read_inv
         obtain ⟨_,h3⟩:=aa5.of_cond' h3
         cases h3
         subst hr3
         intro x hx
         simp at hx
         subst hx
         exact hds _ hd
       have h':=h.same (σ':=σ2) fun x hx=>k3 x (by simp [hx]) (hrd x hx)
       refine .read _ _ _ _ ?_
       rw [k3 a (List.mem_cons_self ..) has,ha]
       simp only [av1]
       refine .read _ _ _ _ ?_
       rw [k1]
       simp only [di8 h1,k2,hc,Option.map_some,hgv,cond_false]
       exact h'
  ·cases hs
 ·cases hs
inductive Lex (P:Program) (U:ad6) (tree:Oper→ac6 U):List Oper→ac0 U→List (List Nat × List (Nat × AV U.τ) × Option (Nat × Nat))→ac0 U→Prop
 | nil (σ:ac0 U):Lex P U tree [] σ [] σ
 | cons (o:Oper) (rest:List Oper) (σ:ac0 U) (rd:List Nat) (ws:List (Nat × AV U.τ)) (D:List (List Nat × List (Nat × AV U.τ) × Option (Nat × Nat))) (σ':ac0 U) :
   aa5 P U σ (tree o) rd ws→Lex P U tree rest (ad1 σ ws) D σ'→Lex P U tree (o::rest) σ ((rd,ws,aK9 P σ o)::D) σ'
def aX9 (bits:Nat) (rd wr:List Nat) (sf:Option (Nat × Nat)) (e:Nat × List Nat × List Nat × Option (Nat × Nat)):Prop:=
 Nat.testBit bits e.1=true∨((∀ x∈wr,x ∉ e.2.2.1)∧(((∀ x∈wr,x ∉ e.2.1)∧∀ x∈rd,x ∉ e.2.2.1)∨
  ∃ s off off',sf=some (s,off)∧e.2.2.2=some (s,off')∧off≠off'∧(∀ x∈wr,x≠s→x ∉ e.2.1)∧∀ x∈rd,x≠s→x ∉ e.2.2.1))
theorem bO0:∀ (l m:List Nat),ar1 l m=true↔∀ x∈l,x ∉ m
 | [],m=>by simp [ar1]
 | x::l,m=>by
  simp only [ar1]
  cases hm:ao2 x m with
  | true=>
   have:=(aU5 x m).1 hm
   simp [this]
  | false=>
   have:x ∉ m:=fun h=>by rw [(aU5 x m).2 h] at hm; cases hm
   simp [this,bO0 l m]
theorem bx2 (s:Nat):∀ (l:List Nat) (x:Nat),x∈l→x≠s→x∈bs2 s l
 | [],_,h,_=>by simp at h
 | y::l,x,h,hx=>by
  unfold bs2
  by_cases hy:y=s
  ·subst hy
   rw [Nat.beq_refl,cond_true]
   rcases List.mem_cons.1 h with h | h
   ·exact absurd h hx
   ·exact bx2 y l x h hx
  ·rw [aQ6 hy,cond_false]
   rcases List.mem_cons.1 h with h | h
   ·exact h ▸ List.mem_cons_self ..
   ·exact List.mem_cons_of_mem _ (bx2 s l x h hx)
theorem cV9 {bits:Nat} {rd wr:List Nat} {sf:Option (Nat × Nat)}:∀ {logs:Log},cj7 bits rd wr sf logs=true→∀ e∈logs,aX9 bits rd wr sf e
 | [],_,e,he=>by simp at he
 | (j,rd',wr',sf')::r,h,e,he=>by
  simp only [cj7] at h
  cases hb:(Nat.testBit bits j || (ar1 wr wr' && ar1 wr rd' && ar1 rd wr') || dM3 rd wr sf rd' wr' sf') with
  | false=>rw [hb] at h; cases h
  | true=>
   rw [hb] at h
   rcases List.mem_cons.1 he with rfl | he
   ·simp only [Bool.or_eq_true,Bool.and_eq_true,bO0] at hb
    rcases hb with (hb | ⟨⟨h1,h2⟩,h3⟩) | hb
    ·exact .inl hb
    ·exact .inr ⟨h1,.inl ⟨h2,h3⟩⟩
    ·unfold dM3 at hb
     split at hb
     ·rename_i s off s' off'
      simp only [Bool.and_eq_true,bO0,Bool.not_eq_true'] at hb
      obtain ⟨⟨⟨⟨h1,h2⟩,h3⟩,h4⟩,h5⟩:=hb
      have h1:=Nat.eq_of_beq_eq_true h1
      subst h1
      refine .inr ⟨h3,.inr ⟨s,off,off',rfl,rfl,fun he=>?_,fun x hx hn=>h4 x (bx2 _ _ _ hx hn),fun x hx hn=>h5 x (bx2 _ _ _ hx hn)⟩⟩
      rw [he,Nat.beq_refl] at h2
      cases h2
     ·cases hb
   ·exact cV9 h e he
theorem dA4 {Res:Type} {Φ:Tab U} (hΦ:at9 P U Φ) {all:List Oper} {draw:Bool} {before:List Nat} {k:St U→Option Res} {out:Res}:∀ (rest:List Oper) (i:Nat) (logs:Log) (st:St U),
  dK7 P Φ adv all draw before rest i logs st k=some out→
  ∃ D st',Lex P U (ar0 P adv all) rest st.get D st'.get∧k st'=some out∧(draw=true→
   (∀ e∈logs,∀ (m:Nat) d,D[m]?=some d→aX9 (before.getD (i+m) 0) d.1 (d.2.1.map (·.1)) d.2.2 e)∧
   ∀ (p m:Nat) d d',p < m→D[p]?=some d→D[m]?=some d'→aX9 (before.getD (i+m) 0) d'.1 (d'.2.1.map (·.1)) d'.2.2 (i+p,d.1,d.2.1.map (·.1),d.2.2))
 | [],i,logs,st,h=>⟨[],st,.nil _,h,fun _=>⟨fun e he m d hm=>by simp at hm,fun p m d d' _ hp=>by simp at hp⟩⟩
 | o::rest,i,logs,st,h=>by
  simp only [dK7] at h
  obtain ⟨st',rd,ws,h1,h2,h3⟩:=eK6 hΦ _ _ _ _ _ h
  rw [List.append_nil,h1] at h3
  cases hc:(cond draw (cj7 (before.getD i 0) rd.reverse (ws.map (·.1)) (aK9 P st.get o) logs) true) with
  | false=>rw [hc] at h3; cases h3
  | true=>
   rw [hc] at h3
   simp only [cond_true] at h3
   obtain ⟨D,st2,g1,g2,g3⟩:=dA4 hΦ rest (i+1) _ _ h3
   rw [dc2,h1] at g1
   have h2':aa5 P U st.get (ar0 P adv all o) rd ws:=h2
   refine ⟨(rd,ws,aK9 P st.get o)::D,st2,.cons o rest _ rd ws D _ h2' g1,g2,fun hdraw=>?_⟩
   subst hdraw
   obtain ⟨k1,k2⟩:=g3 rfl
   simp only [cond_true] at hc k1
   have fix:∀ {bits:Nat} {wr:List Nat} {sf:Option (Nat × Nat)} {e:Nat × List Nat × List Nat × Option (Nat × Nat)},aX9 bits rd.reverse wr sf e→aX9 bits rd wr sf e:=fun h=>by
    unfold aX9 at h ⊢
    simpa only [List.mem_reverse] using h
   have fix2:∀ {bits:Nat} {rd2 wr:List Nat} {sf:Option (Nat × Nat)} {j:Nat} {wr2:List Nat} {sf2:Option (Nat × Nat)},aX9 bits rd2 wr sf (j,rd.reverse,wr2,sf2)→aX9 bits rd2 wr sf (j,rd,wr2,sf2):=fun h=>by
    unfold aX9 at h ⊢
    simpa only [List.mem_reverse] using h
   refine ⟨fun e he m d hm=>?_,fun p m d d' hpm hp hm=>?_⟩
   ·cases m with
    | zero=>
     simp at hm; subst hm
     exact fix (cV9 hc e he)
    | succ m=>
     rw [show i+(m+1)=i+1+m by omega]
     exact k1 e (List.mem_cons_of_mem _ he) m d (by simpa using hm)
   ·cases m with
    | zero=>omega
    | succ m=>
     rw [show i+(m+1)=i+1+m by omega]
     cases p with
     | zero=>
      simp at hp; subst hp
      exact fix2 (k1 (i,rd.reverse,ws.map (·.1),aK9 P st.get o) (List.mem_cons_self ..) m d' (by simpa using hm))
     | succ p=>
      rw [show i+(p+1)=i+1+p by omega]
      exact k2 p m d d' (by omega) (by simpa using hp) (by simpa using hm)
theorem dA5 (hU:aF4 P U) {Q:Exit→Act→World→Prop} {all:List Oper} (hN:adv.n≤N) {σ':ac0 U} (hQ:∀ a w,aj3 P U N L0 G0 w0 σ' a w→Q .normal a w):∀ (rest:List Oper) (i:Nat) (σ:ac0 U) (D:List (List Nat × List (Nat × AV U.τ) × Option (Nat × Nat))) (a:Act) (w:World),
  (∀ j,rest[j]?=all[i+j]?)→Lex P U (ar0 P adv all) rest σ D σ'→aj3 P U N L0 G0 w0 σ a w→wpOps P all.toArray Q (List.range' i rest.length) a w
 | [],i,σ,D,a,w,_,hL,hR=>by
  cases hL
  exact hQ a w hR
 | o::rest,i,σ,D,a,w,ha,hL,⟨G,r⟩=>by
  cases hL with
  | cons _ _ _ rd ws D' _ hdo hL=>
   rw [List.length_cons,List.range'_succ,wpOps_cons]
   refine ec6 hU r hN (o:=o) (by have:=ha 0; simpa using this.symm) hdo (fun a' w' hR'=>?_)
   exact dA5 hU hN hQ rest (i+1) _ D' a' w' (fun j=>by have:=ha (j+1); rw [show i+(j+1)=i+1+j by omega] at this; simpa using this) hL hR'
end
end Go.VI
namespace Go.VI
open Go
abbrev Dat (U:ad6):=List (List Nat × List (Nat × AV U.τ) × Option (Nat × Nat))
section
variable {P:Program} {U:ad6} {N:Nat} {L0:Nat→Nat} {G0:ab7} {w0:World} {adv:Adv}
def ad4 (S:Nat→Bool):Dat U→Nat→ac0 U→ac0 U
 | [],_,σ=>σ
 | (_,ws,_)::D,i,σ=>ad4 S D (i+1) (if S i then ad1 σ ws else σ)
theorem aH8:∀ (ws:List (Nat × AV U.τ)) (σ:ac0 U) (x:Nat),x ∉ ws.map (·.1)→ad1 σ ws x=σ x
 | [],_,_,_=>rfl
 | (s,v)::ws,σ,x,h=>by
  simp only [List.map_cons,List.mem_cons,not_or] at h
  rw [ad1,aH8 ws _ x h.2]
  simp [upd,h.1]
theorem dc8:∀ (ws:List (Nat × AV U.τ)) (σ σ':ac0 U) (x:Nat),x∈ws.map (·.1)→ad1 σ ws x=ad1 σ' ws x
 | [],_,_,_,h=>by simp at h
 | (s,v)::ws,σ,σ',x,h=>by
  simp only [ad1]
  by_cases hx:x∈ws.map (·.1)
  ·exact dc8 ws _ _ x hx
  ·rw [aH8 ws _ x hx,aH8 ws _ x hx]
   simp only [List.map_cons,List.mem_cons] at h
   have:x=s:=h.resolve_right hx
   simp [upd,this]
theorem eB0 (ws:List (Nat × AV U.τ)) (σ σ':ac0 U) (x:Nat) (h:σ x=σ' x):ad1 σ ws x=ad1 σ' ws x:=by
 by_cases hx:x∈ws.map (·.1)
 ·exact dc8 ws σ σ' x hx
 ·rw [aH8 ws _ x hx,aH8 ws _ x hx,h]
theorem ar5 {S S':Nat→Bool} {x:Nat}:∀ (D:Dat U) (i:Nat) (σ σ':ac0 U),σ x=σ' x→(∀ (m:Nat) d,D[m]?=some d→S (i+m)≠S' (i+m)→x ∉ d.2.1.map (·.1))→ad4 S D i σ x=ad4 S' D i σ' x
 | [],i,σ,σ',h,_=>h
 | (rd,ws,sf)::D,i,σ,σ',h,hd=>by
  simp only [ad4]
  refine ar5 D (i+1) _ _ ?_ (fun m d hm hS=>hd (m+1) d (by simpa using hm) (by rw [show i+(m+1)=i+1+m by omega]; exact hS))
  have h0:=hd 0 (rd,ws,sf) rfl
  rw [Nat.add_zero] at h0
  cases h1:S i <;> cases h2:S' i <;> simp only [Bool.false_eq_true,if_true,if_false]
  ·exact h
  ·rw [aH8 ws _ x (h0 (by simp [h1,h2])),h]
  ·rw [aH8 ws _ x (h0 (by simp [h1,h2])),h]
  ·exact eB0 ws _ _ x h
theorem aM4 {S:Nat→Bool}:∀ (D:Dat U) (i:Nat) (σ:ac0 U),(∀ m,m < D.length→S (i+m)=false)→ad4 S D i σ=σ
 | [],_,_,_=>rfl
 | (rd,ws,sf)::D,i,σ,h=>by
  have h0:=h 0 (by simp)
  rw [Nat.add_zero] at h0
  simp only [ad4,h0,Bool.false_eq_true,if_false]
  exact aM4 D (i+1) σ (fun m hm=>by have:=h (m+1) (by simp; omega); rwa [show i+(m+1)=i+1+m by omega] at this)
theorem bO1 {S:Nat→Bool} {x:Nat} (τ:ac0 U):∀ (D:Dat U) (i j:Nat) (σ:ac0 U) (d:List Nat × List (Nat × AV U.τ) × Option (Nat × Nat)),D[j]?=some d→S (i+j)=true→x∈d.2.1.map (·.1)→(∀ (m:Nat) e,j < m→D[m]?=some e→S (i+m)=true→x ∉ e.2.1.map (·.1))→ad4 S D i σ x=ad1 τ d.2.1 x
 | [],i,j,σ,d,h,_,_,_=>by simp at h
 | (rd,ws,sf)::D,i,j,σ,d,h,hS,hx,hl=>by
  simp only [ad4]
  cases j with
  | zero=>
   simp at h; subst h
   rw [Nat.add_zero] at hS
   simp only [hS,if_true]
   rw [ar5 (S:=S) (S':=fun _=>false) D (i+1) (ad1 σ ws) (ad1 τ ws) (dc8 ws _ _ x hx) (fun m e hm hne=>hl (m+1) e (by omega) (by simpa using hm) (by rw [show i+(m+1)=i+1+m by omega]; simpa using hne))]
   rw [aM4 D (i+1) _ (fun _ _=>rfl)]
  | succ j=>
   refine bO1 τ D (i+1) j _ d (by simpa using h) (by rw [show i+1+j=i+(j+1) by omega]; exact hS) hx (fun m e hjm hm hSm=>hl (m+1) e (by omega) (by simpa using hm) (by rw [show i+(m+1)=i+1+m by omega]; exact hSm))
theorem ep9 {tree:Oper→ac6 U}:∀ {rest:List Oper} {σ:ac0 U} {D:Dat U} {σ':ac0 U},Lex P U tree rest σ D σ'→D.length=rest.length∧(∀ i,ad4 (fun _=>true) D i σ=σ')∧
  ∀ (j i:Nat) o,rest[j]?=some o→∃ d,D[j]?=some d∧aa5 P U (ad4 (fun m=>decide (m < i+j)) D i σ) (tree o) d.1 d.2.1∧d.2.2=aK9 P (ad4 (fun m=>decide (m < i+j)) D i σ) o:=by
 intro rest σ D σ' h
 induction h with
 | nil σ=>exact ⟨rfl,fun _=>rfl,fun j i o h=>by simp at h⟩
 | cons o rest σ rd ws D σ' hdo hL ih=>
  obtain ⟨h1,h2,h3⟩:=ih
  refine ⟨by simp [h1],fun i=>by simp only [ad4,if_true]; exact h2 (i+1),fun j i o' ho=>?_⟩
  cases j with
  | zero=>
   simp at ho; subst ho
   refine ⟨(rd,ws,aK9 P σ o),rfl,?_⟩
   have:ad4 (fun m=>decide (m < i+0)) ((rd,ws,aK9 P σ o)::D) i σ=σ:=aM4 _ _ _ (fun m _=>by simp)
   rw [this]; exact ⟨hdo,rfl⟩
  | succ j=>
   obtain ⟨d,k1,k2⟩:=h3 j (i+1) o' (by simpa using ho)
   refine ⟨d,by simpa using k1,?_⟩
   rw [show i+(j+1)=i+1+j by omega]
   have:ad4 (fun m=>decide (m < i+1+j)) ((rd,ws,aK9 P σ o)::D) i σ=ad4 (fun m=>decide (m < i+1+j)) D (i+1) (ad1 σ ws):=by
    have hlt:i < i+1+j:=by omega
    simp only [ad4,hlt,decide_true,if_true]
   rw [this]; exact k2
def bh5 (acc:Array Nat) (s:Nat) (e:Edge):Nat:=if Region.binds .any e then s ||| 2 ^ e.on ||| acc.getD e.on 0 else s
theorem dN8 (acc:Array Nat):∀ (l:List Edge) (s p:Nat),Nat.testBit (l.foldl (bh5 acc) s) p=true→Nat.testBit s p=true∨∃ e∈l,Region.binds .any e=true∧(p=e.on∨Nat.testBit (acc.getD e.on 0) p=true)
 | [],s,p,h=>.inl h
 | e::l,s,p,h=>by
  rcases dN8 acc l _ p h with h1 | ⟨e',he',h1⟩
  ·unfold bh5 at h1
   split at h1
   ·rename_i hb
    rw [Nat.testBit_or,Nat.testBit_or,Bool.or_eq_true,Bool.or_eq_true] at h1
    rcases h1 with (h1 | h1) | h1
    ·exact .inl h1
    ·refine .inr ⟨e,List.mem_cons_self ..,hb,.inl ?_⟩
     have:=Nat.testBit_two_pow (n:=e.on) (m:=p)
     rw [this] at h1
     exact (of_decide_eq_true h1).symm
    ·exact .inr ⟨e,List.mem_cons_self ..,hb,.inr h1⟩
   ·exact .inl h1
  ·exact .inr ⟨e',List.mem_cons_of_mem _ he',h1⟩
theorem di9:∀ (l:List Oper) (acc:Array Nat),let r:=l.foldl (fun acc o=>acc.push (o.after.toList.foldl (bh5 acc) 0)) acc
  r.size=acc.size+l.length∧(∀ i,i < acc.size→r[i]?=acc[i]?)∧
  ∀ (j:Nat) o,l[j]?=some o→∀ p,Nat.testBit (r.getD (acc.size+j) 0) p=true→∃ e∈o.after,Region.binds .any e=true∧(p=e.on∨(e.on < acc.size+j∧Nat.testBit (r.getD e.on 0) p=true))
 | [],acc=>⟨rfl,fun _ _=>rfl,fun j o h=>by simp at h⟩
 | o::l,acc=>by
  obtain ⟨h1,h2,h3⟩:=di9 l (acc.push (o.after.toList.foldl (bh5 acc) 0))
  simp only [List.foldl_cons] at h1 h2 h3 ⊢
  rw [Array.size_push] at h1 h2 h3
  refine ⟨by rw [h1,List.length_cons]; omega,fun i hi=>?_,fun j o' hj p hp=>?_⟩
  ·rw [h2 i (by omega),Array.getElem?_push,if_neg (by omega)]
  ·cases j with
   | zero=>
    simp at hj; subst hj
    rw [Nat.add_zero] at hp ⊢
    have hr:=h2 acc.size (by omega)
    rw [Array.getElem?_push,if_pos rfl] at hr
    rw [Array.getD_eq_getD_getElem?,hr,Option.getD_some] at hp
    rcases dN8 acc _ _ p hp with h | ⟨e,he,hb,h⟩
    ·simp at h
    ·refine ⟨e,by simpa using he,hb,?_⟩
     rcases h with h | h
     ·exact .inl h
     ·right
      have hlt:e.on < acc.size:=by
       rcases Nat.lt_or_ge e.on acc.size with h' | h'
       ·exact h'
       ·rw [Array.getD_eq_getD_getElem?,Array.getElem?_eq_none h'] at h; simp at h
      refine ⟨hlt,?_⟩
      have hr:=h2 e.on (by omega)
      rw [Array.getElem?_push,if_neg (by omega)] at hr
      rw [Array.getD_eq_getD_getElem?,hr,← Array.getD_eq_getD_getElem?]
      exact h
   | succ j=>
    obtain ⟨e,he,hb,h⟩:=h3 j o' (by simpa using hj) p (by rw [show acc.size+1+j=acc.size+(j+1) by omega]; exact hp)
    exact ⟨e,he,hb,h.imp id fun ⟨k1,k2⟩=>⟨by omega,k2⟩⟩
theorem dY3 (ops:List Oper) (j:Nat) (o:Oper) (hj:ops[j]?=some o) (p:Nat) (hp:Nat.testBit ((Region.before ops.toArray).toList.getD j 0) p=true) :
  ∃ e∈o.after,Region.binds .any e=true∧(p=e.on∨(e.on < j∧Nat.testBit ((Region.before ops.toArray).toList.getD e.on 0) p=true)):=by
 have hb:Region.before ops.toArray=ops.foldl (fun acc o=>acc.push (o.after.toList.foldl (bh5 acc) 0)) #[]:=by
  unfold Region.before
  rw [← Array.foldl_toList]
  simp only [← Array.foldl_toList]
  rfl
 have hg:∀ i,(Region.before ops.toArray).toList.getD i 0=(Region.before ops.toArray).getD i 0:=fun i=>by
  rw [Array.getD_eq_getD_getElem?,List.getD_eq_getElem?_getD,Array.getElem?_toList]
 rw [hg] at hp
 obtain ⟨_,_,h3⟩:=di9 ops #[]
 rw [hb] at hp
 obtain ⟨e,he,hbd,h⟩:=h3 j o hj p (by simpa using hp)
 refine ⟨e,he,hbd,?_⟩
 rw [hg,hb]
 simpa using h
theorem cF7:∀ {ops:List Oper} {i:Nat},be7 ops i=true→∀ (j:Nat) o,ops[j]?=some o→∀ e∈o.after,Region.binds .any e=true→e.on < i+j
 | [],i,_,j,o,h=>by simp at h
 | o::r,i,h,j,o',ho=>by
  simp only [be7] at h
  cases hc:(o.after.toList.all fun e=>!(Region.binds .any e) || Nat.blt e.on i) with
  | false=>rw [hc] at h; cases h
  | true=>
   rw [hc] at h
   intro e he hb
   cases j with
   | zero=>
    simp at ho; subst ho
    have:=List.all_eq_true.1 hc e (by simpa using he)
    rw [hb] at this
    simp only [Bool.not_true,Bool.false_or] at this
    have:=Nat.le_of_ble_eq_true this
    omega
   | succ j=>
    have:=cF7 h j o' (by simpa using ho) e he hb
    omega
theorem eq0 {l:List Bool} {i:Nat} (h:l[i]?=some false):(l.set i true).count false+1=l.count false:=by
 induction l generalizing i with
 | nil=>simp at h
 | cons b l ih=>
  cases i with
  | zero=>
   simp at h; subst h
   simp
  | succ i=>
   have:=ih (i:=i) (by simpa using h)
   cases b <;> simp <;> omega
theorem eh8 (hU:aF4 P U) {Q:Exit→Act→World→Prop} {all:List Oper} (hN:adv.n≤N) {σ0 σ':ac0 U} {D:Dat U} (hL:Lex P U (ar0 P adv all) all σ0 D σ')
  (hap:∀ (p m:Nat) d d',p < m→D[p]?=some d→D[m]?=some d'→aX9 ((Region.before all.toArray).toList.getD m 0) d'.1 (d'.2.1.map (·.1)) d'.2.2 (p,d.1,d.2.1.map (·.1),d.2.2))
  (hed:be7 all 0=true) (hQ:∀ a w,aj3 P U N L0 G0 w0 σ' a w→Q .normal a w) :
  ∀ (fuel:Nat) (listed:Array Bool) (a:Act) (w:World),listed.size=all.length→listed.toList.count false=fuel→
   (∀ (m p:Nat),listed.getD m false=true→Nat.testBit ((Region.before all.toArray).toList.getD m 0) p=true→listed.getD p false=true)→
   aj3 P U N L0 G0 w0 (ad4 (fun m=>listed.getD m false) D 0 σ0) a w→wpAny P .any all.toArray Q fuel listed a w:=by
 obtain ⟨hlen,hall,hdo⟩:=ep9 hL
 intro fuel
 have done:∀ (listed:Array Bool) (a:Act) (w:World),listed.size=all.length→Region.ready .any all.toArray listed=[]→aj3 P U N L0 G0 w0 (ad4 (fun m=>listed.getD m false) D 0 σ0) a w→Q .normal a w:=by
  intro listed a w hsz hr hA
  have hl:∀ m,m < all.length→listed.getD m false=true:=by
   intro m
   induction m using Nat.strongRecOn with
   | _ m ih=>
    intro hm
    cases hc:listed.getD m false with
    | true=>rfl
    | false=>
     exfalso
     obtain ⟨o,ho⟩:∃ o,all[m]?=some o:=⟨_,List.getElem?_eq_getElem hm⟩
     have:m∈Region.ready .any all.toArray listed:=by
      rw [mem_ready]
      refine ⟨?_,o,by simpa using ho,fun e he hb=>?_⟩
      ·rw [Array.getD_eq_getD_getElem?] at hc ⊢
       rw [Array.getElem?_eq_getElem (by omega)] at hc ⊢
       simpa using hc
      ·have:=cF7 hed m o ho e he hb
       exact ih e.on (by omega) (by omega)
     rw [hr] at this
     cases this
  have:ad4 (fun m=>listed.getD m false) D 0 σ0=σ':=by
   rw [← hall 0]
   funext x
   exact ar5 D 0 σ0 σ0 rfl (fun m d hm hne=>by
    exfalso
    have:=(List.getElem?_eq_some_iff.1 hm).1
    rw [Nat.zero_add,hl m (by omega)] at hne
    exact hne rfl)
  rw [this] at hA
  exact hQ a w hA
 have step:∀ (listed:Array Bool) (j:Nat),listed.size=all.length→j∈Region.ready .any all.toArray listed→
   (∀ (m p:Nat),listed.getD m false=true→Nat.testBit ((Region.before all.toArray).toList.getD m 0) p=true→listed.getD p false=true)→
   ∃ o d,all[j]?=some o∧D[j]?=some d∧listed[j]?=some false∧aa5 P U (ad4 (fun m=>listed.getD m false) D 0 σ0) (ar0 P adv all o) d.1 d.2.1∧
    (∀ (m p:Nat),(listed.setIfInBounds j true).getD m false=true→Nat.testBit ((Region.before all.toArray).toList.getD m 0) p=true→(listed.setIfInBounds j true).getD p false=true)∧
    ad1 (ad4 (fun m=>listed.getD m false) D 0 σ0) d.2.1=ad4 (fun m=>(listed.setIfInBounds j true).getD m false) D 0 σ0:=by
  intro listed j hsz hj hdc
  obtain ⟨hun,o,ho,hedge⟩:=mem_ready.1 hj
  have ho:all[j]?=some o:=by simpa using ho
  have hjl:j < all.length:=(List.getElem?_eq_some_iff.1 ho).1
  have hlj:listed[j]?=some false:=by
   rw [Array.getD_eq_getD_getElem?,Array.getElem?_eq_getElem (by omega)] at hun
   rw [Array.getElem?_eq_getElem (by omega)]
   simpa using hun
  have hjf:listed.getD j false=false:=by rw [Array.getD_eq_getD_getElem?,hlj]; rfl
  obtain ⟨d,hd,hdoes,hsf⟩:=hdo j 0 o ho
  rw [Nat.zero_add] at hdoes hsf
  have hpre:∀ p,Nat.testBit ((Region.before all.toArray).toList.getD j 0) p=true→listed.getD p false=true:=by
   intro p hp
   obtain ⟨e,he,hb,h⟩:=dY3 all j o ho p hp
   have hl:=hedge e he hb
   rcases h with rfl | ⟨_,h⟩
   ·exact hl
   ·exact hdc e.on p hl h
  have hpost:∀ p,listed.getD p false=true→Nat.testBit ((Region.before all.toArray).toList.getD p 0) j=true→False:=fun p hp hb=>by
   have:=hdc p j hp hb
   rw [hjf] at this; cases this
  have hset:∀ m,(listed.setIfInBounds j true).getD m false=(if m=j then true else listed.getD m false):=fun m=>by
   rw [Array.getD_eq_getD_getElem?,Array.getElem?_setIfInBounds]
   by_cases hm:j=m
   ·subst hm
    rw [if_pos rfl,if_pos rfl,if_pos (by omega)]
    rfl
   ·rw [if_neg hm,if_neg (Ne.symm hm),Array.getD_eq_getD_getElem?]
  have hun:∀ (m:Nat) e,D[m]?=some e→decide (m < j)≠listed.getD m false→(∀ x∈d.2.1.map (·.1),x ∉ e.2.1.map (·.1))∧((∀ x∈d.1,x ∉ e.2.1.map (·.1))∨
    ∃ s off off',d.2.2=some (s,off)∧e.2.2=some (s,off')∧off≠off'∧∀ x∈d.1,x≠s→x ∉ e.2.1.map (·.1)):=by
   intro m e hm hne
   rcases Nat.lt_trichotomy m j with h | h | h
   ·have hmf:listed.getD m false=false:=by
     cases hc:listed.getD m false with
     | false=>rfl
     | true=>rw [hc] at hne; simp [h] at hne
    rcases hap m j e d h hm hd with hb | ⟨h0,⟨_,hb⟩ | ⟨s,off,off',h1,h2,h3,_,h5⟩⟩
    ·have:=hpre m hb; rw [hmf] at this; cases this
    ·exact ⟨h0,.inl hb⟩
    ·exact ⟨h0,.inr ⟨s,off,off',h1,h2,h3,h5⟩⟩
   ·subst h
    rw [hjf] at hne
    simp at hne
   ·have hmt:listed.getD m false=true:=by
     cases hc:listed.getD m false with
     | true=>rfl
     | false=>rw [hc] at hne; simp at hne; omega
    rcases hap j m d e h hd hm with hb | ⟨h0,⟨hb,_⟩ | ⟨s,off,off',h1,h2,h3,h4,_⟩⟩
    ·exact (hpost m hmt hb).elim
    ·exact ⟨fun x hx hxe=>h0 x hxe hx,.inl fun x hx hxe=>hb x hxe hx⟩
    ·exact ⟨fun x hx hxe=>h0 x hxe hx,.inr ⟨s,off',off,h2,h1,fun he=>h3 he.symm,fun x hx hn hxe=>h4 x hxe hn hx⟩⟩
  have hdo1:aa5 P U (ad4 (fun m=>listed.getD m false) D 0 σ0) (ar0 P adv all o) d.1 d.2.1:=by
   by_cases hall1:∀ (m:Nat) e,D[m]?=some e→decide (m < j)≠listed.getD m false→∀ x∈d.1,x ∉ e.2.1.map (·.1)
   ·exact hdoes.same fun x hx=>ar5 D 0 σ0 σ0 rfl fun m e hm hne=>by
     rw [Nat.zero_add] at hne
     exact hall1 m e hm (Ne.symm hne) x hx
   ·have hex:∃ m:Nat,∃ e x,D[m]?=some e∧decide (m < j)≠listed.getD m false∧x∈d.1∧x∈e.2.1.map (·.1):=by
     refine Classical.byContradiction fun hn=>hall1 fun m e hm hne x hx hxe=>hn ⟨m,e,x,hm,hne,hx,hxe⟩
    obtain ⟨m0,e0,x0,hm0,hne0,hx0,hxe0⟩:=hex
    obtain ⟨hw0,hc⟩:=hun m0 e0 hm0 hne0
    rcases hc with hc | ⟨s,off,off0,hs1,hs2,hs3,hs4⟩
    ·exact absurd hxe0 (hc x0 hx0)
    have hx0s:x0=s:=Classical.byContradiction fun hn=>hs4 x0 hx0 hn hxe0
    subst hx0s
    have hsd:x0 ∉ d.2.1.map (·.1):=fun h=>hw0 x0 h hxe0
    obtain ⟨cs,g1,g2,g3⟩:=(dA3 (hsf.symm.trans hs1) hdoes).box
    let V:ac0 U→Option (Option (CV U.τ)):=fun σ=>match σ x0 with | .box cs=>some cs[off]? | _=>none
    have hV:V (ad4 (fun m=>decide (m < j)) D 0 σ0)=V (ad4 (fun m=>listed.getD m false) D 0 σ0):=by
     have main:∀ k,V (ad4 (fun m=>decide (m < j) && decide (m < k)) D 0 σ0)=V (ad4 (fun m=>listed.getD m false && decide (m < k)) D 0 σ0):=by
      intro k
      induction k with
      | zero=>rw [aM4 D 0 σ0 (fun m _=>by simp),aM4 D 0 σ0 (fun m _=>by simp)]
      | succ k ih=>
       have stay:∀ S:Nat→Bool,(S k=false∨∀ e,D[k]?=some e→x0 ∉ e.2.1.map (·.1))→V (ad4 (fun m=>S m && decide (m < k+1)) D 0 σ0)=V (ad4 (fun m=>S m && decide (m < k)) D 0 σ0):=by
        intro S hS
        have:ad4 (fun m=>S m && decide (m < k+1)) D 0 σ0 x0=ad4 (fun m=>S m && decide (m < k)) D 0 σ0 x0:=ar5 D 0 σ0 σ0 rfl fun m e hm hne=>by
         rw [Nat.zero_add] at hne
         by_cases hmk:m=k
         ·subst hmk
          rcases hS with hS | hS
          ·rw [hS] at hne; simp at hne
          ·exact hS e hm
         ·have:decide (m < k+1)=decide (m < k):=by
           by_cases h:m < k
           ·simp [h,Nat.lt_succ_of_lt h]
           ·have:¬m < k+1:=by omega
            simp [h,this]
          simp only [this] at hne
          exact absurd rfl hne
        show (match ad4 (fun m=>S m && decide (m < k+1)) D 0 σ0 x0 with | .box cs=>some cs[off]? | _=>none)=_
        rw [this]
       have put:∀ (S:Nat→Bool) (τ:ac0 U) e,S k=true→D[k]?=some e→x0∈e.2.1.map (·.1)→ad4 (fun m=>S m && decide (m < k+1)) D 0 σ0 x0=ad1 τ e.2.1 x0:=fun S τ e hS he hx=>
        bO1 (S:=fun m=>S m && decide (m < k+1)) τ D 0 k σ0 e he (by rw [Nat.zero_add]; simp [hS]) hx fun m e' hkm hm hSm=>by
         rw [Nat.zero_add] at hSm
         simp at hSm
         omega
       have keep:∀ (S:Nat→Bool) e,D[k]?=some e→S k=true→x0∈e.2.1.map (·.1)→decide (k < j)≠listed.getD k false→(ad4 (fun m=>S m && decide (m < k)) D 0 σ0 x0=ad4 (fun m=>decide (m < k)) D 0 σ0 x0)→V (ad4 (fun m=>S m && decide (m < k+1)) D 0 σ0)=V (ad4 (fun m=>S m && decide (m < k)) D 0 σ0):=by
        intro S e he hS hx hne hL
        obtain ⟨_,hcc⟩:=hun k e he hne
        rcases hcc with hcc | ⟨s',off',offk,t1,t2,t3,_⟩
        ·exact absurd hx (hcc x0 hx0)
        rw [hs1] at t1
        injection t1 with t1
        injection t1 with t1 t1'
        subst t1; subst t1'
        have hkl:=(List.getElem?_eq_some_iff.1 he).1
        obtain ⟨ok,hok⟩:∃ ok,all[k]?=some ok:=⟨_,List.getElem?_eq_getElem (by omega)⟩
        obtain ⟨e',he',hdk,hsk⟩:=hdo k 0 ok hok
        rw [he] at he'; injection he' with he'; subst he'
        rw [Nat.zero_add] at hdk hsk
        obtain ⟨csk,q1,q2,_⟩:=(dA3 (hsk.symm.trans t2) hdk).box
        obtain ⟨c,q2⟩:=q2 hx
        show (match ad4 (fun m=>S m && decide (m < k+1)) D 0 σ0 x0 with | .box cs=>some cs[off]? | _=>none)=(match ad4 (fun m=>S m && decide (m < k)) D 0 σ0 x0 with | .box cs=>some cs[off]? | _=>none)
        rw [put S σ0 e hS he hx,q2,hL,q1]
        simp only
        rw [List.getElem?_set_ne (fun h=>t3 h.symm)]
       cases he:D[k]? with
       | none=>rw [stay _ (.inr fun e h=>by rw [he] at h; cases h),stay _ (.inr fun e h=>by rw [he] at h; cases h)]; exact ih
       | some e=>
        by_cases hx:x0∈e.2.1.map (·.1)
        ·cases ha:decide (k < j) with
         | true=>cases hb:listed.getD k false with
          | true=>
           show (match ad4 (fun m=>decide (m < j) && decide (m < k+1)) D 0 σ0 x0 with | .box cs=>some cs[off]? | _=>none)=(match ad4 (fun m=>listed.getD m false && decide (m < k+1)) D 0 σ0 x0 with | .box cs=>some cs[off]? | _=>none)
           rw [put (fun m=>decide (m < j)) σ0 e ha he hx,put (fun m=>listed.getD m false) σ0 e hb he hx]
          | false=>
           rw [keep (fun m=>decide (m < j)) e he ha hx (by rw [ha,hb]; simp) ?_,stay (fun m=>listed.getD m false) (.inl hb)]
           ·exact ih
           ·congr 1
            congr 1
            funext m
            have:=of_decide_eq_true ha
            by_cases h:m < k
            ·have:m < j:=by omega
             simp [h,this]
            ·simp [h]
         | false=>cases hb:listed.getD k false with
          | false=>rw [stay (fun m=>decide (m < j)) (.inl ha),stay (fun m=>listed.getD m false) (.inl hb)]; exact ih
          | true=>
           rw [stay (fun m=>decide (m < j)) (.inl ha),keep (fun m=>listed.getD m false) e he hb hx (by rw [ha,hb]; simp) ?_]
           ·exact ih
           ·refine ar5 D 0 σ0 σ0 rfl fun m e' hm hne=>?_
            rw [Nat.zero_add] at hne
            have hmk:m < k:=Classical.byContradiction fun h=>by simp [h] at hne
            have hml:listed.getD m false=false:=by
             cases hc:listed.getD m false with
             | false=>rfl
             | true=>simp [hmk,hc] at hne
            intro hxm
            rcases hap m k e' e hmk hm he with hb' | ⟨h0,_⟩
            ·have:=hdc k m hb hb'
             rw [hml] at this; cases this
            ·exact h0 x0 hx hxm
        ·rw [stay _ (.inr fun e' h=>by rw [he] at h; injection h with h; subst h; exact hx),stay _ (.inr fun e' h=>by rw [he] at h; injection h with h; subst h; exact hx)]; exact ih
     have h1:=main D.length
     have lim:∀ S:Nat→Bool,ad4 (fun m=>S m && decide (m < D.length)) D 0 σ0=ad4 S D 0 σ0:=fun S=>funext fun x=>ar5 D 0 σ0 σ0 rfl fun m e hm hne=>by
      rw [Nat.zero_add] at hne
      have:=(List.getElem?_eq_some_iff.1 hm).1
      simp [this] at hne
     rw [lim,lim] at h1
     exact h1
    have hV2:V (ad4 (fun m=>listed.getD m false) D 0 σ0)=some cs[off]?:=by
     rw [← hV]
     show (match ad4 (fun m=>decide (m < j)) D 0 σ0 x0 with | .box cs=>some cs[off]? | _=>none)=_
     rw [g1]
    have hcs2:∃ cs2,ad4 (fun m=>listed.getD m false) D 0 σ0 x0=.box cs2∧cs2[off]?=cs[off]?:=by
     change (match ad4 (fun m=>listed.getD m false) D 0 σ0 x0 with | .box cs=>some cs[off]? | _=>none)=_ at hV2
     split at hV2
     ·rename_i cs2 h
      injection hV2 with hV2
      exact ⟨cs2,h,hV2⟩
     ·cases hV2
    obtain ⟨cs2,p1,p2⟩:=hcs2
    refine g3 _ cs2 p1 p2 (fun x hx hn=>?_) hsd
    refine ar5 D 0 σ0 σ0 rfl fun m e hm hne=>?_
    rw [Nat.zero_add] at hne
    rcases (hun m e hm (Ne.symm hne)).2 with h | ⟨s',_,_,t1,_,_,h⟩
    ·exact h x hx
    ·rw [hs1] at t1
     injection t1 with t1
     injection t1 with t1 t1'
     subst t1
     exact h x hx hn
  refine ⟨o,d,ho,hd,hlj,hdo1,fun m p hm hp=>?_,?_⟩
  ·rw [hset] at hm ⊢
   by_cases hpj:p=j
   ·rw [if_pos hpj]
   ·rw [if_neg hpj]
    by_cases hmj:m=j
    ·subst hmj; exact hpre p hp
    ·rw [if_neg hmj] at hm
     exact hdc m p hm hp
  ·funext x
   by_cases hx:x∈d.2.1.map (·.1)
   ·refine (bO1 (S:=fun m=>(listed.setIfInBounds j true).getD m false) _ D 0 j σ0 d hd (by rw [Nat.zero_add,hset,if_pos rfl]) hx (fun m e hjm hm hS=>?_)).symm
    rw [Nat.zero_add,hset,if_neg (by omega)] at hS
    intro hxe
    rcases hap j m d e hjm hd hm with hb | ⟨hb,_⟩
    ·exact hpost m hS hb
    ·exact hb x hxe hx
   ·rw [aH8 _ _ x hx]
    refine ar5 D 0 σ0 σ0 rfl (fun m e hm hne=>?_)
    rw [Nat.zero_add,hset] at hne
    by_cases hmj:m=j
    ·subst hmj
     rw [hd] at hm; injection hm with hm; subst hm
     exact hx
    ·rw [if_neg hmj] at hne
     exact absurd rfl hne
 induction fuel with
 | zero=>
  intro listed a w hsz hcnt hdc hA
  have hr:Region.ready .any all.toArray listed=[]:=by
   cases hr:Region.ready .any all.toArray listed with
   | nil=>rfl
   | cons j js=>
    exfalso
    obtain ⟨o,d,ho,_,hlj,_⟩:=step listed j hsz (by rw [hr]; exact List.mem_cons_self ..) hdc
    have:false∈listed.toList:=by
     refine List.mem_of_getElem? (i:=j) ?_
     rw [Array.getElem?_toList]; exact hlj
    have:=List.count_pos_iff.2 this
    omega
  exact ⟨hr,done listed a w hsz hr hA⟩
 | succ fuel ih=>
  intro listed a w hsz hcnt hdc hA
  refine ⟨fun hr=>done listed a w hsz hr hA,fun j hj=>?_⟩
  obtain ⟨o,d,ho,hd,hlj,hdoes,hdc',hst⟩:=step listed j hsz hj hdc
  obtain ⟨G,r⟩:=hA
  refine ec6 hU r hN ho hdoes (fun a' w' hR'=>?_)
  refine ih _ a' w' (by simpa using hsz) ?_ hdc' (by rw [← hst]; exact hR')
  have:=eq0 (l:=listed.toList) (i:=j) (by rw [Array.getElem?_toList]; exact hlj)
  rw [Array.toList_setIfInBounds]
  omega
theorem R.drew {G:ab7} {σ:ac0 U} {a:Act} {w:World} (r:R P U N L0 G0 w0 G σ a w):R P U N L0 G0 w0 G σ a { w with drawn:=w.drawn+1 }:=by
 have x:Ext (fun _=>False) G G σ σ w { w with drawn:=w.drawn+1 }:=⟨fun _ _ h=>⟨h,rfl⟩,fun _ _ h _=>⟨h,rfl,fun _ h=>h⟩,fun _ _=>rfl,fun s cs h=>⟨cs,h⟩,fun s e y q h=>⟨e,y,h,rfl⟩⟩
 have s:aF1 G w G { w with drawn:=w.drawn+1 }:=⟨rfl,rfl,rfl,Nat.le_refl _,fun _ _ _=>rfl,fun _ _ h=>⟨h,rfl⟩,fun _ _ h=>.inl h,fun _ _ h=>.inr (by rw [h]; rfl)⟩
 exact r.go x s rfl rfl (fun _ _=>rfl) (fun b o h=>.inl h) (fun b L h=>.inl ⟨L,h⟩) (fun t cs' ht hσ=>⟨cs',hσ,rfl,fun _ _=>rfl⟩) (fun t=>.inl ⟨rfl,rfl,fun h=>h,fun _ h=>h⟩)
end
end Go.VI
namespace Go.VI
open Go
section
variable {U:ad6} {Res:Type}
theorem dA6 (c:CV U.τ) (k:CV U.τ→Option Res):dM4 c k=k c:=by
 cases c <;> first | rfl | (rename_i f; cases f <;> rfl)
theorem aU6:∀ (cs:List (CV U.τ)) (k:List (CV U.τ)→Option Res),be5 cs k=k cs
 | [],_=>rfl
 | c::r,k=>by simp only [be5,dA6,aU6 r]
theorem cr6:∀ (vs:List (Bool × List (CV U.τ))) (k:List (Bool × List (CV U.τ))→Option Res),bM8 vs k=k vs
 | [],_=>rfl
 | (true,cs)::r,k=>by simp only [bM8,aU6,cr6 r]
 | (false,cs)::r,k=>by simp only [bM8,aU6,cr6 r]
theorem eq1 (v:AV U.τ) (k:AV U.τ→Option Res):bN7 v k=k v:=by
 cases v with
 | undef=>rfl
 | one c=>simp only [bN7,dA6]
 | agg cs=>simp only [bN7,aU6]
 | tup vs=>simp only [bN7,cr6]
 | box cs=>simp only [bN7,aU6]
 | bblk e s t=>cases t <;> rfl
 | im cs=>simp only [bN7,aU6]
theorem bh6:∀ (st:St U) (k:St U→Option Res),be6 st k=k st
 | [],_=>rfl
 | (s,v)::r,k=>by simp only [be6,eq1,bh6 r]
end
section
variable {P:Program} {U:ad6} {N:Nat} {L0:Nat→Nat} {G0:ab7} {w0:World} {G:ab7} {σ σ':ac0 U} {a:Act} {w:World} {adv:Adv}
theorem R.tell (r:R P U N L0 G0 w0 G σ a w) (h:∀ t,ac9 P U G σ' w t (σ' t) (a.tmps.getD t undef)) (hb:∀ t cs',aa9≤t→σ' t=.box cs'→∃ cs,σ t=.box cs∧cs'.length=cs.length):R P U N L0 G0 w0 G σ' a w where
 defers:=r.defers
 env:=r.env
 size:=r.size
 small:=r.small
 slots:=h
 imm:=r.imm
 who:=r.who
 step:=r.step
 loc:=r.loc
 lens t cs' ht hσ:=by
  obtain ⟨cs,h1,h2⟩:=hb t cs' ht hσ
  rw [h2]; exact r.lens t cs ht h1
 rest t cs' ht hσ o ho:=by
  obtain ⟨cs,h1,h2⟩:=hb t cs' ht hσ
  exact r.rest t cs ht h1 o (by rw [← h2]; exact ho)
theorem R.weaken (r:R P U N L0 G0 w0 G σ a w) (h:∀ s,(σ' s=σ s∧∀ u,aj7 (σ s)=some u→σ' u=σ u)∨σ' s=.undef∨σ' s=.one .any):R P U N L0 G0 w0 G σ' a w:=by
 refine r.tell (fun t=>?_) (fun t cs' ht hσ=>?_)
 ·rcases h t with ⟨h1,h2⟩ | h1 | h1
  ·rw [h1]
   have hs:=r.slots t
   cases hv:σ t with
   | one c=>
    rw [hv] at hs h2
    cases c with
    | ref s off=>
     obtain ⟨⟨cs,k1⟩,k2⟩:=hs
     exact ⟨⟨cs,by rw [h2 s rfl]; exact k1⟩,k2⟩
    | sref s=>
     obtain ⟨e,y,q,cap,k1,k2⟩:=hs
     exact ⟨e,y,q,cap,by rw [h2 s rfl]; exact k1,k2⟩
    | eref s i=>
     obtain ⟨⟨e,y,q,k1⟩,k2⟩:=hs
     exact ⟨⟨e,y,q,by rw [h2 s rfl]; exact k1⟩,k2⟩
    | prow s os=>
     obtain ⟨⟨cs,k1⟩,k2⟩:=hs
     exact ⟨⟨cs,by rw [h2 s rfl]; exact k1⟩,k2⟩
    | pcell s q=>
     obtain ⟨⟨cs,k1⟩,k2⟩:=hs
     exact ⟨⟨cs,by rw [h2 s rfl]; exact k1⟩,k2⟩
    | aref s q m i=>
     obtain ⟨⟨cs,k1⟩,k2⟩:=hs
     exact ⟨⟨cs,by rw [h2 s rfl]; exact k1⟩,k2⟩
    | _=>exact hs
   | _=>rw [hv] at hs; exact hs
  ·rw [h1]; trivial
  ·rw [h1]; trivial
 ·rcases h t with ⟨h1,_⟩ | h1 | h1
  ·exact ⟨cs',by rw [← h1]; exact hσ,rfl⟩
  ·rw [h1] at hσ; cases hσ
  ·rw [h1] at hσ; cases hσ
theorem aC6 (s:Nat) (v:AV U.τ) (r:St U) (t:Nat):St.get ((s,v)::r) t=if s=t then v else St.get r t:=by
 simp only [St.get]
 by_cases h:s=t
 ·subst h; simp
 ·rw [aQ6 h]; simp [h]
theorem cr7 (t:Nat):∀ (st:St U) (s:Nat),(forget t st).get s=if s=t then .undef else if aj7 (st.get s)=some t then .one .any else st.get s
 | [],s=>by
  have h1:(forget t ([]:St U)).get s=.undef:=rfl
  have h2:St.get ([]:St U) s=.undef:=rfl
  rw [h1,h2]
  simp [aj7]
 | (q,v)::r,s=>by
  have ih:=cr7 t r s
  simp only [forget]
  by_cases hq:q=t
  ·subst hq
   rw [Nat.beq_refl,cond_true,ih,aC6]
   by_cases hs:s=q
   ·simp [hs]
   ·simp [hs,Ne.symm hs]
  ·rw [aQ6 hq,cond_false]
   have tail:∀ v':AV U.τ,(if q=s then v' else (forget t r).get s)=if s=t then .undef else if aj7 (if q=s then v else St.get r s)=some t then (if q=s then v' else .one .any) else (if q=s then v' else St.get r s):=by
    intro v'
    by_cases hqs:q=s
    ·subst hqs
     simp [hq]
    ·simp only [if_neg hqs,ih]
   rw [aC6]
   cases hr:aj7 v with
   | none=>
    simp only [cond_false]
    rw [aC6,tail v]
    by_cases hqs:q=s
    ·simp [hqs,hr]
    ·simp [hqs]
   | some u=>
    simp only
    by_cases hu:u=t
    ·subst hu
     rw [Nat.beq_refl,cond_true,aC6,tail]
     by_cases hqs:q=s
     ·simp [hqs,hr]
     ·simp [hqs]
    ·rw [aQ6 hu,cond_false,aC6,tail v]
     by_cases hqs:q=s
     ·simp [hqs,hr,hu]
     ·simp [hqs]
theorem aj3.forget {st:St U} (t:Nat) (h:aj3 P U N L0 G0 w0 st.get a w):aj3 P U N L0 G0 w0 (Go.VI.forget t st).get a w:=by
 obtain ⟨G,r⟩:=h
 refine ⟨G,r.weaken fun s=>?_⟩
 rw [cr7]
 by_cases hs:s=t
 ·right; left; simp [hs]
 ·simp only [hs,if_false]
  by_cases hr:aj7 (st.get s)=some t
  ·right; right; simp [hr]
  ·left
   refine ⟨by simp [hr],fun u hu=>?_⟩
   rw [cr7]
   have hut:u≠t:=fun he=>hr (by rw [hu,he])
   have hown:aj7 (st.get u)=none:=by
    have hsl:=r.slots s
    cases hv:st.get s with
    | one c=>
     rw [hv] at hsl hu
     cases c with
     | ref s' off=>simp only [aj7,Option.some.injEq] at hu; subst hu; obtain ⟨⟨cs,k1⟩,_⟩:=hsl; rw [k1]; rfl
     | sref s'=>simp only [aj7,Option.some.injEq] at hu; subst hu; obtain ⟨e,y,q,cap,k1,_⟩:=hsl; rw [k1]; rfl
     | eref s' i=>simp only [aj7,Option.some.injEq] at hu; subst hu; obtain ⟨⟨e,y,q,k1⟩,_⟩:=hsl; rw [k1]; rfl
     | prow s' os=>simp only [aj7,Option.some.injEq] at hu; subst hu; obtain ⟨⟨cs,k1⟩,_⟩:=hsl; rw [k1]; rfl
     | pcell s' q=>simp only [aj7,Option.some.injEq] at hu; subst hu; obtain ⟨⟨cs,k1⟩,_⟩:=hsl; rw [k1]; rfl
     | aref s' q m i=>simp only [aj7,Option.some.injEq] at hu; subst hu; obtain ⟨⟨cs,k1⟩,_⟩:=hsl; rw [k1]; rfl
     | _=>simp [aj7] at hu
    | _=>rw [hv] at hu; simp [aj7] at hu
   simp [hut,hown]
theorem aj3.freshen:∀ (ops:List Oper) {st:St U},aj3 P U N L0 G0 w0 st.get a w→aj3 P U N L0 G0 w0 (Go.VI.freshen ops st).get a w
 | [],st,h=>h
 | o::r,st,h=>by
  show aj3 P U N L0 G0 w0 (Go.VI.freshen r (match o.dst with | some d=>cond (st.get d).owner (Go.VI.forget d st) st | none=>st)).get a w
  refine aj3.freshen r ?_
  cases o.dst with
  | none=>exact h
  | some d=>
   show aj3 P U N L0 G0 w0 (cond (st.get d).owner (Go.VI.forget d st) st).get a w
   cases (st.get d).owner with
   | true=>exact h.forget d
   | false=>exact h
theorem cW0 (keep:List Nat):∀ (st:St U) (s:Nat),(bM7 keep st).get s=if s∈keep∨aa9≤s then cF4 keep (st.get s) else .undef
 | [],s=>by
  have h1:(bM7 keep ([]:St U)).get s=.undef:=rfl
  have h2:St.get ([]:St U) s=.undef:=rfl
  rw [h1,h2]; simp [cF4,aj7]
 | (q,v)::r,s=>by
  have ih:=cW0 keep r s
  simp only [bM7]
  have hk:(ao2 q keep || Nat.ble aa9 q)=true↔(q∈keep∨aa9≤q):=by
   rw [Bool.or_eq_true,aU5,Nat.ble_eq]
  cases hb:(ao2 q keep || Nat.ble aa9 q) with
  | true=>
   have:=hk.1 hb
   simp only [cond_true]
   rw [aC6,aC6,ih]
   by_cases hqs:q=s
   ·subst hqs; simp [this]
   ·simp [hqs]
  | false=>
   have:¬(q∈keep∨aa9≤q):=fun h=>by rw [hk.2 h] at hb; cases hb
   simp only [cond_false]
   rw [ih,aC6]
   by_cases hqs:q=s
   ·subst hqs; simp [this]
   ·simp [hqs]
theorem R.target (r:R P U N L0 G0 w0 G σ a w) {s u:Nat} (h:aj7 (σ s)=some u):aj7 (σ u)=none:=by
 have hsl:=r.slots s
 cases hv:σ s with
 | one c=>
  rw [hv] at hsl h
  cases c with
  | ref s' off=>simp only [aj7,Option.some.injEq] at h; subst h; obtain ⟨⟨cs,k1⟩,_⟩:=hsl; rw [k1]; rfl
  | sref s'=>simp only [aj7,Option.some.injEq] at h; subst h; obtain ⟨e,y,q,cap,k1,_⟩:=hsl; rw [k1]; rfl
  | eref s' i=>simp only [aj7,Option.some.injEq] at h; subst h; obtain ⟨⟨e,y,q,k1⟩,_⟩:=hsl; rw [k1]; rfl
  | prow s' os=>simp only [aj7,Option.some.injEq] at h; subst h; obtain ⟨⟨cs,k1⟩,_⟩:=hsl; rw [k1]; rfl
  | pcell s' q=>simp only [aj7,Option.some.injEq] at h; subst h; obtain ⟨⟨cs,k1⟩,_⟩:=hsl; rw [k1]; rfl
  | aref s' q m i=>simp only [aj7,Option.some.injEq] at h; subst h; obtain ⟨⟨cs,k1⟩,_⟩:=hsl; rw [k1]; rfl
  | _=>simp [aj7] at h
 | _=>rw [hv] at h; simp [aj7] at h
theorem aj3.settle {st:St U} (keep:List Nat) (h:aj3 P U N L0 G0 w0 st.get a w):aj3 P U N L0 G0 w0 (Go.VI.settle keep st).get a w:=by
 obtain ⟨G,r⟩:=h
 obtain ⟨K,key⟩:∃ K:List Nat,∀ s,(Go.VI.settle keep st).get s=if s∈K∨aa9≤s then cF4 K (st.get s) else .undef:=⟨_,fun s=>cW0 _ st s⟩
 refine ⟨G,r.weaken fun s=>?_⟩
 by_cases hs:s∈K∨aa9≤s
 ·cases hr:aj7 (st.get s) with
  | none=>
   left
   rw [key,if_pos hs]
   unfold cF4
   rw [hr]
   exact ⟨rfl,fun u hu=>by cases hu⟩
  | some u=>
   cases hb:(ao2 u K || Nat.ble aa9 u) with
   | false=>
    right; right
    rw [key,if_pos hs]
    unfold cF4
    rw [hr]
    simp only [hb,cond_false]
   | true=>
    left
    rw [key s,if_pos hs]
    refine ⟨by unfold cF4; rw [hr]; simp only [hb,cond_true],fun u' hu'=>?_⟩
    injection hu' with hu'; subst hu'
    have hu:u∈K∨aa9≤u:=by rw [Bool.or_eq_true,aU5,Nat.ble_eq] at hb; exact hb
    rw [key u,if_pos hu]
    unfold cF4
    rw [r.target hr]
 ·right; left; rw [key,if_neg hs]
theorem PC.loosen {I:Nat→Nat→Prop} {c:CV U.τ} {u:Value} (h:PC P U w I c u) (who:Nat→Option (Nat × Option Nat)) (L:Nat × Option Nat):ae3 P U w I who L c.loosen u:=by
 have main:∀ (e:Nat) (css:List (List (CV U.τ))) (c':CV U.τ),cont c=some (e,css,.tight)→cont c'=some (e,css,.app)→ae3 P U w I who L c' u:=by
  intro e css c' hc hc'
  obtain ⟨_,h2,h3⟩:=h.slice hc
  refine .inr ⟨e,css,hc',h2,?_⟩
  rcases h3 with h3 | ⟨h3,_⟩ | ⟨b,off,cap,h4,h5,h6,h7⟩
  ·exact .inl h3
  ·cases h3
  ·exact .inr ⟨b,off,cap,h4,h5,h7,.inl (h6 rfl)⟩
 cases c with
 | sl e xs f=>
  cases f with
  | tight=>exact main e _ _ rfl rfl
  | _=>exact .inl h
 | bs e xs f=>
  cases f with
  | tight=>exact main e _ _ rfl rfl
  | _=>exact .inl h
 | _=>exact .inl h
theorem ae3.loosen {I:Nat→Nat→Prop} {who:Nat→Option (Nat × Option Nat)} {L:Nat × Option Nat} {c:CV U.τ} {u:Value} (h:ae3 P U w I who L c u):ae3 P U w I who L c.loosen u:=by
 rcases h with h | h
 ·exact h.loosen who L
 ·obtain ⟨e,css,h1,h2⟩:=h
  have:c.loosen=c:=by
   cases c with
   | sl e xs f=>cases f <;> first | rfl | (simp [cont] at h1)
   | bs e xs f=>cases f <;> first | rfl | (simp [cont] at h1)
   | _=>rfl
  rw [this]
  exact .inr ⟨e,css,h1,h2⟩
def ec7:AV U.τ→AV U.τ
 | .one c=>.one c.loosen
 | .box cs=>.box (cs.map CV.loosen)
 | v=>v
theorem av3:∀ (st:St U) (s:Nat),(loosen st).get s=ec7 (st.get s)
 | [],_=>rfl
 | (q,v)::r,s=>by
  have ih:=av3 r s
  have hl:loosen ((q,v)::r)=(q,ec7 v)::loosen r:=by cases v <;> rfl
  rw [hl,aC6,aC6,ih]
  split <;> rfl
theorem aj3.loosen {st:St U} (h:aj3 P U N L0 G0 w0 st.get a w):aj3 P U N L0 G0 w0 (Go.VI.loosen st).get a w:=by
 obtain ⟨G,r⟩:=h
 refine ⟨G,r.tell (fun t=>?_) (fun t cs' ht hσ=>?_)⟩
 ·rw [av3]
  have hs:=r.slots t
  cases hv:st.get t with
  | one c=>
   rw [hv] at hs
   cases c with
   | any=>trivial
   | ref s off=>obtain ⟨⟨cs,k1⟩,k2⟩:=hs; exact ⟨⟨cs.map CV.loosen,by rw [av3,k1]; rfl⟩,k2⟩
   | sref s=>obtain ⟨e,y,q,cap,k1,k2⟩:=hs; exact ⟨e,y,q,cap,by rw [av3,k1]; rfl,k2⟩
   | eref s i=>obtain ⟨⟨e,y,q,k1⟩,k2⟩:=hs; exact ⟨⟨e,y,q,by rw [av3,k1]; rfl⟩,k2⟩
   | prow s os=>obtain ⟨⟨cs,k1⟩,k2⟩:=hs; exact ⟨⟨cs.map CV.loosen,by rw [av3,k1]; rfl⟩,k2⟩
   | pcell s q=>obtain ⟨⟨cs,k1⟩,k2⟩:=hs; exact ⟨⟨cs.map CV.loosen,by rw [av3,k1]; rfl⟩,k2⟩
   | aref s q m i=>obtain ⟨⟨cs,k1⟩,k2⟩:=hs; exact ⟨⟨cs.map CV.loosen,by rw [av3,k1]; rfl⟩,k2⟩
   | bool b=>exact hs
   | int k n=>exact hs
   | str s=>exact hs
   | fn f=>exact hs
   | sl e xs f=>
    have:=ae3.loosen (c:=.sl e xs f) hs
    cases f <;> exact this
   | bs e xs f=>
    have:=ae3.loosen (c:=.bs e xs f) hs
    cases f <;> exact this
  | box cs=>
   rw [hv] at hs
   obtain ⟨h1,h2⟩:=hs
   obtain ⟨c,T,fz,k1,k2,k3,k4⟩:=h2.row
   refine ⟨h1,h2.hwho,h2.himm,c,T,fz,k1,by rw [List.length_map]; exact k2,k3,fun i x hi=>?_⟩
   rw [List.getElem?_map] at hi
   cases hx:cs[i]? with
   | none=>rw [hx] at hi; cases hi
   | some y=>
    rw [hx] at hi; injection hi with hi; subst hi
    obtain ⟨u,hu,hk⟩:=k4 i y hx
    exact ⟨u,hu,hk.loosen⟩
  | _=>rw [hv] at hs; exact hs
 ·rw [av3] at hσ
  cases hv:st.get t with
  | box cs=>
   rw [hv] at hσ
   injection hσ with hσ
   exact ⟨cs,rfl,by rw [← hσ,List.length_map]⟩
  | _=>rw [hv] at hσ; cases hσ
end
end Go.VI
namespace Go.VI
open Go
section
variable {P:Program} {U:ad6} {adv:Adv} {Res:Type} {Φ:Tab U}
def dt1 (kn:St U→Option Res) (ke:Nat→St U→Option Res) (kr:St U→Option Res):Exit→St U→Option Res
 | .normal=>kn
 | .exit id=>ke id
 | .ret=>kr
 | _=>fun _=>none
def dN9 (P:Program) (U:ad6) (adv:Adv) (c:Code) (st:St U) (e:Exit) (st':St U):Prop:=
 ∀ {N:Nat} {L0:Nat→Nat} {G0:ab7} {w0:World},adv.n≤N→∀ a w,aj3 P U N L0 G0 w0 st.get a w→c.wp P (fun e' a' w'=>e'=e∧aj3 P U N L0 G0 w0 st'.get a' w') a w
theorem dF4 (hU:aF4 P U) (hΦ:at9 P U Φ) (hm:P.follows .mixedOrders=true) {id:Nat} {ops:Array Oper} {draw:Bool} {st:St U} {k:St U→Option Res} {out:Res} (h:dc0 P Φ adv id ops.toList draw st k=some out) :
  ∃ st',k st'=some out∧dN9 P U adv (.region id ops draw) st .normal st':=by
 unfold dc0 at h
 rw [bN8] at h
 cases hc:(draw && !(be7 ops.toList 0)) with
 | true=>rw [hc] at h; cases h
 | false=>
  rw [hc,cond_false] at h
  obtain ⟨D,st2,h1,h2,h3⟩:=dA4 hΦ _ _ _ _ h
  rw [bh6] at h2
  refine ⟨_,h2,fun {N L0 G0 w0} hN a w hA=>?_⟩
  have hA':=hA.freshen ops.toList
  have hQ:∀ a w,aj3 P U N L0 G0 w0 st2.get a w→(fun (e':Exit) a' w'=>e'=Exit.normal∧aj3 P U N L0 G0 w0 (settle (adv.keep.getD id []) st2).get a' w') .normal a w:=fun a w h=>⟨rfl,h.settle _⟩
  cases draw with
  | false=>
   have:=dA5 hU (Q:=fun (e':Exit) a' w'=>e'=Exit.normal∧aj3 P U N L0 G0 w0 (settle (adv.keep.getD id []) st2).get a' w') hN hQ ops.toList 0 _ D a w (fun j=>by simp) h1 hA'
   refine wp_region ?_
   rw [List.range_eq_range']
   simpa using this
  | true=>
   obtain ⟨_,hap⟩:=h3 rfl
   have hed:be7 ops.toList 0=true:=by cases he:be7 ops.toList 0 <;> rw [he] at hc <;> first | rfl | cases hc
   refine wp_region_any hm ?_
   have hB:(Region.before ops.toList.toArray)=Region.before ops:=by simp
   have:=eh8 hU (Q:=fun (e':Exit) a' w'=>e'=Exit.normal∧aj3 P U N L0 G0 w0 (settle (adv.keep.getD id []) st2).get a' w') hN h1 (fun p m d d' hpm hp hm=>by
    have:=hap p m d d' hpm hp hm
    simpa using this) hed hQ ops.size (Array.replicate ops.size false) a { w with drawn:=w.drawn+1 } (by simp) (by simp) (fun m p hmt=>by
     rw [Array.getD_eq_getD_getElem?,Array.getElem?_replicate] at hmt
     split at hmt <;> simp at hmt) (by
     have:ad4 (fun m=>(Array.replicate ops.size false).getD m false) D 0 (freshen ops.toList st).get=(freshen ops.toList st).get:=aM4 D 0 _ (fun m _=>by
      rw [Array.getD_eq_getD_getElem?,Array.getElem?_replicate]
      split <;> rfl)
     rw [this]
     obtain ⟨G,r⟩:=hA'
     exact ⟨G,r.drew⟩)
   simpa using this
def bh7 (P:Program) (c:Code) (Q:Exit→Act→World→Prop) (a:Act) (w:World):Prop:=
 ∀ (b:Frame) (k:List Item) (cs:List Frame),∃ e a' w',Q e a' w'∧Arrives P (lone (b.at a (.code c::.inLoop c::k)) cs w) b k cs e a' w'
theorem bh7.loop {c:Code} {Q:Exit→Act→World→Prop} {a:Act} {w:World} (h:bh7 P c Q a w):(Code.loop c).wp P Q a w:=
 fun b k cs=>let ⟨e,a',w',hq,harr⟩:=h b k cs; ⟨e,a',w',hq,.of_steps (.one step_loop) harr⟩
theorem bh7.round {c:Code} {Q:Exit→Act→World→Prop} {a:Act} {w:World} (h:c.wp P (Exit.then (bh7 P c Q) Q) a w):bh7 P c Q a w:=by
 intro b k cs
 obtain ⟨e,a₁,w₁,hq,harr⟩:=h b (.inLoop c::k) cs
 cases e with
 | normal=>
  obtain ⟨e₂,a₂,w₂,hq₂,harr₂⟩:=hq b k cs
  exact ⟨e₂,a₂,w₂,hq₂,.of_steps (Steps.trans harr (.one step_inLoop)) harr₂⟩
 | exit id=>exact ⟨_,a₁,w₁,hq,.pass (x:=.inLoop c) rfl (fun _ _=>.inl (by simp)) harr⟩
 | goto l=>exact ⟨_,a₁,w₁,hq,.pass (x:=.inLoop c) rfl (fun _ _=>.inl (by simp)) harr⟩
 | ret=>exact ⟨_,a₁,w₁,hq,.pass (x:=.inLoop c) rfl (fun _ _=>.inl (by simp)) harr⟩
 | panic ch=>exact ⟨_,a₁,w₁,hq,.pass (x:=.inLoop c) rfl (fun _ _=>.inl (by simp)) harr⟩
 | outgrown=>exact ⟨_,a₁,w₁,hq,.pass (x:=.inLoop c) rfl (fun _ _=>.inl (by simp)) harr⟩
theorem eq2 (hU:aF4 P U) (hΦ:at9 P U Φ) (hm:P.follows .mixedOrders=true) {n:Nat}:∀ (c:Code) (kn:St U→Option Res) (ke:Nat→St U→Option Res) (kr:St U→Option Res) (st:St U) (out:Res),
  ev P Φ adv n c kn ke kr st=some out→∃ e st',dt1 kn ke kr e st'=some out∧dN9 P U adv c st e st':=by
 intro c
 induction c with
 | skip=>intro kn ke kr st out h; exact ⟨.normal,st,h,fun hN a w hA=>wp_skip ⟨rfl,hA⟩⟩
 | region id ops draw=>
  intro kn ke kr st out h
  obtain ⟨st',h1,h2⟩:=dF4 hU hΦ hm h
  exact ⟨.normal,st',h1,h2⟩
 | seq x y ihx ihy=>
  intro kn ke kr st out h
  simp only [ev] at h
  obtain ⟨e,st1,h1,h2⟩:=ihx _ _ _ _ _ h
  have stop:e≠.normal→dt1 kn ke kr e st1=some out→∃ e st',dt1 kn ke kr e st'=some out∧dN9 P U adv (.seq x y) st e st':=fun hne hk=>
   ⟨e,st1,hk,fun hN a w hA=>wp_seq (wp_mono (h2 hN a w hA) fun e' a' w' ⟨he,hA'⟩=>by
    subst he
    cases e' <;> first | exact absurd rfl hne | exact ⟨rfl,hA'⟩)⟩
  cases e with
  | normal=>
   obtain ⟨e2,st2,h3,h4⟩:=ihy _ _ _ _ _ h1
   exact ⟨e2,st2,h3,fun hN a w hA=>wp_seq (wp_mono (h2 hN a w hA) fun e' a' w' ⟨he,hA'⟩=>by
    subst he
    exact h4 hN a' w' hA')⟩
  | exit id=>exact stop (by simp) h1
  | ret=>exact stop (by simp) h1
  | _=>cases h1
 | cond c x y ihx ihy=>
  intro kn ke kr st out h
  simp only [ev] at h
  cases c with
  | tmp t=>
   simp only at h
   cases hs:st.get t with
   | one v=>
    cases v with
    | bool b=>
     rw [hs] at h
     simp only at h
     have hkn:(dK8 adv t b st).get=st.get:=by
      unfold dK8
      cases ao2 999999 adv.mutb with
      | false=>rfl
      | true=>
       rw [cond_true,ds9]; funext q
       by_cases hq:q=t
       ·subst hq; simp [upd,hs]
       ·simp [upd,hq]
     have hval:∀ {N:Nat} {L0:Nat→Nat} {G0:ab7} {w0:World} {a:Act} {w:World},aj3 P U N L0 G0 w0 st.get a w→a.eval (.tmp t)=.bool b:=by
      rintro N L0 G0 w0 a w ⟨G,r⟩
      have h1:=r.slots t
      rw [hs] at h1
      exact PC.of_bool (by
       rcases h1 with h1 | ⟨_,_,h1,_⟩
       ·exact h1
       ·simp [cont] at h1)
     cases b with
     | true=>
      rw [if_pos rfl] at h
      obtain ⟨e,st',h1,h2⟩:=ihx _ _ _ _ _ h
      exact ⟨e,st',h1,fun hN a w hA=>wp_cond_true (hval hA) (h2 hN a w (by rw [hkn]; exact hA))⟩
     | false=>
      rw [if_neg (by simp)] at h
      obtain ⟨e,st',h1,h2⟩:=ihy _ _ _ _ _ h
      exact ⟨e,st',h1,fun hN a w hA=>wp_cond_false (hval hA) (h2 hN a w (by rw [hkn]; exact hA))⟩
    | _=>rw [hs] at h; cases h
   | _=>rw [hs] at h; cases h
  | const v=>
   cases v with
   | bool b=>
    cases b with
    | true=>
     obtain ⟨e,st',h1,h2⟩:=ihx _ _ _ _ _ h
     exact ⟨e,st',h1,fun hN a w hA=>wp_cond_true rfl (h2 hN a w hA)⟩
    | false=>
     obtain ⟨e,st',h1,h2⟩:=ihy _ _ _ _ _ h
     exact ⟨e,st',h1,fun hN a w hA=>wp_cond_false rfl (h2 hN a w hA)⟩
   | _=>cases h
  | _=>cases h
 | block id c ih=>
  intro kn ke kr st out h
  simp only [ev] at h
  obtain ⟨e,st',h1,h2⟩:=ih _ _ _ _ _ h
  cases e with
  | normal=>exact ⟨.normal,st',h1,fun hN a w hA=>wp_block (wp_mono (h2 hN a w hA) fun e' a' w' ⟨he,hA'⟩=>by subst he; exact ⟨rfl,hA'⟩)⟩
  | ret=>exact ⟨.ret,st',h1,fun hN a w hA=>wp_block (wp_mono (h2 hN a w hA) fun e' a' w' ⟨he,hA'⟩=>by subst he; exact ⟨rfl,hA'⟩)⟩
  | exit id'=>
   simp only [dt1] at h1
   by_cases hid:id'=id
   ·subst hid
    rw [Nat.beq_refl,cond_true] at h1
    exact ⟨.normal,st',h1,fun hN a w hA=>wp_block (wp_mono (h2 hN a w hA) fun e' a' w' ⟨he,hA'⟩=>by subst he; simp only [Exit.inBlock,if_true]; exact ⟨trivial,hA'⟩)⟩
   ·rw [aQ6 hid,cond_false] at h1
    exact ⟨.exit id',st',h1,fun hN a w hA=>wp_block (wp_mono (h2 hN a w hA) fun e' a' w' ⟨he,hA'⟩=>by subst he; simp only [Exit.inBlock,hid,if_false]; exact ⟨trivial,hA'⟩)⟩
  | _=>cases h1
 | loop c ih=>
  intro kn ke kr st out h
  simp only [ev] at h
  rw [bh6] at h
  have key:∀ (m:Nat) (st:St U),cS0 m (fun k=>ev P Φ adv n c k ke kr) st=some out→∃ e st',e≠.normal∧dt1 kn ke kr e st'=some out∧
    ∀ {N:Nat} {L0:Nat→Nat} {G0:ab7} {w0:World},adv.n≤N→∀ a w,aj3 P U N L0 G0 w0 st.get a w→bh7 P c (fun e' a' w'=>e'=e∧aj3 P U N L0 G0 w0 st'.get a' w') a w:=by
   intro m
   induction m with
   | zero=>intro st h; cases h
   | succ m ihm=>
    intro st h
    simp only [cS0] at h
    obtain ⟨e,st1,h1,h2⟩:=ih _ _ _ _ _ h
    cases e with
    | normal=>
     simp only [dt1,bh6] at h1
     obtain ⟨e2,st2,h3,h4,h5⟩:=ihm _ h1
     exact ⟨e2,st2,h3,h4,fun hN a w hA=>bh7.round (wp_mono (h2 hN a w hA) fun e' a' w' ⟨he,hA'⟩=>by
      subst he
      exact h5 hN a' w' hA'.loosen)⟩
    | exit id=>exact ⟨.exit id,st1,by simp,h1,fun hN a w hA=>bh7.round (wp_mono (h2 hN a w hA) fun e' a' w' ⟨he,hA'⟩=>by subst he; exact ⟨rfl,hA'⟩)⟩
    | ret=>exact ⟨.ret,st1,by simp,h1,fun hN a w hA=>bh7.round (wp_mono (h2 hN a w hA) fun e' a' w' ⟨he,hA'⟩=>by subst he; exact ⟨rfl,hA'⟩)⟩
    | _=>cases h1
  obtain ⟨e,st',_,h2,h3⟩:=key n _ h
  exact ⟨e,st',h2,fun hN a w hA=>(h3 hN a w hA.loosen).loop⟩
 | exit id=>intro kn ke kr st out h; exact ⟨.exit id,st,h,fun hN a w hA=>wp_exit ⟨rfl,hA⟩⟩
 | ret=>intro kn ke kr st out h; exact ⟨.ret,st,h,fun hN a w hA=>wp_ret ⟨rfl,hA⟩⟩
 | label l=>intro kn ke kr st out h; exact ⟨.normal,st,h,fun hN a w hA=>wp_label ⟨rfl,hA⟩⟩
 | _=>intro kn ke kr st out h; cases h
end
end Go.VI
namespace Go.VI
open Go
section
variable {P:Program} {U:ad6} {N:Nat} {L0:Nat→Nat} {G0:ab7} {w0:World} {G:ab7} {σ:ac0 U} {a:Act} {w:World} {adv:Adv} {Res:Type} {Φ:Tab U}
theorem dt2 {I:Nat→Nat→Prop} {who:Nat→Option (Nat × Option Nat)} {loc:Nat→Nat × Nat} {as:List (Arg U.τ)} {vs:List Value} {j:Nat} (h:ag6 P U w I who loc as vs j):as.length=vs.length:=by
 induction h with
 | nil j=>rfl
 | val a cs u as us j _ _ ih=>simp [ih]
 | ptr cs as us j _ _ ih=>simp [ih]
theorem dY4 {as:List (Arg U.τ)} {vs:List Value} {j:Nat} (h:ag6 P U w G.I G.who G.loc as vs j):∀ (i:Nat) (σ:ac0 U),i+as.length≤aa9→
  (∀ t,(t < i∨i+as.length≤t)→(t < aa9+j∨aa9+j+(af8 as).length≤t)→ad1 σ (ah9 as i j) t=σ t)∧
  (∀ (q:Nat) cs,(af8 as)[q]?=some cs→ad1 σ (ah9 as i j) (aa9+(j+q))=.box cs∧as1 P U w G.I G.who (aa9+(j+q)) (G.loc (aa9+(j+q))) cs)∧
  (∀ σ':ac0 U,(∀ (q:Nat) cs,(af8 as)[q]?=some cs→σ' (aa9+(j+q))=.box cs)→∀ (m:Nat) u,vs[m]?=some u→ac9 P U G σ' w (i+m) (ad1 σ (ah9 as i j) (i+m)) u)∧
  (∀ m,m < as.length→(ad1 σ (ah9 as i j) (i+m)).owner=false):=by
 induction h with
 | nil j=>
  intro i σ hi
  exact ⟨fun _ _ _=>rfl,fun q cs hq=>by simp [af8] at hq,fun _ _ m u hm=>by simp at hm,fun m hm=>by simp at hm⟩
 | val ag cs u as us j hv hr ih=>
  intro i σ hi
  simp only [List.length_cons] at hi
  obtain ⟨v,hw,hown,hok⟩:∃ v:AV U.τ,ah9 (.val ag cs::as) i j=(i,v)::ah9 as (i+1) j∧v.owner=false∧∀ σ':ac0 U,ac9 P U G σ' w i v u:=by
   cases ag with
   | true=>exact ⟨.agg cs,rfl,rfl,fun σ'=>hv⟩
   | false=>
    obtain ⟨c,rfl,hc⟩:=hv
    exact ⟨.one c,rfl,rfl,fun σ'=>ac9.of_pc hc⟩
  rw [hw]
  obtain ⟨h1,h2,h3,h4⟩:=ih (i+1) (upd σ i v) (by omega)
  have hp:af8 (.val ag cs::as)=af8 as:=rfl
  have hat:ad1 (upd σ i v) (ah9 as (i+1) j) i=v:=by
   rw [h1 i (.inl (by omega)) (.inl (by omega))]
   simp [upd]
  simp only [ad1,hp]
  refine ⟨fun t ht ht2=>?_,h2,fun σ' hσ' m x hm=>?_,fun m hm=>?_⟩
  ·simp only [List.length_cons] at ht
   rw [h1 t (by omega) ht2]
   have:t≠i:=by omega
   simp [upd,this]
  ·cases m with
   | zero=>
    simp at hm; subst hm
    rw [Nat.add_zero,hat]
    exact hok σ'
   | succ m=>
    rw [show i+(m+1)=i+1+m by omega]
    exact h3 σ' hσ' m x (by simpa using hm)
  ·cases m with
   | zero=>exact (show (ad1 (upd σ i v) (ah9 as (i+1) j) i).owner=false by rw [hat]; exact hown)
   | succ m=>
    rw [show i+(m+1)=i+1+m by omega]
    exact h4 m (by simpa using hm)
 | ptr cs as us j hb hr ih=>
  intro i σ hi
  simp only [List.length_cons] at hi
  have hw:ah9 (.ptr cs::as) i j=(aa9+j,.box cs)::(i,.one (.ref (aa9+j) 0))::ah9 as (i+1) (j+1):=rfl
  rw [hw]
  obtain ⟨h1,h2,h3,h4⟩:=ih (i+1) (upd (upd σ (aa9+j) (.box cs)) i (.one (.ref (aa9+j) 0))) (by omega)
  have hp:af8 (.ptr cs::as)=cs::af8 as:=rfl
  simp only [ad1,hp]
  have hat:ad1 (upd (upd σ (aa9+j) (.box cs)) i (.one (.ref (aa9+j) 0))) (ah9 as (i+1) (j+1)) i=.one (.ref (aa9+j) 0):=by
   rw [h1 i (.inl (by omega)) (.inl (by omega))]
   simp [upd]
  have hbx:ad1 (upd (upd σ (aa9+j) (.box cs)) i (.one (.ref (aa9+j) 0))) (ah9 as (i+1) (j+1)) (aa9+j)=.box cs:=by
   rw [h1 (aa9+j) (.inr (by omega)) (.inl (by omega))]
   have:aa9+j≠i:=by omega
   simp [upd,this]
  refine ⟨fun t ht ht2=>?_,fun q l hq=>?_,fun σ' hσ' m x hm=>?_,fun m hm=>?_⟩
  ·simp only [List.length_cons] at ht ht2
   rw [h1 t (by omega) (by omega)]
   have k1:t≠i:=by omega
   have k2:t≠aa9+j:=by omega
   simp [upd,k1,k2]
  ·cases q with
   | zero=>
    simp at hq; subst hq
    rw [Nat.add_zero]
    exact ⟨hbx,hb⟩
   | succ q=>
    rw [show j+(q+1)=j+1+q by omega]
    exact h2 q l (by simpa using hq)
  ·cases m with
   | zero=>
    simp at hm; subst hm
    rw [Nat.add_zero,hat]
    have:=hσ' 0 cs rfl
    rw [Nat.add_zero] at this
    exact ⟨⟨cs,this⟩,rfl⟩
   | succ m=>
    rw [show i+(m+1)=i+1+m by omega]
    exact h3 σ' (fun q l hq=>by have:=hσ' (q+1) l (by simpa using hq); rwa [show j+(q+1)=j+1+q by omega] at this) m x (by simpa using hm)
  ·cases m with
   | zero=>exact (show (ad1 (upd (upd σ (aa9+j) (.box cs)) i (.one (.ref (aa9+j) 0))) (ah9 as (i+1) (j+1)) i).owner=false by rw [hat]; rfl)
   | succ m=>
    rw [show i+(m+1)=i+1+m by omega]
    exact h4 m (by simpa using hm)
def bZ0 (tmps:Array Value):ResultVar→Sem Value
 | .tmp t=>pure (tmps.getD t undef)
 | .cell x t=>do loadVar t (← asAddr (tmps.getD x undef))
theorem dY5 (fn:Func) (tmps:Array Value):(results fn tmps).run P w=((fn.results.toList.mapM (bZ0 tmps)).run P w).andThen fun us w'=>.ok (if h:us.toArray.size=1 then us.toArray[0] else .tuple us.toArray) w':=by
 have e:(fun (x:ResultVar)=>(match x with | .tmp t=>pure (tmps.getD t undef) | .cell a t=>do loadVar t (← asAddr (tmps.getD a undef)):Sem Value))=bZ0 tmps:=by
  funext x; cases x <;> rfl
 have h:results fn tmps=(do
   let vs ← fn.results.mapM (bZ0 tmps)
   pure (if h:vs.size=1 then vs[0] else .tuple vs)):=by
  rw [← e]; rfl
 rw [h,Array.mapM_eq_mapM_toList]
 simp only [Sem.run_bind,Sem.run_map]
 cases (fn.results.toList.mapM (bZ0 tmps)).run P w <;> rfl
theorem eq3 (r:R P U N L0 G0 w0 G σ a w) {st:St U} (hst:st.get=σ) {rv:ResultVar} {ag:Bool} {cs:List (CV U.τ)} (h:cF5 P rv st=some (ag,cs)) :
  ∃ u,(bZ0 a.tmps rv).run P w=.ok u w∧ak5 P U w G.I ag cs u:=by
 cases rv with
 | tmp t=>
  simp only [cF5] at h
  rw [hst] at h
  refine ⟨_,rfl,?_⟩
  have hs:=r.slots t
  cases hv:σ t with
  | box cs'=>rw [hv] at h; simp [av1,cellsOf] at h
  | bblk e y q=>rw [hv] at h; simp [av1,cellsOf] at h
  | one c=>rw [hv] at h hs; exact bh1 hs h
  | agg cs'=>rw [hv] at h hs; exact bh1 hs h
  | _=>rw [hv] at h; simp [av1,cellsOf] at h
 | cell x t=>
  simp only [cF5] at h
  cases hx:Nat.ble aa9 x with
  | true=>rw [hx] at h; cases h
  | false=>
   rw [hx,cond_false,hst] at h
   have hxv:x < aa9:=by
    rcases Nat.lt_or_ge x aa9 with h1 | h1
    ·exact h1
    ·rw [Nat.ble_eq_true_of_le h1] at hx; cases hx
   have main:∀ s off,(∃ cs',σ s=.box cs')→a.tmps.getD x undef=.pointer (some ⟨(G.loc s).1,(G.loc s).2+off,none⟩)→
     (match σ s with | .box cs=>cond (Nat.ble 1 (P.cellsOf t)) ((al8 P t cs off).bind fun v=>cellsOf v) none | _=>none)=some (ag,cs)→
     ∃ u,(bZ0 a.tmps (.cell x t)).run P w=.ok u w∧ak5 P U w G.I ag cs u:=by
    rintro s off ⟨cs',hs⟩ hp h
    rw [hs] at h
    simp only at h
    cases hz:Nat.ble 1 (P.cellsOf t) with
    | false=>rw [hz] at h; cases h
    | true=>
     rw [hz,cond_true] at h
     have hz:=Nat.le_of_ble_eq_true hz
     cases hpt:al8 P t cs' off with
     | none=>rw [hpt] at h; cases h
     | some v=>
      rw [hpt] at h
      simp only [Option.bind_some] at h
      have hbx:=r.slots s
      rw [hs] at hbx
      obtain ⟨k1,u,k2,k3,k4⟩:=cr2 (σ:=σ) (G:=G) (w:=w) hpt hz (b:=(G.loc s).1) (base:=(G.loc s).2) (fun j c hj=>by
       obtain ⟨y,hy,hk⟩:=hbx.2.cells j c hj
       exact ⟨y,hy,hk.plain⟩)
      refine ⟨u,by simp [bZ0,hp,asAddr,k2],?_⟩
      have hcv:cellsOf v.plain=cellsOf v:=by
       cases v with
       | one c=>cases c <;> first | rfl | (rename_i f; cases f <;> rfl)
       | _=>rfl
      rw [← hcv] at h
      exact bh1 (k3 0) h
   have hs:=r.slots x
   cases hv:σ x with
   | box cs'=>
    rw [hv] at h hs
    exact main x 0 ⟨cs',hv⟩ (hs.1 hxv) h
   | one c=>
    rw [hv] at h hs
    cases c with
    | ref s off=>exact main s off hs.1 hs.2 h
    | _=>simp [av1] at h
   | _=>rw [hv] at h; simp [av1] at h
theorem dj0 (r:R P U N L0 G0 w0 G σ a w) {st:St U} (hst:st.get=σ):∀ (rs:List ResultVar) (vs:List (Bool × List (CV U.τ))),bs3 P rs st=some vs→
  ∃ us,(rs.mapM (bZ0 a.tmps)).run P w=.ok us w∧us.length=vs.length∧∀ (j:Nat) ag cs,vs[j]?=some (ag,cs)→∃ u,us[j]?=some u∧ak5 P U w G.I ag cs u
 | [],vs,h=>by
  simp only [bs3,Option.some.injEq] at h
  subst h
  exact ⟨[],rfl,rfl,fun j ag cs hj=>by simp at hj⟩
 | rv::rs,vs,h=>by
  simp only [bs3] at h
  cases h1:cF5 P rv st with
  | none=>rw [h1] at h; cases h
  | some x=>
   cases h2:bs3 P rs st with
   | none=>rw [h1,h2] at h; cases h
   | some xs=>
    rw [h1,h2] at h
    injection h with h; subst h
    obtain ⟨ag,cs⟩:=x
    obtain ⟨u,k1,k2⟩:=eq3 r hst h1
    obtain ⟨us,k3,k4,k5⟩:=dj0 r hst rs xs h2
    refine ⟨u::us,?_,by simp [k4],fun j ag' cs' hj=>?_⟩
    ·simp only [List.mapM_cons,Sem.run_bind,k1,k3,Result.andThen_ok,Sem.run_pure]
    ·cases j with
     | zero=>simp at hj; obtain ⟨rfl,rfl⟩:=hj; exact ⟨u,rfl,k2⟩
     | succ j=>simpa using k5 j ag' cs' (by simpa using hj)
theorem dj1 {st:St U}:∀ (m i:Nat) (bs:List (List (CV U.τ))),bM9 st m i=some bs→bs.length=m∧∀ (j:Nat) cs,bs[j]?=some cs→st.get (aa9+(i+j))=.box cs
 | 0,i,bs,h=>by
  simp only [bM9,Option.some.injEq] at h
  subst h
  exact ⟨rfl,fun j cs hj=>by simp at hj⟩
 | m+1,i,bs,h=>by
  simp only [bM9] at h
  split at h
  ·rename_i cs r h1 h2
   injection h with h; subst h
   obtain ⟨k1,k2⟩:=dj1 m (i+1) r h2
   refine ⟨by simp [k1],fun j cs' hj=>?_⟩
   cases j with
   | zero=>simp at hj; subst hj; rw [Nat.add_zero]; exact h1
   | succ j=>rw [show i+(j+1)=i+1+j by omega]; exact k2 j cs' (by simpa using hj)
  ·cases h
theorem cS3:∀ (as:List (Arg U.τ)),cF6 as=(af8 as).length
 | []=>rfl
 | .ptr _::r=>by simp [cF6,af8,cS3 r]
 | .val _ _::r=>by simp [cF6,af8,cS3 r]
theorem eh9 (r:R P U N L0 G0 w0 G σ a w) {st:St U} (hst:st.get=σ) {fn:Func} {m:Nat} {o:Out U.τ} (h:cS1 P fn.results.toList m st=some o) :
  (∃ u,(results fn a.tmps).run P w=.ok u w∧ay5 P U w G.I o.ret u)∧o.boxes.length=m∧∀ (j:Nat) cs,o.boxes[j]?=some cs→σ (aa9+j)=.box cs:=by
 unfold cS1 at h
 cases h1:bs3 P fn.results.toList st with
 | none=>rw [h1] at h; cases h
 | some vs=>
  cases h2:bM9 st m 0 with
  | none=>rw [h1,h2] at h; cases h
  | some bs=>
   rw [h1,h2] at h
   injection h with h; subst h
   obtain ⟨us,k1,k2,k3⟩:=dj0 r hst _ vs h1
   obtain ⟨k4,k5⟩:=dj1 m 0 bs h2
   have hbox:∀ (j:Nat) cs,bs[j]?=some cs→σ (aa9+j)=.box cs:=fun j cs hj=>by
    have:=k5 j cs hj
    rwa [Nat.zero_add,hst] at this
   refine ⟨?_,k4,hbox⟩
   have hrun:(results fn a.tmps).run P w=.ok (if h:us.toArray.size=1 then us.toArray[0] else .tuple us.toArray) w:=by
    rw [dY5,k1]; rfl
   have one:∀ x,vs=[x]→∃ u,us=[u]∧ak5 P U w G.I x.1 x.2 u:=by
    intro x hx
    subst hx
    obtain ⟨u,g1,g2⟩:=k3 0 x.1 x.2 rfl
    refine ⟨u,?_,g2⟩
    cases us with
    | nil=>simp at k2
    | cons y ys=>
     simp at k2 g1
     rw [k2,g1]
   have tupCase:(∀ x,vs≠[x])→∃ u,(results fn a.tmps).run P w=.ok u w∧ay5 P U w G.I (.tup vs) u:=by
    intro hne
    refine ⟨_,hrun,?_⟩
    have:¬us.toArray.size=1:=by
     simp only [List.size_toArray]
     intro h1
     rw [k2] at h1
     obtain ⟨x,hx⟩:=List.length_eq_one_iff.1 h1
     exact hne x hx
    rw [dif_neg this]
    exact ⟨us.toArray,rfl,by simpa using k2,fun j ag cs hj=>by
     obtain ⟨u,g1,g2⟩:=k3 j ag cs hj
     exact ⟨u,by simpa using g1,g2⟩⟩
   simp only
   cases hvs:vs with
   | nil=>rw [hvs] at tupCase; exact tupCase (by simp)
   | cons x xs=>
    cases xs with
    | nil=>
     obtain ⟨u,g1,g2⟩:=one x hvs
     subst g1
     obtain ⟨ag,cs⟩:=x
     cases ag with
     | true=>exact ⟨u,hrun,g2⟩
     | false=>
      obtain ⟨c',g3,g4⟩:=g2
      simp only at g3
      subst g3
      exact ⟨u,hrun,g4⟩
    | cons y ys=>
     have:=tupCase (by rw [hvs]; simp)
     rw [hvs] at this
     have hmk:eJ1 (x::y::ys)=.tup (x::y::ys):=by
      obtain ⟨ag,cs⟩:=x
      cases ag with
      | true=>rfl
      | false=>cases cs with
       | nil=>rfl
       | cons c cs=>cases cs <;> rfl
     rw [hmk]
     exact this
theorem cr8 (hU:aF4 P U) (hΦ:at9 P U Φ) (hm:P.follows .mixedOrders=true) {n f:Nat} {fn:Func} (hf:P.funcs[f]?=some fn) (hcall:∀ (vs:Array Value) (w:World),(callFunc f vs).run P w=.ok (.enter f vs) w)
  {args:List (Arg U.τ)} {k:Out U.τ→Option Res} {out:Res} (h:dM5 P Φ adv n fn args k=some out):∃ o,au8 P U f args o∧k o=some out:=by
 unfold dM5 at h
 cases hb:fn.body with
 | none=>rw [hb] at h; cases h
 | some c=>
  rw [hb] at h
  simp only at h
  cases hc:(Nat.ble adv.n fn.ntmps && Nat.ble fn.ntmps aa9 && Nat.ble args.length fn.ntmps) with
  | false=>rw [hc] at h; cases h
  | true=>
   rw [hc,cond_true,bh6] at h
   simp only [Bool.and_eq_true] at hc
   obtain ⟨⟨hn1,hn2⟩,hn3⟩:=hc
   have hn1:=Nat.le_of_ble_eq_true hn1
   have hn2:=Nat.le_of_ble_eq_true hn2
   have hn3:=Nat.le_of_ble_eq_true hn3
   obtain ⟨e,st',h1,h2⟩:=eq2 hU hΦ hm c _ _ _ _ _ h
   have hfin:(e=.normal∨e=.ret)∧(match cS1 P fn.results.toList (cF6 args) st' with | some o=>k o | none=>none)=some out:=by
    cases e with
    | normal=>exact ⟨.inl rfl,h1⟩
    | ret=>exact ⟨.inr rfl,h1⟩
    | _=>cases h1
   obtain ⟨he,hk⟩:=hfin
   cases ho:cS1 P fn.results.toList (cF6 args) st' with
   | none=>rw [ho] at hk; cases hk
   | some o=>
    rw [ho] at hk
    refine ⟨o,⟨hcall,fun G0 w vs hargs himm hwho henv=>?_⟩,hk⟩
    have hlen:=dt2 hargs
    let L0:Nat→Nat:=fun t=>((af8 args)[t - aa9]?.map List.length).getD 0
    let a0:Act:={ tmps:=vs.toArray++Array.replicate (fn.ntmps - vs.toArray.size) undef,defers:=[] }
    obtain ⟨g1,g2,g3,g4⟩:=dY4 hargs 0 (fun _=>.undef) (by omega)
    have hget:(St.puts ([]:St U) (ah9 args 0 0)).get=ad1 (fun _=>.undef) (ah9 args 0 0):=by
     rw [dc2]; rfl
    have hbox:∀ t cs,aa9≤t→ad1 (fun _=>.undef) (ah9 args 0 0) t=.box cs→(af8 args)[t - aa9]?=some cs:=by
     intro t cs ht hσ
     by_cases hlt:t < aa9+(af8 args).length
     ·have hlt2:t - aa9 < (af8 args).length:=by omega
      obtain ⟨l,hq⟩:∃ l,(af8 args)[t - aa9]?=some l:=⟨_,List.getElem?_eq_getElem hlt2⟩
      have:=(g2 (t - aa9) _ hq).1
      rw [show aa9+(0+(t - aa9))=t by omega,hσ] at this
      injection this with this
      rw [hq,← this]
     ·have e1:0+args.length≤t:=by omega
      have e2:aa9+0+(af8 args).length≤t:=by omega
      rw [g1 t (Or.inr e1) (Or.inr e2)] at hσ
      cases hσ
    have r0:R P U fn.ntmps L0 G0 w G0 (ad1 (fun _=>.undef) (ah9 args 0 0)) a0 w:=by
     refine ⟨rfl,?_,hn2,fun t=>?_,himm,hwho,.refl G0 w,fun _ _=>rfl,fun t cs ht hσ=>?_,fun _ _ _ _ _ _=>rfl,henv⟩
     ·simp [a0]; omega
     ·by_cases ht:t < args.length
      ·have hv:vs[t]?=some vs[t]:=List.getElem?_eq_getElem (by omega)
       have:=g3 (ad1 (fun _=>.undef) (ah9 args 0 0)) (fun q cs hq=>(g2 q cs hq).1) t _ hv
       rw [Nat.zero_add] at this
       have hval:a0.tmps.getD t undef=vs[t]:=by
        rw [Array.getD_eq_getD_getElem?,Array.getElem?_append_left (by simp; omega)]
        simp [hv]
       rw [hval]
       exact this
      ·by_cases hp:aa9≤t∧t < aa9+(af8 args).length
       ·have hlt2:t - aa9 < (af8 args).length:=by omega
        obtain ⟨l,hq⟩:∃ l,(af8 args)[t - aa9]?=some l:=⟨_,List.getElem?_eq_getElem hlt2⟩
        obtain ⟨k1,k2⟩:=g2 (t - aa9) _ hq
        rw [show aa9+(0+(t - aa9))=t by omega] at k1 k2
        rw [k1]
        exact ⟨fun h=>by omega,k2⟩
       ·rw [g1 t (.inr (by omega)) (by omega)]
        trivial
     ·have:=hbox t cs ht hσ
      simp [L0,this]
    have hA:aj3 P U fn.ntmps L0 G0 w (St.puts ([]:St U) (ah9 args 0 0)).get a0 w:=by rw [hget]; exact ⟨G0,r0⟩
    refine calls_of_wp hf hb ?_
    refine wp_mono (h2 hn1 a0 w hA) fun e' a' w' ⟨he',G,r⟩=>?_
    obtain ⟨⟨u,k1,k2⟩,k3,k4⟩:=eh9 r rfl ho
    have fin:a'.defers=[]∧∃ v,(results fn a'.tmps).run P w'=.ok v w'∧(∃ u G',Ending.returned v=.returned u∧aF1 G0 w G' w'∧ay5 P U w' G'.I o.ret u∧o.boxes.length=(af8 args).length∧
      (∀ (j:Nat) cs,o.boxes[j]?=some cs→as1 P U w' G'.I G'.who (aa9+j) (G0.loc (aa9+j)) cs)∧
      (∀ (j:Nat) cs,(af8 args)[j]?=some cs→(∃ l,o.boxes[j]?=some l∧l.length=cs.length)∧∀ q,(q < (G0.loc (aa9+j)).2∨(G0.loc (aa9+j)).2+cs.length≤q)→w'.cell? ⟨(G0.loc (aa9+j)).1,q,none⟩=w.cell? ⟨(G0.loc (aa9+j)).1,q,none⟩)∧
      (∀ b q,G'.I b q→(w'.cell? ⟨b,q,none⟩).isSome=true)∧(∀ b L,G'.who b=some L→b < w'.heap.size)):=by
     refine ⟨r.defers,u,k1,u,G,rfl,r.step,k2,by rw [k3,cS3],fun j cs hj=>?_,fun j cs hj=>?_,r.imm,r.who⟩
     ·have hs:=r.slots (aa9+j)
      rw [k4 j cs hj] at hs
      have:=hs.2
      rwa [r.loc _ (by omega)] at this
     ·have hjl:=(List.getElem?_eq_some_iff.1 hj).1
      have hjl2:j < o.boxes.length:=by rw [k3,cS3]; exact hjl
      have hl:o.boxes[j]?=some (o.boxes[j]'hjl2):=List.getElem?_eq_getElem hjl2
      have hσ:=k4 j _ hl
      have hln:=r.lens (aa9+j) _ (by omega) hσ
      have hL:L0 (aa9+j)=cs.length:=by simp [L0,hj]
      refine ⟨⟨_,hl,by rw [hln,hL]⟩,fun q hq=>?_⟩
      have:=r.rest (aa9+j) _ (by omega) hσ q (by rw [r.loc _ (by omega),hln,hL]; exact hq)
      rwa [r.loc _ (by omega)] at this
    subst he'
    rcases he with rfl | rfl
    ·exact fin
    ·exact fin
end
end Go.VI
namespace Go.VI
open Go
inductive FK where
 | int (k:IntKind)
 | bool
 | str
 | sl (e:Nat)
 | bs (e:Nat)
 | fn
def FK.den (τ:Nat→Type):FK→Type
 | .int _=>Int
 | .bool=>Bool
 | .str=>List UInt8
 | .sl e=>List (τ e)
 | .bs _=>List UInt8
 | .fn=>Nat
def aI4 (τ:Nat→Type):List FK→Type
 | []=>Unit
 | k::r=>k.den τ × aI4 τ r
def FK.enc {τ:Nat→Type} (m:Bool):(k:FK)→k.den τ→CV τ
 | .int i,n=>.int i n
 | .bool,b=>.bool b
 | .str,s=>.str s
 | .sl e,xs=>.sl e xs (cond m .app .ro)
 | .bs e,s=>.bs e s (cond m .app .ro)
 | .fn,f=>.fn f
def aQ9 {τ:Nat→Type} (m:Bool):(ks:List FK)→aI4 τ ks→List (CV τ)
 | [],_=>[]
 | k::r,x=>k.enc m x.1::aQ9 m r x.2
def dO0 (m:Bool):Fl→Bool
 | .ro=>!m
 | _=>true
def FK.dec {τ:Nat→Type} (m:Bool):(k:FK)→CV τ→Option (k.den τ)
 | .int i,.int j n=>cond (decide (i=j)) (some n) none
 | .bool,.bool b=>some b
 | .str,.str s=>some s
 | .sl e,.sl e2 xs f=>cond (dO0 m f) (match Nat.decEq e2 e with | .isTrue h=>some (h ▸ xs) | .isFalse _=>none) none
 | .bs e,.bs e2 s f=>cond (dO0 m f && Nat.beq e2 e) (some s) none
 | .fn,.fn f=>some f
 | _,_=>none
def bO2 {α β:Type} (a:Option α) (b:Option β):Option (α × β):=match a with | some x=>(match b with | some y=>some (x,y) | none=>none) | none=>none
theorem bf1 {α β:Type} {a:Option α} {b:Option β} {r:α × β} (h:bO2 a b=some r):∃ x y,a=some x∧b=some y∧r=(x,y):=by
 cases a with
 | none=>cases h
 | some x=>
  cases b with
  | none=>cases h
  | some y=>injection h with h; exact ⟨x,y,rfl,rfl,h.symm⟩
def dK9 {τ:Nat→Type} (m:Bool):(ks:List FK)→List (CV τ)→Option (aI4 τ ks)
 | []=>fun cs=>match cs with | []=>some () | _=>none
 | k::r=>fun cs=>match cs with | c::cs=>bO2 (k.dec m c) (dK9 m r cs) | []=>none
structure Ty (τ:Nat→Type) where
 α:Type
 agg:Bool
 ks:List FK
 to:α→aI4 τ ks
 of:aI4 τ ks→α
 ok:∀ y,to (of y)=y
 one:agg=true∨∃ k,ks=[k]
def Ty.enc {τ:Nat→Type} (T:Ty τ) (m:Bool) (x:T.α):List (CV τ):=aQ9 m T.ks (T.to x)
def Ty.dec {τ:Nat→Type} (T:Ty τ) (m:Bool) (cs:List (CV τ)):Option T.α:=match dK9 m T.ks cs with | some y=>some (T.of y) | none=>none
section
variable {P:Program} {U:ad6}
def CLe (P:Program) (U:ad6) (m:Bool) (c c':CV U.τ):Prop:=
 ∀ w I who L u,(m=false→PC P U w I c u→PC P U w I c' u)∧(m=true→ae3 P U w I who L c u→ae3 P U w I who L c' u)
theorem CLe.refl (m:Bool) (c:CV U.τ):CLe P U m c c:=fun _ _ _ _ _=>⟨fun _ h=>h,fun _ h=>h⟩
theorem dO1 {m:Bool} {c c':CV U.τ} {e:Nat} {css:List (List (CV U.τ))} {f:Fl} (hc:cont c=some (e,css,f)) (hc':cont c'=some (e,css,cond m .app .ro)) (hf:dO0 m f=true):CLe P U m c c':=by
 intro w I who L u
 refine ⟨fun hm h=>?_,fun hm h=>?_⟩
 ·subst hm
  obtain ⟨_,h2,h3⟩:=h.slice hc
  rcases h3 with ⟨rfl,rfl⟩ | ⟨_,rfl,p,cap,rfl⟩ | ⟨b,off,cap,rfl,h4,h5,h6⟩
  ·exact .nil _ e .ro hc' (by simp)
  ·exact .emp _ e _ _ hc'
  ·exact PC.of_cont hc' (by simp) h4 (by simp) h2 h6
 ·subst hm
  have app:∀ h2:(css.length:Int)≤ad0,((css=[]∧u=.slice none 0 0)∨∃ b off cap,u=.slice (some ⟨b,off,none⟩) css.length cap∧css.length≤cap∧bh0 P U w I b off (P.cellsOf e) css∧(cap=css.length∨(who b=some L∧eh0 w I b (off+css.length * P.cellsOf e) (off+cap * P.cellsOf e))))→ae3 P U w I who L c' u:=
   fun h2 h3=>.inr ⟨e,css,hc',h2,h3⟩
  rcases h with h | ⟨e1,css1,k1,k2,k3⟩
  ·obtain ⟨hne,h2,h3⟩:=h.slice hc
   have hft:f=.tight:=by
    cases f with
    | ro=>cases hf
    | tight=>rfl
    | app=>exact absurd rfl hne
   refine app h2 ?_
   rcases h3 with h3 | ⟨h3,_⟩ | ⟨b,off,cap,h4,h5,h6,h7⟩
   ·exact .inl h3
   ·rw [hft] at h3; cases h3
   ·exact .inr ⟨b,off,cap,h4,h5,h7,.inl (h6 hft)⟩
  ·rw [hc] at k1
   simp only [Option.some.injEq,Prod.mk.injEq] at k1
   obtain ⟨rfl,rfl,_⟩:=k1
   exact app k2 k3
theorem FK.dec_le {m:Bool}:∀ (k:FK) (c:CV U.τ) (x:k.den U.τ),k.dec m c=some x→CLe P U m c (k.enc m x):=by
 intro k c x h
 cases k with
 | int i=>
  cases c with
  | int j n=>
   simp only [FK.dec] at h
   cases hd:decide (i=j) with
   | false=>rw [hd] at h; cases h
   | true=>
    rw [hd] at h
    injection h with h; subst h
    have:=of_decide_eq_true hd
    subst this
    exact CLe.refl _ _
  | _=>cases h
 | bool=>cases c with
  | bool b=>injection h with h; subst h; exact CLe.refl _ _
  | _=>cases h
 | str=>cases c with
  | str s=>injection h with h; subst h; exact CLe.refl _ _
  | _=>cases h
 | fn=>cases c with
  | fn s=>injection h with h; subst h; exact CLe.refl _ _
  | _=>cases h
 | sl e=>cases c with
  | sl e2 xs f=>
   simp only [FK.dec] at h
   cases hf:dO0 m f with
   | false=>rw [hf] at h; cases h
   | true=>
    rw [hf,cond_true] at h
    cases hd:Nat.decEq e2 e with
    | isFalse _=>rw [hd] at h; cases h
    | isTrue he=>
     rw [hd] at h
     subst he
     injection h with h; subst h
     exact dO1 (e:=e2) (css:=xs.map (U.enc e2)) (f:=f) rfl rfl hf
  | _=>cases h
 | bs e=>cases c with
  | bs e2 s f=>
   simp only [FK.dec] at h
   cases hf:(dO0 m f && Nat.beq e2 e) with
   | false=>rw [hf] at h; cases h
   | true=>
    rw [hf,cond_true] at h
    simp only [Bool.and_eq_true] at hf
    have he:=Nat.eq_of_beq_eq_true hf.2
    subst he
    injection h with h; subst h
    exact dO1 (e:=e2) (css:=s.map fun b=>[.int .u8 b.toNat]) (f:=f) rfl rfl hf.1
  | _=>cases h
def cS4 (P:Program) (U:ad6) (m:Bool) (cs cs':List (CV U.τ)):Prop:=
 cs'.length=cs.length∧∀ (j:Nat) c c',cs[j]?=some c→cs'[j]?=some c'→CLe P U m c c'
theorem dO2 {m:Bool}:∀ (ks:List FK) (cs:List (CV U.τ)) (x:aI4 U.τ ks),dK9 m ks cs=some x→cS4 P U m cs (aQ9 m ks x)
 | [],[],x,h=>⟨rfl,fun j c c' h=>by have h3:(none:Option (CV U.τ))=some c:=h; cases h3⟩
 | k::r,c::cs,x,h=>by
  obtain ⟨a,b,h1,h2,rfl⟩:=bf1 h
  ·skip
   obtain ⟨g1,g2⟩:=dO2 r cs b h2
   refine ⟨congrArg Nat.succ g1,fun j d d' hd hd'=>?_⟩
   cases j with
   | zero=>
    have e1:c=d:=by injection hd
    have e2:k.enc m a=d':=by injection hd'
    subst e1; subst e2; exact FK.dec_le k c a h1
   | succ j=>exact g2 j d d' hd hd'
 | [],_::_,x,h=>by cases h
 | k::r,[],x,h=>by cases h
theorem Ty.dec_le (T:Ty U.τ) {m:Bool} {cs:List (CV U.τ)} {x:T.α} (h:T.dec m cs=some x):cS4 P U m cs (T.enc m x):=by
 unfold Ty.dec at h
 cases hd:dK9 m T.ks cs with
 | none=>rw [hd] at h; cases h
 | some y=>
  rw [hd] at h
  injection h with h; subst h
  unfold Ty.enc
  rw [T.ok]
  exact dO2 _ _ _ hd
theorem Ty.univ (T:Ty U.τ) {cs:List (CV U.τ)} {x:T.α} (h:T.dec false cs=some x):dc5 P U cs (T.enc false x):=by
 obtain ⟨h1,h2⟩:=T.dec_le (P:=P) h
 exact ⟨h1,fun j c c' hc hc' w I u hp=>(h2 j c c' hc hc' w I (fun _=>none) (0,none) u).1 rfl hp⟩
structure Sig (τ:Nat→Type) where
 ps:List (Bool × Ty τ)
 rs:List (Ty τ)
def cS5 {τ:Nat→Type}:List (Bool × Ty τ)→Type
 | []=>Unit
 | p::r=>p.2.α × cS5 r
def bx3 {τ:Nat→Type}:List (Ty τ)→Type
 | []=>Unit
 | T::r=>T.α × bx3 r
def bz6 {τ:Nat→Type}:List (Bool × Ty τ)→List (Ty τ)
 | []=>[]
 | (true,T)::r=>T::bz6 r
 | (false,_)::r=>bz6 r
abbrev Sig.A {τ:Nat→Type} (s:Sig τ):Type:=cS5 s.ps
abbrev Sig.B {τ:Nat→Type} (s:Sig τ):Type:=bx3 s.rs × bx3 (bz6 s.ps)
def ei0 {τ:Nat→Type} (p:Bool × Ty τ) (x:p.2.α):Arg τ:=cond p.1 (.ptr (p.2.enc true x)) (.val p.2.agg (p.2.enc false x))
def ap7 {τ:Nat→Type}:(ps:List (Bool × Ty τ))→cS5 ps→List (Arg τ)
 | [],_=>[]
 | p::r,x=>ei0 p x.1::ap7 r x.2
def eq4 {τ:Nat→Type} (p:Bool × Ty τ) (a:Arg τ):Option p.2.α:=
 match p.1,a with
 | true,.ptr cs=>p.2.dec true cs
 | false,.val ag cs=>cond (ag==p.2.agg) (p.2.dec false cs) none
 | _,_=>none
def ck0 {τ:Nat→Type}:(ps:List (Bool × Ty τ))→List (Arg τ)→Option (cS5 ps)
 | []=>fun as=>match as with | []=>some () | _=>none
 | p::r=>fun as=>match as with | a::as=>bO2 (eq4 p a) (ck0 r as) | []=>none
def cS6 {τ:Nat→Type}:(l:List (Ty τ))→bx3 l→List (Bool × List (CV τ))
 | [],_=>[]
 | T::r,x=>(T.agg,T.enc false x.1)::cS6 r x.2
def dL0 {τ:Nat→Type}:(l:List (Ty τ))→List (Bool × List (CV τ))→Option (bx3 l)
 | []=>fun cs=>match cs with | []=>some () | _=>none
 | T::r=>fun cs=>match cs with | c::cs=>bO2 (cond (c.1==T.agg) (T.dec false c.2) none) (dL0 r cs) | []=>none
def cr9 {τ:Nat→Type}:(l:List (Ty τ))→bx3 l→List (List (CV τ))
 | [],_=>[]
 | T::r,x=>T.enc true x.1::cr9 r x.2
def ei1 {τ:Nat→Type}:(l:List (Ty τ))→List (List (CV τ))→Option (bx3 l)
 | []=>fun cs=>match cs with | []=>some () | _=>none
 | T::r=>fun cs=>match cs with | c::cs=>bO2 (T.dec true c) (ei1 r cs) | []=>none
def eJ3 {τ:Nat→Type}:AV τ→Option (List (Bool × List (CV τ)))
 | .one c=>some [(false,[c])]
 | .agg cs=>some [(true,cs)]
 | .tup []=>some []
 | .tup (x::y::r)=>some (x::y::r)
 | _=>none
def dL1 {τ:Nat→Type} (vs:List (Bool × List (CV τ))):AV τ:=
 match vs with
 | [(true,cs)]=>.agg cs
 | [(false,[c])]=>.one c
 | vs=>.tup vs
def Sig.out {τ:Nat→Type} (s:Sig τ) (r:s.B):Out τ:=⟨dL1 (cS6 s.rs r.1),cr9 (bz6 s.ps) r.2⟩
def Sig.decOut {τ:Nat→Type} (s:Sig τ) (o:Out τ):Option s.B:=
 match eJ3 o.ret with
 | some vs=>
  bO2 (dL0 s.rs vs) (ei1 (bz6 s.ps) o.boxes)
 | none=>none
structure Ent (U:ad6) where
 f:Nat
 sig:Sig U.τ
 G:sig.A→Option sig.B
def tab:List (Ent U)→Tab U
 | []=>fun _ _ _ _=>none
 | e::es=>fun R f as k=>cond (Nat.beq f e.f) (match ck0 e.sig.ps as with | some x=>(e.G x).bind fun r=>k (e.sig.out r) | none=>none) (tab es R f as k)
def aE1 (P:Program) (U:ad6) (e:Ent U):Prop:=∀ x r,e.G x=some r→au8 P U e.f (ap7 e.sig.ps x) (e.sig.out r)
def aa6 (P:Program) (es:List (Ent U)) (adv:Adv) (n:Nat) (fn:Func) (s:Sig U.τ) (x:s.A):Option s.B:=dM5 P (tab es) adv n fn (ap7 s.ps x) s.decOut
theorem ak5.le {w:World} {I:Nat→Nat→Prop} {a:Bool} {cs cs':List (CV U.τ)} {u:Value} (h:ak5 P U w I a cs u) (hl:cS4 P U false cs cs'):ak5 P U w I a cs' u:=by
 cases a with
 | true=>
  obtain ⟨us,h1,h2,h3⟩:=h
  refine ⟨us,h1,by rw [h2,hl.1],fun j c hc=>?_⟩
  have hj:j < cs.length:=by rw [← hl.1]; exact (List.getElem?_eq_some_iff.1 hc).1
  have hd:cs[j]?=some (cs[j]'hj):=List.getElem?_eq_getElem hj
  obtain ⟨x,k1,k2⟩:=h3 j _ hd
  exact ⟨x,k1,(hl.2 j _ c hd hc w I (fun _=>none) (0,none) x).1 rfl k2⟩
 | false=>
  obtain ⟨c,rfl,h2⟩:=h
  match cs',hl with
  | [c'],hl=>exact ⟨c',rfl,(hl.2 0 c c' rfl rfl w I (fun _=>none) (0,none) u).1 rfl h2⟩
  | [],hl=>exact absurd hl.1 (by simp)
  | _::_::_,hl=>exact absurd hl.1 (by simp)
theorem as1.le {w:World} {I:Nat→Nat→Prop} {who:Nat→Option (Nat × Option Nat)} {s:Nat} {p:Nat × Nat} {cs cs':List (CV U.τ)} (h:as1 P U w I who s p cs) (hl:cS4 P U true cs cs'):as1 P U w I who s p cs':=by
 refine ⟨h.hwho,h.himm,?_⟩
 obtain ⟨c,T,fz,h1,h2,h3,h4⟩:=h.row
 refine ⟨c,T,fz,h1,by rw [hl.1]; exact h2,h3,fun i x hx=>?_⟩
 have hj:i < cs.length:=by rw [← hl.1]; exact (List.getElem?_eq_some_iff.1 hx).1
 have hd:cs[i]?=some (cs[i]'hj):=List.getElem?_eq_getElem hj
 obtain ⟨u,k1,k2⟩:=h4 i _ hd
 exact ⟨u,k1,(hl.2 i _ x hd hx w I who (s,some i) u).2 rfl k2⟩
theorem cs1 {w:World} {I:Nat→Nat→Prop} {who:Nat→Option (Nat × Option Nat)} {loc:Nat→Nat × Nat}:∀ (ps:List (Bool × Ty U.τ)) (as:List (Arg U.τ)) (us:List Value) (j:Nat) (x:cS5 ps),ck0 ps as=some x→ag6 P U w I who loc as us j→ag6 P U w I who loc (ap7 ps x) us j
 | [],[],us,j,x,h,r=>r
 | p::ps,a::as,us,j,x,h,r=>by
  obtain ⟨y,z,h1,h2,rfl⟩:=bf1 h
  ·skip
   obtain ⟨b,T⟩:=p
   cases r with
   | val ag cs u as us j k1 k2=>
    cases b with
    | true=>cases h1
    | false=>
     have e2:eq4 (false,T) (.val ag cs)=cond (ag==T.agg) (T.dec false cs) none:=rfl
     rw [e2] at h1
     cases he:(ag==T.agg) with
     | false=>rw [he] at h1; cases h1
     | true=>
      rw [he,cond_true] at h1
      have he:=eq_of_beq he
      subst he
      exact .val _ _ _ _ _ _ (k1.le (T.dec_le h1)) (cs1 ps as us j z h2 k2)
   | ptr cs as us j k1 k2=>
    cases b with
    | false=>cases h1
    | true=>exact .ptr _ _ _ _ (k1.le (T.dec_le h1)) (cs1 ps as us (j+1) z h2 k2)
 | [],_::_,us,j,x,h,r=>by cases h
 | _::_,[],us,j,x,h,r=>by cases h
theorem cF8 (P:Program):∀ (ps:List (Bool × Ty U.τ)) (as:List (Arg U.τ)) (x:cS5 ps),ck0 ps as=some x→(af8 (ap7 ps x)).map List.length=(af8 as).map List.length
 | [],[],x,h=>rfl
 | p::ps,a::as,x,h=>by
  obtain ⟨y,z,h1,h2,rfl⟩:=bf1 h
  ·skip
   have ih:=cF8 P ps as z h2
   obtain ⟨b,T⟩:=p
   cases a with
   | val ag cs=>
    cases b with
    | true=>cases h1
    | false=>exact ih
   | ptr cs=>
    cases b with
    | false=>cases h1
    | true=>
     have k:=(T.dec_le (P:=P) h1).1
     show (af8 (ei0 (true,T) y::ap7 ps z)).map List.length=_
     simp only [ei0,cond_true,af8,List.map_cons]
     rw [ih]
     congr 1
 | [],_::_,x,h=>by cases h
 | _::_,[],x,h=>by cases h
theorem bf2:∀ (es:List (Ent U)),(∀ e∈es,aE1 P U e)→at9 P U (tab es)
 | [],_=>fun R f as k r h=>by cases h
 | e::es,hes=>fun R f as k r h=>by
  have eq:tab (e::es) R f as k=cond (Nat.beq f e.f) (match ck0 e.sig.ps as with | some x=>(e.G x).bind fun r=>k (e.sig.out r) | none=>none) (tab es R f as k):=rfl
  rw [eq] at h
  clear eq
  cases hf:Nat.beq f e.f with
  | false=>
   rw [hf] at h
   exact bf2 es (fun e he=>hes e (List.mem_cons_of_mem _ he)) R f as k r h
  | true=>
   rw [hf,cond_true] at h
   have hf:=Nat.eq_of_beq_eq_true hf
   subst hf
   split at h
   ·rename_i x hx
    cases hG:e.G x with
    | none=>rw [hG] at h; cases h
    | some y=>
     rw [hG] at h
     obtain ⟨c1,c2⟩:=hes e (List.mem_cons_self ..) x y hG
     have hp:=cF8 P e.sig.ps as x hx
     refine ⟨e.sig.out y,⟨c1,fun G0 w vs ha hi hw henv=>?_⟩,h⟩
     refine (c2 G0 w vs (cs1 _ _ _ _ _ hx ha) hi hw henv).mono fun e' w' hh=>?_
     obtain ⟨u,G',a1,a2,a3,a4,a5,a6,a7,a8⟩:=hh
     have hlen:(af8 (ap7 e.sig.ps x)).length=(af8 as).length:=by simpa using congrArg List.length hp
     refine ⟨u,G',a1,a2,a3,a4.trans hlen,a5,fun j cs hj=>?_,a7,a8⟩
     have hj2:j < (af8 (ap7 e.sig.ps x)).length:=by rw [hlen]; exact (List.getElem?_eq_some_iff.1 hj).1
     have hd:(af8 (ap7 e.sig.ps x))[j]?=some ((af8 (ap7 e.sig.ps x))[j]'hj2):=List.getElem?_eq_getElem hj2
     have hl:((af8 (ap7 e.sig.ps x))[j]'hj2).length=cs.length:=by
      have:=congrArg (fun l=>l[j]?) hp
      simp only [List.getElem?_map,hd,hj,Option.map_some,Option.some.injEq] at this
      exact this
     have:=a6 j _ hd
     rw [hl] at this
     exact this
   ·cases h
theorem dO3:∀ (l:List (Ty U.τ)) (vs:List (Bool × List (CV U.τ))) (x:bx3 l),dL0 l vs=some x→
  (cS6 l x).length=vs.length∧∀ (j:Nat) a cs a' cs',vs[j]?=some (a,cs)→(cS6 l x)[j]?=some (a',cs')→a'=a∧cS4 P U false cs cs'
 | [],[],x,h=>⟨rfl,fun j a cs a' cs' h _=>by have h3:(none:Option (Bool × List (CV U.τ)))=some (a,cs):=h; cases h3⟩
 | T::l,c::vs,x,h=>by
  obtain ⟨y,z,h1,h2,rfl⟩:=bf1 h
  ·skip
   obtain ⟨g1,g2⟩:=dO3 l vs z h2
   refine ⟨congrArg Nat.succ g1,fun j a cs a' cs' hd hd'=>?_⟩
   cases j with
   | zero=>
    cases he:(c.1==T.agg) with
    | false=>rw [he] at h1; cases h1
    | true=>
     rw [he,cond_true] at h1
     have e1:c=(a,cs):=by injection hd
     have e2:(T.agg,T.enc false y)=(a',cs'):=by injection hd'
     injection e2 with e2 e3
     subst e1; subst e2; subst e3
     exact ⟨(eq_of_beq he).symm,T.dec_le h1⟩
   | succ j=>exact g2 j a cs a' cs' hd hd'
 | [],_::_,x,h=>by cases h
 | _::_,[],x,h=>by cases h
theorem dO4:∀ (l:List (Ty U.τ)) (vs:List (List (CV U.τ))) (x:bx3 l),ei1 l vs=some x→
  (cr9 l x).length=vs.length∧∀ (j:Nat) cs cs',vs[j]?=some cs→(cr9 l x)[j]?=some cs'→cS4 P U true cs cs'
 | [],[],x,h=>⟨rfl,fun j cs cs' h _=>by have h3:(none:Option (List (CV U.τ)))=some cs:=h; cases h3⟩
 | T::l,c::vs,x,h=>by
  obtain ⟨y,z,h1,h2,rfl⟩:=bf1 h
  ·skip
   obtain ⟨g1,g2⟩:=dO4 l vs z h2
   refine ⟨congrArg Nat.succ g1,fun j cs cs' hd hd'=>?_⟩
   cases j with
   | zero=>
    have e1:c=cs:=by injection hd
    have e2:T.enc true y=cs':=by injection hd'
    subst e1; subst e2
    exact T.dec_le h1
   | succ j=>exact g2 j cs cs' hd hd'
 | [],_::_,x,h=>by cases h
 | _::_,[],x,h=>by cases h
theorem eq5 (x y:Bool × List (CV U.τ)) (r:List (Bool × List (CV U.τ))):dL1 (x::y::r)=.tup (x::y::r):=by
 obtain ⟨a,c⟩:=x
 cases a with
 | true=>rfl
 | false=>
  match c with
  | []=>rfl
  | [_]=>rfl
  | _::_::_=>rfl
theorem eB1 {w:World} {I:Nat→Nat→Prop} {v:AV U.τ} {u:Value} (h:ay5 P U w I v u) {vs:List (Bool × List (CV U.τ))} (hv:eJ3 v=some vs) (l:List (Ty U.τ)) (x:bx3 l) (hx:dL0 l vs=some x):ay5 P U w I (dL1 (cS6 l x)) u:=by
 obtain ⟨g1,g2⟩:=dO3 (P:=P) l vs x hx
 generalize hq:cS6 l x=qs at *
 cases v with
 | one c=>
  injection hv with hv; subst hv
  match qs,g1 with
  | [(a,cs)],_=>
   obtain ⟨rfl,k2⟩:=g2 0 false [c] a cs rfl rfl
   match cs,k2 with
   | [c'],k2=>exact (k2.2 0 c c' rfl rfl w I (fun _=>none) (0,none) u).1 rfl h
   | [],k2=>exact absurd k2.1 (by simp)
   | _::_::_,k2=>exact absurd k2.1 (by simp)
 | agg cs0=>
  injection hv with hv; subst hv
  match qs,g1 with
  | [(a,cs)],_=>
   obtain ⟨rfl,k2⟩:=g2 0 true cs0 a cs rfl rfl
   exact ak5.le (a:=true) h k2
 | tup ts=>
  have hr:ts=vs∧dL1 qs=.tup qs:=by
   match ts,hv with
   | [],hv=>injection hv with hv; subst hv; match qs,g1 with | [],_=>exact ⟨rfl,rfl⟩
   | _::_::_,hv=>injection hv with hv; subst hv; match qs,g1 with | _::_::_,_=>exact ⟨rfl,eq5 _ _ _⟩
  obtain ⟨rfl,hr⟩:=hr
  rw [hr]
  obtain ⟨us,k1,k2,k3⟩:=h
  refine ⟨us,k1,by rw [k2,g1],fun j a cs hj=>?_⟩
  have hjl:j < ts.length:=by rw [← g1]; exact (List.getElem?_eq_some_iff.1 hj).1
  have hd:ts[j]?=some ((ts[j]'hjl).1,(ts[j]'hjl).2):=List.getElem?_eq_getElem hjl
  obtain ⟨y,m1,m2⟩:=k3 j _ _ hd
  obtain ⟨rfl,n2⟩:=g2 j _ _ a cs hd hj
  exact ⟨y,m1,m2.le n2⟩
 | _=>cases hv
theorem dA7 {f:Nat} {as:List (Arg U.τ)} {o:Out U.τ} (h:au8 P U f as o) {s:Sig U.τ} {r:s.B} (hr:s.decOut o=some r):au8 P U f as (s.out r):=by
 obtain ⟨h1,h2⟩:=h
 unfold Sig.decOut at hr
 split at hr
 ·rename_i vs hv
  obtain ⟨x,y,hx,hy,rfl⟩:=bf1 hr
  ·skip
   obtain ⟨b1,b2⟩:=dO4 (P:=P) _ _ _ hy
   refine ⟨h1,fun G0 w us ha hi hw henv=>(h2 G0 w us ha hi hw henv).mono fun e w' hh=>?_⟩
   obtain ⟨u,G',a1,a2,a3,a4,a5,a6,a7,a8⟩:=hh
   refine ⟨u,G',a1,a2,eB1 a3 hv _ _ hx,b1.trans a4,fun j cs hj=>?_,fun j cs hj=>?_,a7,a8⟩
   ·have hjl:j < o.boxes.length:=by rw [← b1]; exact (List.getElem?_eq_some_iff.1 hj).1
    have hd:o.boxes[j]?=some (o.boxes[j]'hjl):=List.getElem?_eq_getElem hjl
    exact (a5 j _ hd).le (b2 j _ _ hd hj)
   ·obtain ⟨⟨l,k1,k2⟩,k3⟩:=a6 j cs hj
    have hjl:j < (cr9 (bz6 s.ps) y).length:=by rw [b1]; exact (List.getElem?_eq_some_iff.1 k1).1
    have hd:(cr9 (bz6 s.ps) y)[j]?=some ((cr9 (bz6 s.ps) y)[j]'hjl):=List.getElem?_eq_getElem hjl
    exact ⟨⟨_,hd,by rw [(b2 j _ _ k1 hd).1,k2]⟩,k3⟩
 ·cases hr
theorem eB2 (hU:aF4 P U) (hm:P.follows .mixedOrders=true) {es:List (Ent U)} (hes:∀ e∈es,aE1 P U e) {adv:Adv} {n f:Nat} {fn:Func} (hf:P.funcs[f]?=some fn)
  (hcall:∀ vs w,(callFunc f vs).run P w=.ok (.enter f vs) w) (s:Sig U.τ):aE1 P U ⟨f,s,aa6 P es adv n fn s⟩:=by
 intro x r h
 obtain ⟨o,h1,h2⟩:=cr8 hU (bf2 es hes) hm hf hcall h
 exact dA7 h1 h2
def inl (P:Program) (f0:Nat) (Φ':Tab U) (adv:Adv) (n:Nat) (fn:Func) (Φ:Tab U):Tab U:=fun R f as k=>cond (Nat.beq f f0) (dM5 P Φ' adv n fn as k) (Φ R f as k)
theorem dA8 (hU:aF4 P U) (hm:P.follows .mixedOrders=true) {Φ Φ':Tab U} (h:at9 P U Φ) (h':at9 P U Φ') {adv:Adv} {n f0:Nat} {fn:Func} (hf:P.funcs[f0]?=some fn)
  (hcall:∀ vs w,(callFunc f0 vs).run P w=.ok (.enter f0 vs) w):at9 P U (inl P f0 Φ' adv n fn Φ):=by
 intro R f as k r hr
 unfold inl at hr
 cases hb:Nat.beq f f0 with
 | false=>rw [hb] at hr; exact h R f as k r hr
 | true=>
  rw [hb,cond_true] at hr
  have:=Nat.eq_of_beq_eq_true hb
  subst this
  exact cr8 hU h' hm hf hcall hr
def dj2 (P:Program) (Φ:Tab U) (adv:Adv) (n:Nat) (fn:Func) (s:Sig U.τ) (x:s.A):Option s.B:=dM5 P Φ adv n fn (ap7 s.ps x) s.decOut
theorem dO5 (hU:aF4 P U) (hm:P.follows .mixedOrders=true) {Φ:Tab U} (hΦ:at9 P U Φ) {adv:Adv} {n f:Nat} {fn:Func} (hf:P.funcs[f]?=some fn)
  (hcall:∀ vs w,(callFunc f vs).run P w=.ok (.enter f vs) w) (s:Sig U.τ):aE1 P U ⟨f,s,dj2 P Φ adv n fn s⟩:=by
 intro x r h
 obtain ⟨o,h1,h2⟩:=cr8 hU hΦ hm hf hcall h
 exact dA7 h1 h2
end
end Go.VI
namespace Go.VI
open Go Go.RowKit Go.ChangeShapes Go.WideShapes
def dj3 {τ:Nat→Type}:(a b:List FK)→aI4 τ a→aI4 τ b→aI4 τ (a++b)
 | [],_,_,y=>y
 | _::a,b,x,y=>(x.1,dj3 a b x.2 y)
theorem cF9 {τ:Nat→Type} (m:Bool):∀ (a b:List FK) (x:aI4 τ a) (y:aI4 τ b),aQ9 m (a++b) (dj3 a b x y)=aQ9 m a x++aQ9 m b y
 | [],_,_,y=>rfl
 | k::a,b,x,y=>congrArg (k.enc m x.1::·) (cF9 m a b x.2 y)
section
variable {P:Program} {U:ad6}
def eW5 (P:Program) (g:∀ e,U.τ e→Prop):(k:FK)→k.den U.τ→Prop
 | .int i,n=>i.has n
 | .bool,_=>True
 | .str,s=>s.length≤140737488351232
 | .sl e,xs=>xs.length * P.bytesOf e≤140737488351232∧∀ x,List.Mem (α:=U.τ e) x xs→g e x
 | .bs e,s=>s.length * P.bytesOf e≤140737488351232
 | .fn,_=>True
def bK5 (P:Program) (g:∀ e,U.τ e→Prop):(ks:List FK)→aI4 U.τ ks→Prop
 | [],_=>True
 | k::r,x=>eW5 P g k x.1∧bK5 P g r x.2
theorem cs3 {g:∀ e,U.τ e→Prop}:∀ (a b:List FK) (x:aI4 U.τ a) (y:aI4 U.τ b),bK5 P g a x→bK5 P g b y→bK5 P g (a++b) (dj3 a b x y)
 | [],_,_,y,_,h=>h
 | k::a,b,x,y,hx,hy=>⟨hx.1,cs3 a b x.2 y hx.2 hy⟩
def IW (w:World) (b o:Nat):Prop:=(w.cell? ⟨b,o,none⟩).isSome=true
def aU7 (P:Program) (U:ad6) (w:World) (l:List (CV U.τ)) (cs:List Value):Prop:=
 cs.length=l.length∧∀ (j:Nat) c u,l[j]?=some c→cs[j]?=some u→PC P U w (IW w) c u
theorem aU7.append {w:World} {a b:List (CV U.τ)} {x y:List Value} (h:aU7 P U w a x) (k:aU7 P U w b y):aU7 P U w (a++b) (x++y):=by
 refine ⟨by simp [h.1,k.1],fun j c u hc hu=>?_⟩
 rw [List.getElem?_append] at hc hu
 rw [h.1] at hu
 split at hc
 ·rename_i hlt
  rw [if_pos hlt] at hu
  exact h.2 j c u hc hu
 ·rename_i hge
  rw [if_neg hge] at hu
  exact k.2 _ c u hc hu
def ad3 (P:Program) (U:ad6) (g:∀ e,U.τ e→Prop) (t:TypeId) (ks:List FK):Prop:=
 P.cellsOf t=ks.length∧∀ (H:Type) (enc:TypeId × Value→H) (w:World) (spare:Nat→Bool) (held:Bool) (fuel:Nat) (cs:List Value) (d:DataW H) (ps:List MemPlace),
  DataW.trod enc P w 0 spare held fuel t cs=some (d,ps)→(∀ n∈d.weights P t,n≤reachBytes)→∃ x:aI4 U.τ ks,bK5 P g ks x∧aU7 P U w (aQ9 false ks x) cs
def bh8 (P:Program) (U:ad6) (g:∀ e,U.τ e→Prop) (e:TypeId):Prop:=
 ∀ (H:Type) (enc:TypeId × Value→H) (w:World) (spare:Nat→Bool) (held:Bool) (fuel:Nat) (cs:List Value) (d:DataW H) (ps:List MemPlace),
  DataW.trod enc P w 0 spare held fuel e cs=some (d,ps)→(∀ n∈d.weights P e,n≤reachBytes)→∃ x:U.τ e,g e x∧aU7 P U w (U.enc e x) cs
variable {g:∀ e,U.τ e→Prop}
theorem bh8.of {e:TypeId} {ks:List FK} (h:ad3 P U g e ks) (f:aI4 U.τ ks→U.τ e) (hf:∀ y,U.enc e (f y)=aQ9 false ks y) (hg:∀ y,bK5 P g ks y→g e (f y)):bh8 P U g e:=by
 intro H enc w spare held fuel cs d ps hd hs
 obtain ⟨x,h1,h2⟩:=h.2 H enc w spare held fuel cs d ps hd hs
 exact ⟨f x,hg x h1,by rw [hf]; exact h2⟩
theorem bf3 {w:World} {c:CV U.τ} {u:Value} (h:PC P U w (IW w) c u):aU7 P U w [c] [u]:=by
 refine ⟨rfl,fun j c' u' hc hu=>?_⟩
 cases j with
 | zero=>injection hc with hc; injection hu with hu; subst hc; subst hu; exact h
 | succ j=>cases hc
theorem ad3.int {t:TypeId} {k:IntKind} (ht:P.underlying t=some (.int k)) (hc:P.cellsOf t=1):ad3 P U g t [.int k]:=
 ⟨hc,fun H enc w spare held fuel cs d ps h _=>by
  obtain ⟨n,rfl,_,hw⟩:=DataW.trod_int ht h
  have:=(Lit.wf_int_iff k n).1 hw
  exact ⟨(n,()),⟨this,trivial⟩,bf3 (.int k n this)⟩⟩
theorem ad3.bool {t:TypeId} (ht:P.underlying t=some .bool) (hc:P.cellsOf t=1):ad3 P U g t [.bool]:=
 ⟨hc,fun H enc w spare held fuel cs d ps h _=>by
  obtain ⟨b,rfl,_⟩:=DataW.trod_bool ht h
  exact ⟨(b,()),⟨trivial,trivial⟩,bf3 (.bool b)⟩⟩
theorem ad3.str {t:TypeId} (ht:P.underlying t=some .string) (hc:P.cellsOf t=1):ad3 P U g t [.str]:=
 ⟨hc,fun H enc w spare held fuel cs d ps h hs=>by
  obtain ⟨s,rfl,hx,_⟩:=DataW.trod_string ht h
  injection hx with hd _
  subst hd
  have h1:s.data.toList.length≤140737488351232:=hs s.data.toList.length (by simp [DataW.weights])
  exact ⟨(s.data.toList,()),⟨h1,trivial⟩,bf3 (.str s.data.toList (by unfold ad0; omega))⟩⟩
theorem ei2 {α:Type} {p:Nat→α→Prop} (n:Nat) (h:∀ i,i < n→∃ x,p i x):∃ l:List α,l.length=n∧∀ i x,l[i]?=some x→p i x:=by
 induction n with
 | zero=>exact ⟨[],rfl,fun i x h=>by simp at h⟩
 | succ n ih=>
  obtain ⟨l,hl,hp⟩:=ih (fun i hi=>h i (by omega))
  obtain ⟨x,hx⟩:=h n (by omega)
  refine ⟨l++[x],by simp [hl],fun i y hy=>?_⟩
  rcases Nat.lt_trichotomy i n with hi | hi | hi
  ·exact hp i y (by rw [List.getElem?_append_left (by omega)] at hy; exact hy)
  ·subst hi
   rw [List.getElem?_append_right (by omega),hl] at hy
   simp at hy
   subst hy
   exact hx
  ·rw [List.getElem?_eq_none (by simp; omega)] at hy
   cases hy
theorem bh9 {H:Type} {P:Program} {e:TypeId}:∀ {ds:List (DataW H)} {j:Nat} {d:DataW H},ds[j]?=some d→∀ n∈d.weights P e,n∈DataW.weightsAll P e ds
 | d0::ds,0,d,hd,n,hn=>by
  simp only [List.getElem?_cons_zero,Option.some.injEq] at hd
  subst hd
  simp only [DataW.weightsAll,List.mem_append]
  exact Or.inl hn
 | d0::ds,j+1,d,hd,n,hn=>by
  simp only [List.getElem?_cons_succ] at hd
  simp only [DataW.weightsAll,List.mem_append]
  exact Or.inr (bh9 hd n hn)
 | [],_,_,hd,_,_=>by simp at hd
theorem dO6 {H:Type} {enc:TypeId × Value→H} {w:World} {spare:Nat→Bool} {held:Bool} {fuel:Nat} {cs:List Value} {d:DataW H} {ps:List MemPlace} {α:Type} {t e:TypeId} (f:α→List (CV U.τ)) (p:α→Prop)
  (ht:P.underlying t=some (.slice e)) (hz:∀ x,p x→(f x).length=P.cellsOf e) (hz1:1≤P.cellsOf e)
  (he:∀ (n:Nat) (cs:List Value) (d:DataW H) (ps:List MemPlace),DataW.trod enc P w 0 spare held n e cs=some (d,ps)→(∀ n∈d.weights P e,n≤reachBytes)→∃ x:α,p x∧aU7 P U w (f x) cs)
  (h:DataW.trod enc P w 0 spare held fuel t cs=some (d,ps)) (hs:∀ n∈d.weights P t,n≤reachBytes) :
  ∃ xs:List α,(xs.length * P.bytesOf e≤140737488351232)∧(∀ x∈xs,p x)∧∀ c:CV U.τ,cont c=some (e,xs.map f,.ro)→∃ u,cs=[u]∧PC P U w (IW w) c u:=by
 rcases Deep.open_slice ht h with ⟨rfl,hx⟩ | ⟨a,len,cap,m,n,D,Pl,rfl,_,hl,hm,hmm,hx,hel⟩
 ·exact ⟨[],by simp,fun x hx=>by simp at hx,fun c hc=>⟨_,rfl,.nil c e .ro hc (by simp)⟩⟩
 ·injection hx with hd _
  subst hd
  have hlm:len≤m:=by
   rw [hmm]
   split <;> omega
  obtain ⟨xs,hxl,hxp⟩:=ei2 (p:=fun i x=>∃ cs',w.cells? 0 (a.add (i * P.cellsOf e)) (P.cellsOf e)=some cs'∧p x∧aU7 P U w (f x) cs') len (fun i hi=>by
   obtain ⟨cs',h1,h2⟩:=hel i (by omega)
   obtain ⟨x,h3,h4⟩:=he n cs' _ _ h2 (fun n hn=>hs n (by
    simp only [DataW.weights,ht]
    refine List.mem_cons_of_mem _ (List.mem_append_left _ (bh9 (j:=i) ?_ n hn))
    simp [hi]))
   exact ⟨x,cs',h1,h3,h4⟩)
  refine ⟨xs,?_,fun x hx=>?_,fun c hc=>⟨_,rfl,?_⟩⟩
  ·have:=hs ((len+(m - len)) * P.bytesOf e) (by simp [DataW.weights,ht])
   have h5:xs.length * P.bytesOf e≤(len+(m - len)) * P.bytesOf e:=Nat.mul_le_mul_right _ (by omega)
   exact Nat.le_trans h5 this
  ·obtain ⟨j,hj⟩:=List.mem_iff_getElem?.1 hx
   obtain ⟨_,_,h4,_⟩:=hxp j x hj
   exact h4
  ·by_cases hne:xs=[]
   ·subst hne
    have:len=0:=hxl.symm
    subst this
    exact .emp c e a cap hc
   ·have hlen:(xs.map f).length=len:=by simp [hxl]
    have hpos:0 < len:=by rw [← hxl]; exact List.length_pos_iff.2 hne
    have hcell:∀ (i:Nat) (x:α) (j:Nat) (y:CV U.τ),xs[i]?=some x→(f x)[j]?=some y→∃ u,w.cell? (a.add (i * P.cellsOf e+j))=some u∧PC P U w (IW w) y u:=fun i x j y hi hj=>by
     obtain ⟨cs',h1,h2,h3⟩:=hxp i x hi
     have hjl:j < (f x).length:=(List.getElem?_eq_some_iff.1 hj).1
     have hjc:j < cs'.length:=by rw [h3.1]; exact hjl
     have hu:cs'[j]?=some (cs'[j]'hjc):=List.getElem?_eq_getElem hjc
     refine ⟨_,?_,h3.2 j y _ hj hu⟩
     have:=(World.cells?_some h1).2.2 j (by rw [← hz x h2]; exact hjl)
     rw [Deep.add_add,hu] at this
     exact this
    have hspot:a.spot=none:=by
     cases xs with
     | nil=>exact absurd rfl hne
     | cons x xs=>
      obtain ⟨_,_,h2,_⟩:=hxp 0 x rfl
      have hf:=hz x h2
      obtain ⟨y,hy⟩:∃ y,(f x)[0]?=some y:=⟨_,List.getElem?_eq_getElem (by omega)⟩
      obtain ⟨u,hu,_⟩:=hcell 0 x 0 y rfl hy
      have e0:a.add (0 * P.cellsOf e+0)=a:=by simp [Addr.add]
      rw [e0] at hu
      cases hsp:a.spot with
      | none=>rfl
      | some q=>
       unfold World.cell? at hu
       split at hu
       ·rw [hsp] at hu; simp at hu
       ·cases hu
    obtain ⟨b,off,sp⟩:=a
    simp only at hspot
    subst hspot
    have hmx:(len:Int)≤ad0:=by unfold ad0; unfold maxLen at hm; omega
    have key:=PC.of_cont (P:=P) (U:=U) (w:=w) (I:=IW w) (b:=b) (off:=off) (cap:=cap) hc (by simp) (by rw [hlen]; exact hl) (by simp) (by rw [hlen]; exact hmx)
     ⟨fun i l hi=>by
      rw [List.getElem?_map] at hi
      cases hxi:xs[i]? with
      | none=>rw [hxi] at hi; cases hi
      | some x=>rw [hxi] at hi; injection hi with hi; subst hi; obtain ⟨_,_,h2,_⟩:=hxp i x hxi; exact hz x h2,
     fun i l j y hi hj=>by
      rw [List.getElem?_map] at hi
      cases hxi:xs[i]? with
      | none=>rw [hxi] at hi; cases hi
      | some x=>
       rw [hxi] at hi; injection hi with hi; subst hi
       obtain ⟨u,hu,_⟩:=hcell i x j y hxi hj
       rw [Addr.add_none,← Nat.add_assoc] at hu
       show (w.cell? _).isSome=true
       rw [hu]; rfl,
     fun i l j y hi hj=>by
      rw [List.getElem?_map] at hi
      cases hxi:xs[i]? with
      | none=>rw [hxi] at hi; cases hi
      | some x=>
       rw [hxi] at hi; injection hi with hi; subst hi
       obtain ⟨u,hu,hp⟩:=hcell i x j y hxi hj
       rw [Addr.add_none,← Nat.add_assoc] at hu
       exact ⟨u,hu,hp⟩⟩
    rw [hlen] at key
    exact key
theorem ad3.slice {t e:TypeId} (ht:P.underlying t=some (.slice e)) (hc:P.cellsOf t=1) (hz:∀ x:U.τ e,(U.enc e x).length=P.cellsOf e) (hz1:1≤P.cellsOf e) (he:bh8 P U g e):ad3 P U g t [.sl e]:=
 ⟨hc,fun H enc w spare held fuel cs d ps h hs=>by
  obtain ⟨xs,h1,h2,h3⟩:=dO6 (U.enc e) (g e) ht (fun x _=>hz x) hz1 (fun n cs d ps a b=>he H enc w spare held n cs d ps a b) h hs
  obtain ⟨u,rfl,h4⟩:=h3 (.sl e xs .ro) rfl
  exact ⟨(xs,()),⟨⟨h1,h2⟩,trivial⟩,bf3 h4⟩⟩
theorem ad3.bytes {t e:TypeId} (ht:P.underlying t=some (.slice e)) (hc:P.cellsOf t=1) (hu:P.underlying e=some (.int .u8)) (hz:P.cellsOf e=1):ad3 P U g t [.bs e]:=
 ⟨hc,fun H enc w spare held fuel cs d ps h hs=>by
  obtain ⟨xs,h1,h2,h3⟩:=dO6 (U:=U) (fun b:UInt8=>[.int .u8 b.toNat]) (fun _:UInt8=>True) ht (fun x _=>by rw [hz]; rfl) (by omega) (fun n cs d ps a b=>by
   obtain ⟨n,rfl,_,hw⟩:=DataW.trod_int hu a
   have hw:=(Lit.wf_int_iff .u8 n).1 hw
   have h5:IntKind.u8.min=0:=by decide
   have h6:IntKind.u8.max=255:=by decide
   refine ⟨UInt8.ofNat n.toNat,trivial,bf3 ?_⟩
   have:((UInt8.ofNat n.toNat).toNat:Int)=n:=by
    have h7:(UInt8.ofNat n.toNat).toNat=n.toNat % 256:=by simp
    rw [h7]
    omega
   show PC P U w (IW w) (CV.int .u8 ((UInt8.ofNat n.toNat).toNat:Int)) (.int .u8 n)
   rw [this]
   exact .int _ _ hw) h hs
  obtain ⟨u,rfl,h4⟩:=h3 (.bs e xs .ro) rfl
  exact ⟨(xs,()),⟨h1,trivial⟩,bf3 h4⟩⟩
def ae9 (P:Program) (U:ad6) (g:∀ e,U.τ e→Prop) (fs:Array Field) (i off:Nat) (ks:List FK):Prop:=
 ∀ (H:Type) (enc:TypeId × Value→H) (w:World) (spare:Nat→Bool) (held:Bool) (n:Nat) (cs:List Value) (xs:List (DataW H × List MemPlace)),
  (∀ (j:Nat) (f:Field),fs[j]?=some f→DataW.trod enc P w 0 spare held n f.type ((cs.drop f.offset).take (P.cellsOf f.type))=xs[j]?)→xs.length=fs.size→
  (∀ (j:Nat) (f:Field) (y:DataW H × List MemPlace),fs[j]?=some f→xs[j]?=some y→∀ m∈y.1.weights P f.type,m≤reachBytes)→∃ x:aI4 U.τ ks,bK5 P g ks x∧aU7 P U w (aQ9 false ks x) ((cs.drop off).take ks.length)
theorem ae9.nil {fs:Array Field} {i off:Nat}:ae9 P U g fs i off []:=fun H enc w spare held n cs xs hx hl hs=>⟨(),trivial,by simp [aQ9,aU7]⟩
theorem ae9.cons {fs:Array Field} {i off off2:Nat} {a b:List FK} (f:Field) (hf:fs[i]?=some f) (ho:f.offset=off) (h:ad3 P U g f.type a) (ho2:off2=off+a.length)
  (hb:ae9 P U g fs (i+1) off2 b):ae9 P U g fs i off (a++b):=by
 intro H enc w spare held n cs xs hx hl hs
 have hi:i < fs.size:=(Array.getElem?_eq_some_iff.1 hf).1
 have hy:xs[i]?=some xs[i]:=List.getElem?_eq_getElem (by omega)
 have ht:=hx i f hf
 rw [hy] at ht
 obtain ⟨x,h1,h2⟩:=h.2 H enc w spare held n _ _ _ ht (hs i f _ hf hy)
 obtain ⟨y,h3,h4⟩:=hb H enc w spare held n cs xs hx hl hs
 refine ⟨dj3 a b x y,cs3 a b x y h1 h3,?_⟩
 rw [cF9,List.length_append,List.take_add,List.drop_drop,← ho2]
 rw [h.1,ho] at h2
 exact h2.append h4
theorem ad3.struct {t:TypeId} {fs:Array Field} {ks:List FK} (ht:P.underlying t=some (.struct fs)) (hc:P.cellsOf t=ks.length) (h:ae9 P U g fs 0 0 ks):ad3 P U g t ks:=
 ⟨hc,fun H enc w spare held fuel cs d ps hd hs=>by
  obtain ⟨xs,n,rfl,hx,hl,hxl,hel⟩:=DataW.trod_struct ht hd
  injection hx with hx1 _
  subst hx1
  obtain ⟨x,h1,h2⟩:=h H enc w spare held n cs xs hel hxl (fun j f y hf hy m hm=>hs m (by
   simp only [DataW.weights,ht]
   refine DataW.weights_mem_each (j:=j) (t:=f.type) (d:=y.1) ?_ ?_ m hm
   ·simp only [List.getElem?_map,Array.getElem?_toList,hf,Option.map_some]
   ·simp only [List.getElem?_map,hy,Option.map_some]))
  refine ⟨x,h1,?_⟩
  have e:(cs.drop 0).take ks.length=cs:=by
   rw [List.drop_zero]
   exact List.take_of_length_le (by omega)
  rw [e] at h2
  exact h2⟩
def ck1 (P:Program) (U:ad6) (g:∀ e,U.τ e→Prop) (m i:Nat) (e:TypeId) (ks:List FK):Prop:=
 ∀ (H:Type) (enc:TypeId × Value→H) (w:World) (spare:Nat→Bool) (held:Bool) (n:Nat) (cs:List Value) (xs:List (DataW H × List MemPlace)),
  (∀ j,j < m→DataW.trod enc P w 0 spare held n e ((cs.drop (j * P.cellsOf e)).take (P.cellsOf e))=xs[j]?)→xs.length=m→
  (∀ (j:Nat) (y:DataW H × List MemPlace),xs[j]?=some y→∀ m∈y.1.weights P e,m≤reachBytes)→∃ x:aI4 U.τ ks,bK5 P g ks x∧aU7 P U w (aQ9 false ks x) ((cs.drop (i * P.cellsOf e)).take ks.length)
theorem ck1.nil {m i:Nat} {e:TypeId}:ck1 P U g m i e []:=fun H enc w spare held n cs xs hx hl hs=>⟨(),trivial,by simp [aQ9,aU7]⟩
theorem ck1.cons {m i:Nat} {e:TypeId} {a b:List FK} (hi:i < m) (h:ad3 P U g e a) (hb:ck1 P U g m (i+1) e b):ck1 P U g m i e (a++b):=by
 intro H enc w spare held n cs xs hx hl hs
 have hy:xs[i]?=some xs[i]:=List.getElem?_eq_getElem (by omega)
 have ht:=hx i hi
 rw [hy] at ht
 obtain ⟨x,h1,h2⟩:=h.2 H enc w spare held n _ _ _ ht (hs i _ hy)
 obtain ⟨y,h3,h4⟩:=hb H enc w spare held n cs xs hx hl hs
 refine ⟨dj3 a b x y,cs3 a b x y h1 h3,?_⟩
 rw [cF9,List.length_append,List.take_add,List.drop_drop,← h.1]
 rw [Nat.add_mul,Nat.one_mul] at h4
 exact h2.append h4
theorem ad3.array {t e:TypeId} {m:Nat} {ks:List FK} (ht:P.underlying t=some (.array m e)) (hc:P.cellsOf t=ks.length) (h:ck1 P U g m 0 e ks):ad3 P U g t ks:=
 ⟨hc,fun H enc w spare held fuel cs d ps hd hs=>by
  obtain ⟨xs,n,rfl,hx,hl,hxl,hel⟩:=DataW.trod_array ht hd
  injection hx with hx1 _
  subst hx1
  obtain ⟨x,h1,h2⟩:=h H enc w spare held n cs xs hel hxl (fun j y hy m hm=>hs m (by
   simp only [DataW.weights,ht]
   refine bh9 (j:=j) (d:=y.1) ?_ m hm
   simp only [List.getElem?_map,hy,Option.map_some]))
  refine ⟨x,h1,?_⟩
  have e:(cs.drop (0 * P.cellsOf e)).take ks.length=cs:=by
   rw [Nat.zero_mul,List.drop_zero]
   exact List.take_of_length_le (by omega)
  rw [e] at h2
  exact h2⟩
theorem dA9 {H:Type} {P:Program} {ts:List TypeId} {ds:List (DataW H)} (hsz:(DataW.weightsEach P ts ds).all (·≤reachBytes)=true) {j:Nat} {t:TypeId} {d:DataW H} (ht:ts[j]?=some t) (hd:ds[j]?=some d):∀ n∈d.weights P t,n≤reachBytes:=
 fun n hn=>by simpa using List.all_eq_true.1 hsz _ (DataW.weights_mem_each ht hd n hn)
def eS4 (P:Program) (t:TypeId):Bool:=
 match P.underlying t with
 | some (.struct _)=>true
 | some (.array _ _)=>true
 | _=>false
theorem dO7 {T:Ty U.τ} {t:TypeId} (h:ad3 P U g t T.ks) (ha:eS4 P t=T.agg) {H:Type} {enc:TypeId × Value→H} {w:World} {base:Nat} {spare:Nat→Bool} {held:Bool} {v:Value} {d:DataW H} {ps:List MemPlace} (hok:Value.okWide P w .any base t v)
  (hd:DataW.Trod enc P w 0 spare held t v d ps) (hs:∀ n∈d.weights P t,n≤reachBytes):∃ x:T.α,(∃ y,x=T.of y∧bK5 P g T.ks y)∧ak5 P U w (IW w) T.agg (T.enc false x) v:=by
 obtain ⟨fuel,hd⟩:=hd
 obtain ⟨y,h1,h2,h3⟩:=h.2 H enc w spare held fuel _ d ps hd hs
 refine ⟨T.of y,⟨y,rfl,h1⟩,?_⟩
 have he:T.enc false (T.of y)=aQ9 false T.ks y:=by unfold Ty.enc; rw [T.ok]
 rw [he]
 unfold Value.okWide at hok
 unfold eS4 at ha
 have row:∀ cs:Array Value,v=.agg cs→T.agg=true→ak5 P U w (IW w) T.agg (aQ9 false T.ks y) v:=fun cs hv hT=>by
  subst hv
  rw [hT]
  have hc:(Value.agg cs).cells.toList=cs.toList:=rfl
  rw [hc] at h2 h3
  refine ⟨cs,rfl,by simpa using h2,fun j c hj=>?_⟩
  have hjl:j < cs.toList.length:=by rw [h2]; exact (List.getElem?_eq_some_iff.1 hj).1
  have hu:cs.toList[j]?=some (cs.toList[j]'hjl):=List.getElem?_eq_getElem hjl
  exact ⟨_,by rw [← Array.getElem?_toList]; exact hu,h3 j c _ hj hu⟩
 have one:(∀ cs:Array Value,v≠.agg cs)→(∀ cs:Array Value,v≠.tuple cs)→T.agg=false→ak5 P U w (IW w) T.agg (aQ9 false T.ks y) v:=fun hv hv2 hT=>by
  rw [hT]
  have hc:v.cells.toList=[v]:=by cases v <;> first | rfl | exact absurd rfl (hv _) | exact absurd rfl (hv2 _)
  rw [hc] at h2 h3
  match hl:aQ9 false T.ks y,h2,h3 with
  | [c],_,h3=>exact ⟨c,rfl,h3 0 c v rfl rfl⟩
  | [],h2,_=>exact absurd h2 (by simp)
  | _::_::_,h2,_=>exact absurd h2 (by simp)
 cases hu:P.underlying t with
 | none=>rw [hu] at hok; simp [Cell.okWide,Cell.ok,hu] at hok
 | some d0=>
  rw [hu] at hok ha
  cases d0 with
  | struct fs=>obtain ⟨cs,hv,_⟩:=hok; exact row cs hv ha.symm
  | array m e=>obtain ⟨cs,hv,_⟩:=hok; exact row cs hv ha.symm
  | _=>exact one (fun cs hv=>by subst hv; simp [Cell.okWide,Cell.ok,hu] at hok) (fun cs hv=>by subst hv; simp [Cell.okWide,Cell.ok,hu] at hok) ha.symm
theorem eq6 {e:Ent U} (he:aE1 P U e) {T:Ty U.τ} {x:e.sig.A} {vs:List Value} {w:World} {r:e.sig.B} (hr:e.G x=some r) (ho:e.sig.out r=⟨.one (.bool true),[]⟩) (ha:ag6 P U w (IW w) (fun _=>none) (fun _=>(0,0)) (ap7 e.sig.ps x) vs 0) (henv:U.env w) (hnb:U.nb≤w.heap.size) :
  Calls P e.f vs.toArray w fun ed w'=>ed=.returned (.bool true)∧Below w.heap.size w w':=by
 obtain ⟨_,h2⟩:=he x r hr
 refine (h2 ⟨IW w,fun _=>(0,0),fun _=>none⟩ w vs ha (fun b o h=>h) (fun b L h=>by cases h) ⟨henv,hnb,fun _ _=>rfl⟩).mono fun ed w' hh=>?_
 obtain ⟨u,G',h3,h4,h5,_⟩:=hh
 rw [ho] at h5
 have h6:u=.bool true:=PC.of_bool h5
 subst h6
 exact ⟨h3,h4.os,h4.tape,h4.output,h4.size,fun k hk=>h4.old k hk rfl⟩
end
end Go.VI
namespace Go.VI
open Go Go.RowKit Go.ChangeShapes Go.WideShapes
section
variable {P:Program} {U:ad6}
noncomputable def eJ4 (P:Program) (fn:Func) (m:Nat) (s:Sig U.τ):St U→Option s.B:=fun st=>match cS1 P fn.results.toList m st with | some o=>s.decOut o | none=>none
theorem aC7 {f:Nat} {fn:Func} (hf:P.funcs[f]?=some fn) (h:(fn.name== "runtime.NumGoroutine")=false) (hb:fn.body.isNone=false):∀ (vs:Array Value) w,(callFunc f vs).run P w=.ok (.enter f vs) w:=by
 intro vs w
 have h1:¬fn.name= "runtime.NumGoroutine" := by simpa using h
 have h2:¬fn.body=none:=fun he=>by rw [he] at hb; cases hb
 simp [callFunc,hf,h1,h2]
theorem ei3 {f:Nat} {s:Sig U.τ} {G:s.A→Option s.B} (he:aE1 P U ⟨f,s,G⟩) {x:s.A} {vs:List Value} {w:World} {r:s.B} (hr:G x=some r) (ho:s.out r=⟨.one (.bool true),[]⟩) (ha:ag6 P U w (IW w) (fun _=>none) (fun _=>(0,0)) (ap7 s.ps x) vs 0) (henv:U.env w) (hnb:U.nb≤w.heap.size) :
  Calls P f vs.toArray w fun ed w'=>ed=.returned (.bool true)∧Below w.heap.size w w':=by
 exact eq6 (e:=⟨f,s,G⟩) he (T:=⟨Bool,false,[.bool],fun x=>(x,()),fun y=>y.1,fun _=>rfl,.inr ⟨_,rfl⟩⟩) hr ho ha henv hnb
end
end Go.VI
namespace Go.VI
open Go Go.RowKit Go.ChangeShapes Go.WideShapes
section
variable {P:Program} {U:ad6}
theorem dO8 {f:Nat} {as:List (Arg U.τ)} {out:AV U.τ} (hc:∀ (vs:Array Value) w,(callFunc f vs).run P w=.ok (.enter f vs) w) (hp:af8 as=[])
  (h:∀ (G0:ab7) (w:World) (vs:List Value),ag6 P U w G0.I G0.who G0.loc as vs 0→cq7 U G0 w→
   Calls P f vs.toArray w fun e w'=>∃ u,e=.returned u∧Below w.heap.size w w'∧∃ J:Nat→Nat→Prop,(∀ b o,J b o→w.heap.size≤b∧(w'.cell? ⟨b,o,none⟩).isSome=true)∧ay5 P U w' (fun b o=>G0.I b o∨J b o) out u):au8 P U f as ⟨out,[]⟩:=by
 refine ⟨hc,fun G0 w vs ha hi hw henv=>(h G0 w vs ha henv).mono fun e w' hh=>?_⟩
 obtain ⟨u,he,hb,J,hJ,hr⟩:=hh
 have hcell:∀ b o,G0.I b o→w'.cell? ⟨b,o,none⟩=w.cell? ⟨b,o,none⟩:=fun b o hI=>by
  obtain ⟨v,hv⟩:=Option.isSome_iff_exists.1 (hi b o hI)
  exact hb.cell (p:=⟨b,o,none⟩) (World.block_lt_of_cell? w _ hv)
 refine ⟨u,⟨fun b o=>G0.I b o∨J b o,G0.loc,G0.who⟩,he,?_,hr,by rw [hp],fun j cs hj=>by simp at hj,fun j cs hj=>by rw [hp] at hj; simp at hj,fun b o hI=>?_,fun b L hL=>Nat.lt_of_lt_of_le (hw b L hL) hb.size⟩
 ·exact ⟨hb.os,hb.tape,hb.output,hb.size,fun b hlt _=>hb.block b hlt,fun b o hI=>⟨.inl hI,hcell b o hI⟩,fun b o hI=>by
   rcases hI with hI | hI
   ·exact .inl hI
   ·exact .inr (.inl (hJ b o hI).1),fun b L hL=>.inr (by rw [hL]; rfl)⟩
 ·rcases hI with hI | hI
  ·show (w'.cell? ⟨b,o,none⟩).isSome=true
   rw [hcell b o hI]; exact hi b o hI
  ·exact (hJ b o hI).2
end
end Go.VI
