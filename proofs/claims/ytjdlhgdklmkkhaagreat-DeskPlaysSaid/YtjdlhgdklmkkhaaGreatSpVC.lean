import Derived.Test.YtjdlhgdklmkkhaaGreatSpVB
import Derived.Deep.Slices
import Derived.Carry
import Derived.SizedLaws
import Derived.WideShapes
import Derived.DataReads
import Derived.OpenShut
import Derived.Below
import Derived.DataShut
set_option linter.unusedVariables false
set_option linter.unusedSimpArgs false
noncomputable section
namespace Go.VI
open Go
abbrev Bs (U:cr):=List (Nat × Nat × List (CV U.τ))
section
variable {P:Program} {U:cr} {N:Nat} {L0:Nat->Nat} {G0:ce} {w0:World} {G:ce} {σ:cg U} {a:Act} {w:World} {o:Oper} {adv:bJ}
theorem qD (t:Nat):∀ l:List Nat,gn t l=true↔t∈l
 | []=>by simp [gn]
 | s::r=>by
  simp only [gn];by_cases h:t=s
  ·subst h; simp
  ·rw [kF h]; simp [qD t r,h]
theorem Jb (r:R P U N L0 G0 w0 G σ a w):∀ (l:List (TypeId × Operand)) {k:List (ek U.τ)->Bs U->cf U} {rd:List Nat} {ws:List (Nat × AV U.τ)},bO P U σ (su P l k) rd ws->
  ∃ as bs rd',bO P U σ (k as bs) rd' ws/\(bs.map (·.1)).Nodup/\(cU as).length=bs.length/\(∀ q∈bs,σ q.1=.box q.2.2)/\
   (∀ (m:Nat) q l,bs[m]?=some q->(cU as)[m]?=some l->q.2.1+l.length<=q.2.2.length/\l=(q.2.2.drop q.2.1).take l.length)/\
   ∀ (who:Nat->Option (Nat × Option Nat)) (loc:Nat->Nat × Nat) (j:Nat),
    (∀ (m:Nat) q l,bs[m]?=some q->(cU as)[m]?=some l->hZ P U w G.I who (bV+(j+m)) (loc (bV+(j+m))) l/\loc (bV+(j+m))=((G.loc q.1).1,(G.loc q.1).2+q.2.1))->
    fR P U w G.I who loc as (l.map fun p=>a.eval p.2) j
 | [],k,rd,ws,h=>⟨[],[],rd,h,List.nodup_nil,rfl,fun _ h=>by simp at h,fun _ _ _ h=>by simp at h,fun who loc j _=>.nil j⟩
 | (t,x)::l,k,rd,ws,h=>by
  simp only [su] at h;obtain ⟨v,_,h1,h⟩:=r.opd h;have val:∀ ag cs rd',cellsOf v=some (ag,cs)->bO P U σ (su P l fun as bs=>k (.val ag cs::as) bs) rd' ws->∃ as bs rd',bO P U σ (k as bs) rd' ws/\(bs.map (·.1)).Nodup/\(cU as).length=bs.length/\(∀ q∈bs,σ q.1=.box q.2.2)/\
    (∀ (m:Nat) q l,bs[m]?=some q->(cU as)[m]?=some l->q.2.1+l.length<=q.2.2.length/\l=(q.2.2.drop q.2.1).take l.length)/\
    ∀ (who:Nat->Option (Nat × Option Nat)) (loc:Nat->Nat × Nat) (j:Nat),
     (∀ (m:Nat) q l,bs[m]?=some q->(cU as)[m]?=some l->hZ P U w G.I who (bV+(j+m)) (loc (bV+(j+m))) l/\loc (bV+(j+m))=((G.loc q.1).1,(G.loc q.1).2+q.2.1))->
     fR P U w G.I who loc as (((t,x)::l).map fun p=>a.eval p.2) j:=by
   intro ag cs rd' hc h;obtain ⟨as,bs,rd',g1,g2,g3,g4,g5,g6⟩:=Jb r l h;obtain ⟨t',h3,_⟩:=h1.ok;exact ⟨_,bs,rd',g1,g2,g3,g4,g5,fun who loc j hh=>.val ag cs _ as _ j (u7 h3 hc) (g6 who loc j hh)⟩
  cases hv:v with
  | one c=>
   cases hcv:c with
   | ref s off=>
    rw [hv,hcv] at h h1;obtain ⟨⟨cs,hs⟩,hp⟩:=h1.ref;obtain ⟨_,h⟩:=h.of_read;rw [hs] at h;simp only at h;split at h
    ·rename_i e hu;cases hl:gX cs off (P.cellsOf e) with
     | none=>rw [hl] at h; exact h.of_fail.elim
     | some l0=>
      rw [hl] at h;obtain ⟨k1,k2⟩:=ug hl;have hlen:l0.length=P.cellsOf e:=by rw [k2,List.length_take,List.length_drop]; omega
      obtain ⟨as,bs,rd',g1,g2,g3,g4,g5,g6⟩:=Jb r l h;obtain ⟨g0,g1⟩:=bO.of_cond' g1;have hns:s ∉ bs.map (·.1):=fun hm=>by rw [(qD s _).2 hm] at g0; cases g0
      refine ⟨_,_,rd',g1,?_,by simp [cU,g3],?_,?_,?_⟩
      ·simp only [List.map_cons,List.nodup_cons];exact ⟨hns,g2⟩
      ·intro q hq;rcases List.mem_cons.1 hq with rfl | hq
       ·exact hs
       ·exact g4 q hq
      ·intro m q l' hm hl';cases m with
       | zero=>
        simp [cU] at hm hl';subst hm; subst hl';exact ⟨by show off+l0.length<=cs.length; omega,by rw [hlen]; exact k2⟩
       | succ m=>exact g5 m q l' (by simpa using hm) (by simpa [cU] using hl')
      ·intro who loc j hh;have h0:=hh 0 (s,off,cs) l0 rfl rfl;rw [Nat.add_zero] at h0;simp only [List.map_cons];have:=fR.ptr (P:=P) (U:=U) (w:=w) (I:=G.I) (who:=who) (loc:=loc) l0 as (l.map fun p=>a.eval p.2) j h0.1 (g6 who loc (j+1) fun m q l' hm hl'=>by
        have:=hh (m+1) q l' (by simpa using hm) (by simpa [cU] using hl')
        rwa [show j+(m+1)=j+1+m by omega] at this)
       rw [h0.2] at this;rw [hp];exact this
    ·exact h.of_fail.elim
   | _=>
    rw [hv,hcv] at h
    first
    | (simp only [cellsOf] at h; exact h.of_fail.elim)
    | (exact val _ _ _ (by rw [hv,hcv]; rfl) h)
  | agg cs=>rw [hv] at h; exact val _ _ _ (by rw [hv]; rfl) h
  | _=>rw [hv] at h; exact h.of_fail.elim
def sr (bs:Bs U) (s:Nat):Option Nat:=bs.findIdx? fun q=>q.1==s
theorem w9 {bs:Bs U} (h:(bs.map (·.1)).Nodup) {j:Nat} {q:Nat × Nat × List (CV U.τ)} (hj:bs[j]?=some q):sr bs q.1=some j:=by
 induction bs generalizing j with
 | nil=>simp at hj
 | cons p bs ih=>
  simp only [List.map_cons,List.nodup_cons] at h;simp only [sr,List.findIdx?_cons];cases j with
  | zero=>simp at hj; subst hj; simp
  | succ j=>
   simp at hj;have hm:q∈bs:=List.mem_of_getElem? hj;have hne:¬p.1=q.1:=fun he=>h.1 (by rw [he]; exact List.mem_map_of_mem hm)
   have:=ih h.2 hj;simp only [sr] at this;simp [hne,this]
theorem fm2 {bs:Bs U} {s j:Nat} (h:sr bs s=some j):∃ q,bs[j]?=some q/\q.1=s:=by
 obtain ⟨h1,h2,_⟩:=List.findIdx?_eq_some_iff_getElem.1 h;exact ⟨bs[j],List.getElem?_eq_getElem h1,by simpa using h2⟩
def fJ (G:ce) (bs:Bs U) (lens:Nat->Nat) (b:Nat):Option (Nat × Option Nat):=
 match G.who b with
 | some (s,x)=>
  match sr bs s with
  | some j=>
   match x with
   | none=>some (bV+j,none)
   | some i=>if ((bs[j]?.map (·.2.1)).getD 0)<=i/\i < ((bs[j]?.map (·.2.1)).getD 0)+lens j then some (bV+j,some (i - ((bs[j]?.map (·.2.1)).getD 0))) else none
  | none=>none
 | none=>none
def kj (G:ce) (bs:Bs U) (t:Nat):Nat × Nat:=
 match bs[t - bV]? with
 | some q=>((G.loc q.1).1,(G.loc q.1).2+q.2.1)
 | none=>(0,0)
def mc (G G':ce) (bs:Bs U) (lens:Nat->Nat) (sz b:Nat):Option (Nat × Option Nat):=
 match G'.who b with
 | some (t,x)=>
  if bV<=t then
   match bs[t - bV]? with
   | some q=>match x with
    | none=>some (q.1,none)
    | some i=>some (q.1,some (q.2.1+i))
   | none=>none
  else none
 | none=>if (fJ G bs lens b).isSome then none else if b < sz then G.who b else none
theorem fv8 {G:ce} {bs:Bs U} {lens:Nat->Nat} {b j:Nat} {q:Nat × Nat × List (CV U.τ)} (hn:(bs.map (·.1)).Nodup) (hj:bs[j]?=some q) (h:G.who b=some (q.1,none)):fJ G bs lens b=some (bV+j,none):=by
 simp [fJ,h,w9 hn hj]
theorem fv9 {G:ce} {bs:Bs U} {lens:Nat->Nat} {b i j:Nat} {q:Nat × Nat × List (CV U.τ)} (hn:(bs.map (·.1)).Nodup) (hj:bs[j]?=some q) (h:G.who b=some (q.1,some i)) (h1:q.2.1<=i) (h2:i < q.2.1+lens j) :
  fJ G bs lens b=some (bV+j,some (i - q.2.1)):=by
 simp [fJ,h,w9 hn hj,hj,h1,h2]
def ul (bs:Bs U) (lens:Nat->Nat) (L:Nat × Option Nat):Prop:=
 ∃ (j:Nat) (q:Nat × Nat × List (CV U.τ)),bs[j]?=some q/\L.1=q.1/\∀ i,L.2=some i->q.2.1<=i/\i < q.2.1+lens j
theorem fH8 {G:ce} {bs:Bs U} {lens:Nat->Nat} {b:Nat} {L:Nat × Option Nat} (h:G.who b=some L) (hL:¬ul bs lens L):fJ G bs lens b=none:=by
 obtain ⟨s,x⟩:=L;simp only [fJ,h];cases hi:sr bs s with
 | none=>rfl
 | some j=>
  obtain ⟨q,hq,hqs⟩:=fm2 hi;cases x with
  | none=>exact absurd ⟨j,q,hq,hqs.symm,fun i hi=>by cases hi⟩ hL
  | some i=>
   simp only [hq,Option.map_some,Option.getD_some];rw [ac (fun hh=>hL ⟨j,q,hq,hqs.symm,fun i' hi'=>by injection hi' with hi'; subst hi'; exact hh⟩)]
theorem FN {G:ce} {bs:Bs U} {lens:Nat->Nat} {b:Nat} (h:(fJ G bs lens b).isSome=true):(G.who b).isSome=true:=by
 unfold fJ at h;cases hw:G.who b with
 | none=>rw [hw] at h; cases h
 | some L=>rfl
theorem kf {bs:Bs U} (hn:(bs.map (·.1)).Nodup):∀ {ls:List (List (CV U.τ))},ls.length=bs.length->∀ (σ:cg U) (t:Nat),(∀ (j:Nat) q l,bs[j]?=some q->ls[j]?=some l->q.1=t->cO σ (jm bs ls) t=.box (setCells q.2.2 q.2.1 l))/\((∀ q∈bs,q.1≠t)->cO σ (jm bs ls) t=σ t):=by
 induction bs with
 | nil=>
  intro ls hl σ t;exact ⟨fun j q l h=>by simp at h,fun _=>by simp [jm,cO]⟩
 | cons p bs ih=>
  intro ls hl σ t;obtain ⟨s,off,cs⟩:=p;cases ls with
  | nil=>simp at hl
  | cons l ls=>
   simp only [List.map_cons,List.nodup_cons] at hn;simp only [List.length_cons,Nat.add_right_cancel_iff] at hl;obtain ⟨h1,h2⟩:=ih hn.2 hl (upd σ s (.box (setCells cs off l))) t;simp only [jm,cO];refine ⟨fun j q l' hj hl' hq=>?_,fun hq=>?_⟩
   ·cases j with
    | zero=>
     simp at hj hl';subst hj; subst hl';simp only at hq;subst hq;rw [h2 (fun q' hq' he=>hn.1 (he ▸ List.mem_map_of_mem hq'))];simp [upd]
    | succ j=>exact h1 j q l' (by simpa using hj) (by simpa using hl') hq
   ·rw [h2 (fun q' hq'=>hq q' (List.mem_cons_of_mem _ hq'))];have:=hq (s,off,cs) (List.mem_cons_self ..);simp [upd,Ne.symm this]
end
end Go.VI
namespace Go.VI
open Go
section
variable {P:Program} {U:cr} {N:Nat} {L0:Nat->Nat} {G0:ce} {w0:World} {G:ce} {σ:cg U} {a:Act} {w:World} {o:Oper} {adv:bJ}
theorem eO2 {cs l:List (CV U.τ)} {off:Nat} (h:off+l.length<=cs.length) (hl:l=(cs.drop off).take l.length) (j:Nat) (hj:j < l.length):l[j]?=cs[off+j]?:=by
 have h1:l[j]?=((cs.drop off).take l.length)[j]?:=by rw [<- hl]
 rw [h1,List.getElem?_take,ab hj,getElem?_drop']
theorem R.called (r:R P U N L0 G0 w0 G σ a w) {bs:Bs U} {ps:List (List (CV U.τ))} (hn:(bs.map (·.1)).Nodup) (hlen:ps.length=bs.length) (hσ:∀ q∈bs,σ q.1=.box q.2.2)
  (hps:∀ (m:Nat) q l,bs[m]?=some q->ps[m]?=some l->q.2.1+l.length<=q.2.2.length/\l=(q.2.2.drop q.2.1).take l.length)
  {lens:Nat->Nat} (hlens:∀ (j:Nat) l,ps[j]?=some l->lens j=l.length)
  {G':ce} {w':World} (hst:gf ⟨G.I,kj G bs,fJ G bs lens⟩ w G' w') {outs:List (List (CV U.τ))} (holen:outs.length=bs.length)
  (hbox:∀ (j:Nat) cs,outs[j]?=some cs->hZ P U w' G'.I G'.who (bV+j) (kj G bs (bV+j)) cs)
  (hrest:∀ (j:Nat) cs,ps[j]?=some cs->(∃ l,outs[j]?=some l/\l.length=cs.length)/\∀ o,(o < (kj G bs (bV+j)).2\/(kj G bs (bV+j)).2+cs.length<=o)->w'.cell? ⟨(kj G bs (bV+j)).1,o,none⟩=w.cell? ⟨(kj G bs (bV+j)).1,o,none⟩)
  (himm:∀ b o,G'.I b o->(w'.cell? ⟨b,o,none⟩).isSome=true) (hwho:∀ b L,G'.who b=some L->b < w'.heap.size) :
  ∃ G2,R P U N L0 G0 w0 G2 (cO σ (jm bs outs)) a w'/\G2.I=G'.I:=by
 let G2:ce:=⟨G'.I,G.loc,mc G G' bs lens w.heap.size⟩
 have hloc:∀ (j:Nat) q,bs[j]?=some q->kj G bs (bV+j)=((G.loc q.1).1,(G.loc q.1).2+q.2.1):=fun j q hj=>by
  simp [kj,hj]
 have hout:∀ (j:Nat) q,bs[j]?=some q->∃ p l,ps[j]?=some p/\outs[j]?=some l/\l.length=p.length:=fun j q hj=>by
  have hlt:=(List.getElem?_eq_some_iff.1 hj).1;have hp:ps[j]?=some ps[j]:=List.getElem?_eq_getElem (by omega);obtain ⟨⟨l,h1,h2⟩,_⟩:=hrest j _ hp;exact ⟨_,l,hp,h1,h2⟩
 have hinj:∀ (i j:Nat) p q,bs[i]?=some p->bs[j]?=some q->p.1=q.1->i=j/\p=q:=fun i j p q hi hj he=>by
  have h1:=w9 hn hi;have h2:=w9 hn hj;rw [he,h2] at h1;injection h1 with h1
  subst h1;rw [hi] at hj; injection hj with hj
  exact ⟨rfl,hj⟩
 have noC:∀ b L,G.who b=some L->¬ul bs lens L->fJ G bs lens b=none:=fun b L h hL=>fH8 h hL
 have noG':∀ b,b < w.heap.size->fJ G bs lens b=none->G'.who b=none:=fun b hb hw=>by
  cases hx:G'.who b with
  | none=>rfl
  | some L=>
   rcases hst.newW b L hx with h | h
   ·omega
   ·have h':(fJ G bs lens b).isSome=true:=h;rw [hw] at h'; cases h'
 have keepW:∀ b L,G.who b=some L->¬ul bs lens L->G2.who b=some L:=fun b L h hL=>by
  have hb:=r.who b L h;have h1:=noC b L h hL;have h2:=noG' b hb h1;show mc G G' bs lens w.heap.size b=some L;simp only [mc,h2,h1,Option.isSome_none,Bool.false_eq_true,if_false,ab hb,h]
 have toW:∀ b (j:Nat) x q,G'.who b=some (bV+j,x)->bs[j]?=some q->G2.who b=some (q.1,x.map (q.2.1 + ·)):=fun b j x q h hj=>by
  show mc G G' bs lens w.heap.size b=_;have e:bV+j - bV=j:=by omega
  simp only [mc,h,Nat.le_add_right,if_true,e,hj];cases x <;> rfl
 have hx:iC (ul bs lens) G G2 σ (cO σ (jm bs outs)) w w':=by
  refine ⟨fun b o h=>hst.imm b o h,fun b L h hL=>⟨keepW b L h hL,hst.old b (r.who b L h) (noC b L h hL),fun o hI=>?_⟩,fun _ _=>rfl,fun s cs hs=>?_,fun s e y q hs=>?_⟩
  ·rcases hst.newI b o hI with h1 | h1 | h1
   ·exact h1
   ·have:=r.who b L h; omega
   ·have h':(fJ G bs lens b).isSome=true:=h1;rw [noC b L h hL] at h'; cases h'
  ·by_cases hb:∃ q∈bs,q.1=s
   ·obtain ⟨q,hq,hqs⟩:=hb;obtain ⟨j,hj⟩:=List.mem_iff_getElem?.1 hq;obtain ⟨p,l,_,hl,_⟩:=hout j q hj;exact ⟨_,(kf hn holen σ s).1 j q l hj hl hqs⟩
   ·exact ⟨cs,by rw [(kf hn holen σ s).2 (fun q hq he=>hb ⟨q,hq,he⟩),hs]⟩
  ·have:∀ q∈bs,q.1≠s:=fun q hq he=>by have:=hσ q hq; rw [he,hs] at this; cases this
   exact ⟨e,y,by rw [(kf hn holen σ s).2 this,hs],rfl⟩
 have hstep:gf G w G2 w':=by
  refine ⟨hst.os,hst.tape,hst.output,hst.size,fun b hb hw=>hst.old b hb ?_,fun b o h=>hst.imm b o h,fun b o h=>?_,fun b L h=>?_⟩
  ·show fJ G bs lens b=none;simp [fJ,hw]
  ·rcases hst.newI b o h with h1 | h1 | h1
   ·exact .inl h1
   ·exact .inr (.inl h1)
   ·exact .inr (.inr (FN h1))
  ·have h':mc G G' bs lens w.heap.size b=some L:=h;unfold mc at h';cases hg:G'.who b with
   | some L'=>
    rcases hst.newW b L' hg with h1 | h1
    ·exact .inl h1
    ·exact .inr (FN h1)
   | none=>
    rw [hg] at h';simp only at h';split at h'
    ·cases h'
    ·split at h'
     ·exact .inr (by rw [h']; rfl)
     ·cases h'
 refine ⟨G2,r.go hx hstep rfl rfl (fun _ _=>rfl) (fun b o h=>.inr (himm b o h)) (fun b L h=>?_) (fun t cs' ht hσ'=>?_) (fun t=>?_),rfl⟩
 ·have h':mc G G' bs lens w.heap.size b=some L:=h;unfold mc at h';cases hg:G'.who b with
  | some L'=>exact .inr (hwho b L' hg)
  | none=>
   rw [hg] at h';simp only at h';split at h'
   ·cases h'
   ·split at h'
    ·exact .inl ⟨L,h'⟩
    ·cases h'
 ·by_cases hb:∃ q∈bs,q.1=t
  ·obtain ⟨q,hq,hqs⟩:=hb;obtain ⟨j,hj⟩:=List.mem_iff_getElem?.1 hq;obtain ⟨p,l,hp,hl,hll⟩:=hout j q hj;rw [(kf hn holen σ t).1 j q l hj hl hqs] at hσ';injection hσ' with hσ'
   obtain ⟨_,h2⟩:=hrest j p hp;obtain ⟨h3,_⟩:=hps j q p hj hp;rw [hloc j q hj] at h2;refine ⟨q.2.2,by rw [<- hqs]; exact hσ q hq,by rw [<- hσ',vq],fun o ho=>?_⟩;rw [<- hqs] at ho |-;refine h2 o ?_;simp only;omega
  ·rw [(kf hn holen σ t).2 (fun q hq he=>hb ⟨q,hq,he⟩)] at hσ';refine ⟨cs',hσ',rfl,fun o _=>?_⟩;have hbx:=r.slots t;rw [hσ'] at hbx;have hw:=hbx.2.hwho;have hL:¬ul bs lens (t,none):=fun ⟨j,q,hj,he,_⟩=>hb ⟨q,List.mem_of_getElem? hj,he.symm⟩
   have:=hst.old (G.loc t).1 (r.who _ _ hw) (noC _ _ hw hL);simp only [World.cell?,this]
 ·by_cases hb:∃ q∈bs,q.1=t
  ·right
   obtain ⟨q,hq,hqs⟩:=hb;obtain ⟨j,hj⟩:=List.mem_iff_getElem?.1 hq;obtain ⟨p,l,hp,hl,hll⟩:=hout j q hj;obtain ⟨h3,h3'⟩:=hps j q p hj hp;rw [(kf hn holen σ t).1 j q l hj hl hqs];have hbx:=r.slots t;have hσt:σ t=.box q.2.2:=by rw [<- hqs]; exact hσ q hq
   rw [hσt] at hbx;obtain ⟨hb1,hb2⟩:=hbx;have hcb:=hbox j l hl;rw [hloc j q hj,hqs] at hcb;obtain ⟨_,hr2⟩:=hrest j p hp;rw [hloc j q hj,hqs] at hr2;simp only at hr2;obtain ⟨c,T,fz,k1,k2,k3,k4⟩:=hb2.row;obtain ⟨c',T',fz',m1,m2,m3,m4⟩:=hcb.row;simp only at m1 m2 m4;show (t < bV->_)/\hZ P U w' G2.I G2.who t (G.loc t) _;refine ⟨hb1,?_,hcb.himm,c',T',fz',m1,?_,m3,fun i x hi=>?_⟩
   ·have:=toW _ j none q hcb.hwho hj;rw [this,hqs]; rfl
   ·
    rw [vq];rcases Nat.eq_zero_or_pos q.2.2.length with h0 | h0
    ·
     have hp0:p.length=0:=by omega
     rw [h0,Nat.add_zero];have:(G.loc t).2+q.2.1+l.length<=c'.size:=m2;omega
    ·
     have key:(w'.cell? ⟨(G.loc t).1,(G.loc t).2+(q.2.2.length - 1),none⟩).isSome=true:=by
      by_cases hin:q.2.1<=q.2.2.length - 1/\q.2.2.length - 1 < q.2.1+p.length
      ·rw [hO m1,Array.getElem?_eq_getElem (by omega)]; rfl
      ·rw [hr2 _ (by omega),hO k1,Array.getElem?_eq_getElem (by omega)]; rfl
     rw [hO m1] at key;obtain ⟨u,hu⟩:=Option.isSome_iff_exists.1 key;have:=(Array.getElem?_eq_some_iff.1 hu).1;omega
   ·rw [tQ _ _ _ _ (by omega)] at hi;rw [<- hO m1];split at hi
    ·rename_i hc;obtain ⟨u,hu,hk⟩:=m4 (i - q.2.1) x hi;refine ⟨u,?_,?_⟩
     ·rw [hO m1,<- hu]; congr 1; omega
     ·rcases hk with hk | ⟨e,css,n1,n2,n3⟩
      ·exact .inl hk
      ·refine .inr ⟨e,css,n1,n2,?_⟩;rcases n3 with n3 | ⟨b,off,cap,n4,n5,n6,n7⟩
       ·exact .inl n3
       ·refine .inr ⟨b,off,cap,n4,n5,n6,?_⟩;rcases n7 with n7 | ⟨n7,n8⟩
        ·exact .inl n7
        ·refine .inr ⟨?_,n8⟩;have:=toW _ j _ q n7 hj;rw [this,hqs];simp only [Option.map_some];rw [show q.2.1+(i - q.2.1)=i by omega]
    ·rename_i hc;obtain ⟨u,hu,hk⟩:=k4 i x hi;refine ⟨u,?_,hk.mono hx ?_⟩
     ·rw [hr2 _ (by omega),hO k1]; exact hu
     ·rintro ⟨j',q',hj',he,hh⟩
      obtain ⟨rfl,rfl⟩:=hinj j j' q q' hj hj' (by rw [hqs]; exact he);have:=hh i rfl;rw [hlens j p hp] at this;omega
  ·left
   refine ⟨(kf hn holen σ t).2 (fun q hq he=>hb ⟨q,hq,he⟩),rfl,?_,?_⟩
   ·rintro ⟨j,q,hj,he,_⟩; exact hb ⟨q,List.mem_of_getElem? hj,he.symm⟩
   ·rintro i ⟨j,q,hj,he,_⟩; exact hb ⟨q,List.mem_of_getElem? hj,he.symm⟩
theorem jE.slot {I:Nat->Nat->Prop} {v:AV U.τ} {u:Value} {G2:ce} {σ2:cg U} (hI:G2.I=I) (h:jE P U w I v u):v.owner=false/\∀ t,cW P U G2 σ2 w t v u:=by
 cases v with
 | one c=>exact ⟨rfl,fun t=>cW.of_pc (by rw [hI]; exact h)⟩
 | agg cs=>exact ⟨rfl,fun t=>by rw [<- hI] at h; exact h⟩
 | tup vs=>exact ⟨rfl,fun t=>by rw [<- hI] at h; exact h⟩
 | _=>exact h.elim
theorem fd7 {I:Nat->Nat->Prop} {who:Nat->Option (Nat × Option Nat)} {loc:Nat->Nat × Nat} {us:List Value} {j:Nat} (h:fR P U w I who loc [] us j):us=[]:=by cases h; rfl
theorem fS7 (r:R P U N L0 G0 w0 G σ a w) (hd:∀ d,o.dst=some d->d < N) {c:Call} {f:Operand} (ho:o.op=.call c) (hb:c.callee=.value f) {rd:List Nat} {ws:List (Nat × AV U.τ)} (h:bO P U σ (cL P adv o) rd ws) :
  cI P U N L0 G0 w0 σ o a w ws:=by
 obtain ⟨callee,args,argTypes⟩:=c;simp only at hb;subst hb;simp only [cL,ho] at h;obtain ⟨c,_,h1,h⟩:=r.opd1 h;cases c with
 | fn k=>
  simp only at h;cases hfn:P.funcs[k]? with
  | none=>rw [hfn] at h; exact h.of_fail.elim
  | some fn=>
   rw [hfn] at h;obtain ⟨hsz,h⟩:=bO.of_cond h;have hsz:=Nat.eq_of_beq_eq_true hsz;obtain ⟨as,bs,_,h,hn,hlen,hσ,hps,hrel⟩:=Jb r _ h;obtain ⟨out,hcn,h⟩:=h.of_call;rcases hcn with ⟨hcallable,hcall⟩ | ⟨has,hcallable,cs,hret,hnew⟩
   rotate_left
   ·have hargs:=hrel (fun _=>none) (fun _=>(0,0)) 0 (fun m q l hm hl=>by rw [has] at hl; simp [cU] at hl);rw [has] at hargs;have hnil:args.map a.eval=#[]:=by
     have h1:(fn.params.toList.zip args.toList).map (fun p=>a.eval p.2)=[]:=fd7 hargs;have h2:(fn.params.toList.zip args.toList).length=0:=by have:=congrArg List.length h1; simpa using this
     have h3:args.size=0:=by
      rw [List.length_zip,Array.length_toList,Array.length_toList] at h2;have h4:fn.params.size=args.size:=hsz;rw [h4,Nat.min_self] at h2;exact h2
     simp [Array.eq_empty_of_size_eq_zero h3]
    have hrun:(execOp a.eval o).run P w=.ok (.enter k (args.map a.eval)) w:=by
     have he:=h1.fn;have:=hcallable (args.map a.eval) w;simp [execOp,ho,resolve,he,Deferred.ofValue,invoke,this]
    unfold yB at h;rw [hret] at h;simp only at h;cases hdst:o.dst with
    | none=>rw [hdst] at h; exact h.of_fail.elim
    | some d=>
     rw [hdst] at h;obtain ⟨_,h⟩:=h.of_read;cases hσd:σ d <;> rw [hσd] at h <;> first | exact h.of_fail.elim | skip
     have hw:=h.of_done;subst hw;unfold cI fC;rw [hrun,hnil];simp only;refine (hnew w).mono fun e w' hh=>?_
     obtain ⟨us,T,he,hw,hs,hc⟩:=hh;subst hw;refine ⟨_,he,?_⟩;rw [hdst];exact r.newBox (hd d hdst) hσd ⟨hs,fun i c hi=>by obtain ⟨u,hu,hp⟩:=hc i c hi; exact ⟨u,hu,hp _⟩⟩ T
   let lens:Nat->Nat:=fun j=>((cU as)[j]?.map List.length).getD 0
   have hlens:∀ (j:Nat) l,(cU as)[j]?=some l->lens j=l.length:=fun j l hl=>by simp [lens,hl]
   have hloc:∀ (j:Nat) q,bs[j]?=some q->kj G bs (bV+j)=((G.loc q.1).1,(G.loc q.1).2+q.2.1):=fun j q hj=>by simp [kj,hj]
   have hargs:=hrel (fJ G bs lens) (kj G bs) 0 (fun m q l hm hl=>by
    rw [Nat.zero_add];refine ⟨?_,hloc m q hm⟩;rw [hloc m q hm];obtain ⟨k1,k2⟩:=hps m q l hm hl;have hbx:=r.slots q.1;rw [hσ q (List.mem_of_getElem? hm)] at hbx;obtain ⟨c,T,fz,m1,m2,m3,m4⟩:=hbx.2.row;refine ⟨fv8 (lens:=lens) hn hm hbx.2.hwho,hbx.2.himm,c,T,fz,m1,by simp only; omega,m3,fun i x hi=>?_⟩;have hil:=(List.getElem?_eq_some_iff.1 hi).1;rw [eO2 k1 k2 i hil] at hi;obtain ⟨u,hu,hk⟩:=m4 _ x hi;refine ⟨u,by simp only; rw [Nat.add_assoc]; exact hu,?_⟩;rcases hk with hk | ⟨e,css,n1,n2,n3⟩
    ·exact .inl hk
    ·refine .inr ⟨e,css,n1,n2,?_⟩;rcases n3 with n3 | ⟨b,off,cap,n4,n5,n6,n7⟩
     ·exact .inl n3
     ·refine .inr ⟨b,off,cap,n4,n5,n6,?_⟩;rcases n7 with n7 | ⟨n7,n8⟩
      ·exact .inl n7
      ·refine .inr ⟨?_,n8⟩;rw [fv9 hn hm n7 (by omega) (by rw [hlens m l hl]; omega)];congr 3
       omega)
   have hvals:((fn.params.toList.zip args.toList).map fun p=>a.eval p.2)=(args.map a.eval).toList:=by
    rw [Array.toList_map];have h2:(fn.params.toList.zip args.toList).map (fun p=>a.eval p.2)=((fn.params.toList.zip args.toList).map Prod.snd).map a.eval:=by rw [List.map_map]; rfl
    rw [h2,List.map_snd_zip (by simp [hsz])]
   rw [hvals] at hargs;have hC:=hcall ⟨G.I,kj G bs,fJ G bs lens⟩ w _ hargs r.imm (fun b L hw=>by
    have:(G.who b).isSome=true:=FN (bs:=bs) (lens:=lens) (by show (fJ G bs lens b).isSome=true; rw [show fJ G bs lens b=some L from hw]; rfl);obtain ⟨L',hL'⟩:=Option.isSome_iff_exists.1 this;exact r.who b L' hL') ⟨(r.env.step r.step).env,(r.env.step r.step).size,fun b hb=>by
     show fJ G bs lens b=none;unfold fJ;rw [(r.env.step r.step).who b hb]⟩
   have hrun:(execOp a.eval o).run P w=.ok (.enter k (args.map a.eval)) w:=by
    have he:=h1.fn;have:=hcallable (args.map a.eval) w;simp [execOp,ho,resolve,he,Deferred.ofValue,invoke,this]
   unfold cI fC;rw [hrun];simp only;have harr:(args.map a.eval).toList.toArray=args.map a.eval:=by simp only [Array.toArray_toList]
   rw [harr] at hC;by_cases hbox:∃ cs,out.ret=.box cs
   ·refine hC.mono fun e w' ⟨u,G',he,g1,g2,_⟩=>?_
    obtain ⟨cs,hc⟩:=hbox;rw [hc] at g2;exact g2.elim
   rw [fG4 (fun cs hc=>hbox ⟨cs,hc⟩)] at h;obtain ⟨hbl,h⟩:=bO.of_cond h;have hbl:=Nat.eq_of_beq_eq_true hbl;refine hC.mono fun e w' ⟨u,G',he,g1,g2,g3,g4,g5,g6,g7⟩=>⟨u,he,?_⟩
   obtain ⟨G2,hR,hI⟩:=r.called hn hlen hσ hps hlens g1 (by rw [g3,hlen]) g4 g5 g6 g7;obtain ⟨k1,k2⟩:=jE.slot (G2:=G2) (σ2:=cO σ (jm bs out.boxes)) hI g2;rcases h.of_wr with ⟨m1,m2⟩ | ⟨d,m1,m2,m3⟩
   ·rw [m1,m2]; exact ⟨G2,hR⟩
   ·rw [m1,m2];have hdq:∀ q∈bs,q.1≠d:=fun q hq he=>by have:=hσ q hq; rw [he] at this; rw [this] at m3; cases m3
    have hat:cO σ (jm bs out.boxes) d=σ d:=(kf hn (by rw [g3,hlen]) σ d).2 hdq;have:=hR.put (hd d m1) (by rw [hat]; exact m3) k1 k2;refine ⟨G2,?_⟩;have e1:cO σ ((d,out.ret)::jm bs out.boxes)=upd (cO σ (jm bs out.boxes)) d out.ret:=by
     funext z
     simp only [cO];by_cases hz:∃ q∈bs,q.1=z
     ·obtain ⟨q,hq,hqz⟩:=hz;have hzd:z≠d:=fun he=>hdq q hq (by rw [hqz,he])
      obtain ⟨j,hj⟩:=List.mem_iff_getElem?.1 hq;have hlt:=(List.getElem?_eq_some_iff.1 hj).1;have hl:out.boxes[j]?=some out.boxes[j]:=List.getElem?_eq_getElem (by omega);rw [(kf hn (by rw [g3,hlen]) (upd σ d out.ret) z).1 j q _ hj hl hqz];simp only [upd,hzd,if_false];rw [(kf hn (by rw [g3,hlen]) σ z).1 j q _ hj hl hqz]
     ·rw [(kf hn (by rw [g3,hlen]) (upd σ d out.ret) z).2 (fun q hq he=>hz ⟨q,hq,he⟩)];simp only [upd];rw [(kf hn (by rw [g3,hlen]) σ z).2 (fun q hq he=>hz ⟨q,hq,he⟩)]
    rw [e1];exact this
 | _=>exact h.of_fail.elim
end
end Go.VI
namespace Go.VI
open Go
section
variable {P:Program} {U:cr} {N:Nat} {L0:Nat->Nat} {G0:ce} {w0:World} {G:ce} {σ:cg U} {a:Act} {w:World} {o:Oper} {adv:bJ}
theorem fS8 (hU:iZ P U) (r:R P U N L0 G0 w0 G σ a w) (hd:∀ d,o.dst=some d->d < N) {rd:List Nat} {ws:List (Nat × AV U.τ)} (h:bO P U σ (cL P adv o) rd ws):cI P U N L0 G0 w0 σ o a w ws:=by
 cases ho:o.op with
 | move x=>exact fS3 r hd ho h
 | assign x=>exact fv6 r hd ho h
 | pick c x y=>exact fS2 r hd ho h
 | alloc t=>exact fH4 r hd ho h
 | box t x=>exact Ya r hd ho h
 | build t ps=>exact fH3 r hd ho h
 | buildSlice t n ps=>exact eN9 hU r hd ho h
 | load t x=>exact fS4 r hd ho h
 | store t x y=>exact fH7 r hd ho h
 | nilCheck x=>exact fd5 r hd ho h
 | binOp op t x y u=>exact fY7 r hd ho h
 | unOp op t x=>exact g40 r hd ho h
 | convert s d x=>exact fm1 r hd ho h
 | makeSlice t l c=>exact eX2 r hd ho h
 | slice t x lo hi mx=>exact fH2 r hd ho h
 | fieldAddr t x f=>exact eW4 r hd ho h
 | field t x f=>exact fH0 r hd ho h
 | indexAddr t x i=>exact eW8 r hd ho h
 | index t x i=>exact fH1 r hd ho h
 | extract x i=>exact fl8 r hd ho h
 | call c=>
  cases hc:c.callee with
  | value f=>exact fS7 r hd ho hc h
  | invoke x m=>simp only [cL,ho,hc] at h; exact h.of_fail.elim
  | builtin b=>
   cases b with
   | append=>exact fv7 r hd ho hc h
   | copy=>exact fS5 r hd ho hc h
   | len=>exact fY8 r hd ho hc h
   | max=>exact fZ0 r hd ho hc h
   | min=>exact fY9 r hd ho hc h
   | _=>simp only [cL,ho,hc] at h; exact h.of_fail.elim
 | _=>simp only [cL,ho] at h; exact h.of_fail.elim
abbrev d6 (P:Program) (U:cr) (N:Nat) (L0:Nat->Nat) (G0:ce) (w0:World) (σ:cg U) (a:Act) (w:World):Prop:=∃ G,R P U N L0 G0 w0 G σ a w
theorem YZ {ops:Array Oper} (r:R P U N L0 G0 w0 G σ a w) {j t:Nat} {g:Oper} {b:Bool} (hj:ops[j]?=some g) (hg:g.dst=some t) (hb:σ t=.one (.bool b)):yielded ops a.tmps j=some b:=by
 have hs:=r.slots t;rw [hb] at hs;have hv:a.tmps.getD t undef=.bool b:=PC.of_bool (by
  rcases hs with hs | ⟨_,_,h1,_⟩
  ·exact hs
  ·simp [cont] at h1)
 have ht:a.tmps[t]?=some (.bool b):=by
  rw [Array.getD_eq_getD_getElem?] at hv;cases hx:a.tmps[t]? with
  | none=>rw [hx] at hv; cases hv
  | some v=>rw [hx] at hv; exact congrArg some hv
 simp [yielded,hj,hg,ht]
theorem P5 (hU:iZ P U) {Q:Exit->Act->World->Prop} {ops:List Oper} (r:R P U N L0 G0 w0 G σ a w) (hN:adv.n<=N) {i:Nat} (hi:ops[i]?=some o) {rd:List Nat} {ws:List (Nat × AV U.τ)} (h:bO P U σ (jl P adv ops o) rd ws)
  {K:Act->World->Prop} (hK:∀ a' w',d6 P U N L0 G0 w0 (cO σ ws) a' w'->K a' w'):wpOp P ops.toArray Q i K a w:=by
 have hi':ops.toArray[i]?=some o:=by simpa using hi
 unfold wpOp;rw [hi'];simp only;unfold jl at h;obtain ⟨hdst,h⟩:=bO.of_cond' h;have hd:∀ d,o.dst=some d->d < N:=fun d hdd=>by
  rw [hdd] at hdst;simp only at hdst;rcases Nat.lt_or_ge d adv.n with h1 | h1
  ·exact Nat.lt_of_lt_of_le h1 hN
  ·rw [Nat.ble_eq_true_of_le h1] at hdst; cases hdst
 have go:∀ rd',bO P U σ (cL P adv o) rd' ws->o.wp P a w K Q:=fun rd' h=>Oper.wp_mono hK (fC.wp (fS8 hU r hd h))
 cases hg:o.guard with
 | none=>
  rw [hg] at h;have hw:Region.wanted o (yielded ops.toArray a.tmps)=true:=by simp [Region.wanted,hg]
  rw [ab hw];exact .inl (go _ h)
 | some p=>
  obtain ⟨j,want⟩:=p;rw [hg] at h;simp only at h;cases hj:ops[j]? with
  | none=>rw [hj] at h; exact h.of_fail.elim
  | some g=>
   rw [hj] at h;simp only at h;cases hgd:g.dst with
   | none=>rw [hgd] at h; exact h.of_fail.elim
   | some t=>
    rw [hgd] at h;have skip:∀ rd',bO P U σ (wr o.dst (.tup [])) rd' ws->K (a.put o.dst undef) w:=fun rd' h=>by
     refine hK _ _ ⟨G,?_⟩;rcases h.of_wr with ⟨k1,k2⟩ | ⟨d,k1,k2,k3⟩
     ·rw [k1,k2]; exact r
     ·rw [k1,k2]; exact r.put (hd d k1) k3 rfl (fun _=>⟨#[],rfl,rfl,fun j a cs hj=>by simp at hj⟩)
    obtain ⟨_,h⟩:=h.of_read;split at h
    ·rename_i hst;have hw:Region.wanted o (yielded ops.toArray a.tmps)=false:=by
      have hs:=r.slots t;rw [hst] at hs;obtain ⟨us,hv,_⟩:=hs;have hy:yielded ops.toArray a.tmps j=none:=by
       have hj2:ops.toArray[j]?=some g:=by simpa using hj
       rw [Array.getD_eq_getD_getElem?] at hv;cases hx:a.tmps[t]? with
       | none=>simp [yielded,hj2,hgd,hx]
       | some v=>
        rw [hx] at hv;have hv:v=.tuple us:=hv;subst hv;simp [yielded,hj2,hgd,hx]
      simp [Region.wanted,hg,hy]
     rw [hw];simp only [Bool.false_eq_true,if_false];exact skip _ h
    obtain ⟨b,_,hb,h⟩:=h.of_split;have hy:=YZ (ops:=ops.toArray) r (j:=j) (g:=g) (by simpa using hj) hgd hb;have hw:Region.wanted o (yielded ops.toArray a.tmps)=(b==want):=by
     simp only [Region.wanted,hg,hy];cases b <;> cases want <;> rfl
    rw [hw];cases hbw:(b==want) with
    | true=>
     rw [hbw] at h;simp only [if_true];exact .inl (go _ h)
    | false=>
     rw [hbw] at h;simp only [Bool.false_eq_true,if_false];exact skip _ h
structure g51 (P:Program) (U:cr) (σ:cg U) (t:cf U) (rd:List Nat) (ws:List (Nat × AV U.τ)) (s off:Nat):Prop where
 box:∃ cs,σ s=.box cs/\(s∈ws.map (·.1)->∃ c,∀ τ:cg U,cO τ ws s=.box (cs.set off c))/\
  ∀ σ2 cs2,σ2 s=.box cs2->cs2[off]?=cs[off]?->(∀ x∈rd,x≠s->σ2 x=σ x)->s ∉ ws.map (·.1)->bO P U σ2 t rd ws
theorem bO.read_inv {σ:cg U} {s:Nat} {f:AV U.τ->cf U} {rd:List Nat} {ws:List (Nat × AV U.τ)} (h:bO P U σ (.read s f) rd ws):∃ rd',rd=s::rd'/\bO P U σ (f (σ s)) rd' ws:=by
 cases h with
 | read _ _ rd' _ h=>exact ⟨rd',rfl,h⟩
theorem bO.wr_inv {σ:cg U} {dst:Option Nat} {v:AV U.τ} {more:List (Nat × AV U.τ)} {rd:List Nat} {ws:List (Nat × AV U.τ)} (h:bO P U σ (wr dst v more) rd ws) :
  (dst=none/\ws=more)\/∃ d,dst=some d/\ws=(d,v)::more/\(σ d).owner=false:=by
 rcases h.of_wr with ⟨h1,h2⟩ | ⟨d,h1,h2,h3⟩
 ·exact .inl ⟨h1,h2⟩
 ·exact .inr ⟨d,h1,h2,h3⟩
theorem Xu {t:TypeId} (h:mp P t=true) (cs:List (CV U.τ)) (off:Nat):fK P t cs off=(cs[off]?).map .one:=by
 unfold mp at h;unfold fK;cases hu:P.underlying t with
 | none=>rw [hu] at h; cases h
 | some u=>
  rw [hu] at h;cases u <;> first | (cases h; done) | (cases hx:cs[off]? <;> rfl)
theorem Ve {σ:cg U} {ops:List Oper} {rd:List Nat} {ws:List (Nat × AV U.τ)} {s off:Nat} (hs:ku P σ o=some (s,off)) (h:bO P U σ (jl P adv ops o) rd ws):g51 P U σ (jl P adv ops o) rd ws s off:=by
 unfold ku at hs;split at hs
 ·rename_i t a hg hop;split at hs
  ·rename_i s' off' ha;cases h1:mp P t with
   | false=>rw [h1] at hs; cases hs
   | true=>
    rw [h1] at hs;simp only [cond_true,Option.some.injEq,Prod.mk.injEq] at hs;obtain ⟨rfl,rfl⟩:=hs;have htree:(jl P adv ops o:cf U)=cond (match o.dst with | some d=>Nat.ble adv.n d | none=>false) .fail (cL P adv o):=by
     unfold jl; rw [hg]; rfl
    rw [htree] at h |-;obtain ⟨hdst,hA⟩:=bO.of_cond' h;clear h;rw [hdst,cond_false];simp only [cL,hop] at hA |-;obtain ⟨hz,hB⟩:=bO.of_cond hA;clear hA;rw [hz,cond_true];unfold eu at hB |-;simp only at hB |-;obtain ⟨hv,hC⟩:=bO.of_cond' hB;clear hB;rw [hv,cond_false];obtain ⟨tk,hr1,hE⟩:=hC.read_inv;clear hC;subst hr1;rw [ha] at hE;simp only [gy] at hE;obtain ⟨rd2,hr2,h⟩:=hE.read_inv;clear hE;subst hr2;cases hσ:σ s' <;> rw [hσ] at h <;> first | exact h.of_fail.elim | skip
    rename_i cs;simp only [Xu h1] at h;have has:a≠s':=fun he=>by rw [he,hσ] at ha; cases ha
    cases hc:cs[off']? with
    | none=>rw [hc] at h; exact h.of_fail.elim
    | some c=>
     rw [hc] at h;simp only [Option.map_some] at h;cases hgv:nL adv o.dst (.one c) with
     | true=>
      rw [hgv,cond_true] at h;have hd:∃ d,o.dst=some d:=by
       unfold nL at hgv;split at hgv
       ·exact ⟨_,by assumption⟩
       ·exact ⟨_,by assumption⟩
       ·cases hgv
      obtain ⟨d,hd⟩:=hd;rw [hd] at h;rcases h.wr_inv with ⟨k1,_⟩ | ⟨d',k1,k2,k3⟩
      ·cases k1
      ·subst k2;refine ⟨cs,hσ,fun _=>⟨c.plain,fun τ=>?_⟩,fun σ2 cs2 _ _ _ hn=>?_⟩
       ·simp [cO,upd,AV.plain,setCells]
       ·simp at hn
     | false=>
      rw [hgv,cond_false] at h;have hds:∀ d,o.dst=some d->d≠s':=fun d hd he=>by
       rw [hd] at h;rcases h.wr_inv with ⟨k1,_⟩ | ⟨d',k1,k2,k3⟩
       ·cases k1
       ·injection k1 with k1
        rw [<- k1,he,hσ] at k3;cases k3
      refine ⟨cs,hσ,fun hm=>?_,fun σ2 cs2 k1 k2 k3 hn=>?_⟩
      ·exfalso
       rcases h.wr_inv with ⟨_,k2⟩ | ⟨d',k1,k2,k3⟩
       ·rw [k2] at hm; simp at hm
       ·rw [k2] at hm;simp at hm;exact hds d' k1 hm.symm
      ·have hrd:∀ x∈rd2,x≠s':=by
        unfold wr at h;cases hd:o.dst with
        | none=>rw [hd] at h; cases h; simp
        | some d=>
         rw [hd] at h;obtain ⟨rd3,hr3,h3⟩:=h.read_inv;obtain ⟨_,h3⟩:=bO.of_cond' h3;cases h3;subst hr3;intro x hx;simp at hx;subst hx;exact hds _ hd
       have h':=h.same (σ':=σ2) fun x hx=>k3 x (by simp [hx]) (hrd x hx)
       refine .read _ _ _ _ ?_;rw [k3 a (List.mem_cons_self ..) has,ha];simp only [gy];refine .read _ _ _ _ ?_;rw [k1];simp only [Xu h1,k2,hc,Option.map_some,hgv,cond_false];exact h'
  ·cases hs
 ·cases hs
inductive pe (P:Program) (U:cr) (tree:Oper->cf U):List Oper->cg U->List (List Nat × List (Nat × AV U.τ) × Option (Nat × Nat))->cg U->Prop
 | nil (σ:cg U):pe P U tree [] σ [] σ
 | cons (o:Oper) (rest:List Oper) (σ:cg U) (rd:List Nat) (ws:List (Nat × AV U.τ)) (D:List (List Nat × List (Nat × AV U.τ) × Option (Nat × Nat))) (σ':cg U) :
   bO P U σ (tree o) rd ws->pe P U tree rest (cO σ ws) D σ'->pe P U tree (o::rest) σ ((rd,ws,ku P σ o)::D) σ'
def lC (bits:Nat) (rd wr:List Nat) (sf:Option (Nat × Nat)) (e:Nat × List Nat × List Nat × Option (Nat × Nat)):Prop:=
 Nat.testBit bits e.1=true\/((∀ x∈wr,x ∉ e.2.2.1)/\(((∀ x∈wr,x ∉ e.2.1)/\∀ x∈rd,x ∉ e.2.2.1)\/
  ∃ s off off',sf=some (s,off)/\e.2.2.2=some (s,off')/\off≠off'/\(∀ x∈wr,x≠s->x ∉ e.2.1)/\∀ x∈rd,x≠s->x ∉ e.2.2.1))
theorem E8:∀ (l m:List Nat),jp l m=true↔∀ x∈l,x ∉ m
 | [],m=>by simp [jp]
 | x::l,m=>by
  simp only [jp];cases hm:gn x m with
  | true=>
   have:=(qD x m).1 hm;simp [this]
  | false=>
   have:x ∉ m:=fun h=>by rw [(qD x m).2 h] at hm; cases hm
   simp [this,E8 l m]
theorem vC (s:Nat):∀ (l:List Nat) (x:Nat),x∈l->x≠s->x∈pZ s l
 | [],_,h,_=>by simp at h
 | y::l,x,h,hx=>by
  unfold pZ;by_cases hy:y=s
  ·subst hy;rw [Nat.beq_refl,cond_true];rcases List.mem_cons.1 h with h | h
   ·exact absurd h hx
   ·exact vC y l x h hx
  ·rw [kF hy,cond_false];rcases List.mem_cons.1 h with h | h
   ·exact h ▸ List.mem_cons_self ..
   ·exact List.mem_cons_of_mem _ (vC s l x h hx)
theorem SD {bits:Nat} {rd wr:List Nat} {sf:Option (Nat × Nat)}:∀ {logs:Bb},s9 bits rd wr sf logs=true->∀ e∈logs,lC bits rd wr sf e
 | [],_,e,he=>by simp at he
 | (j,rd',wr',sf')::r,h,e,he=>by
  simp only [s9] at h;cases hb:(Nat.testBit bits j || (jp wr wr' && jp wr rd' && jp rd wr') || Da rd wr sf rd' wr' sf') with
  | false=>rw [hb] at h; cases h
  | true=>
   rw [hb] at h;rcases List.mem_cons.1 he with rfl | he
   ·simp only [Bool.or_eq_true,Bool.and_eq_true,E8] at hb;rcases hb with (hb | ⟨⟨h1,h2⟩,h3⟩) | hb
    ·exact .inl hb
    ·exact .inr ⟨h1,.inl ⟨h2,h3⟩⟩
    ·unfold Da at hb;split at hb
     ·rename_i s off s' off';simp only [Bool.and_eq_true,E8,Bool.not_eq_true'] at hb;obtain ⟨⟨⟨⟨h1,h2⟩,h3⟩,h4⟩,h5⟩:=hb;have h1:=Nat.eq_of_beq_eq_true h1;subst h1;refine .inr ⟨h3,.inr ⟨s,off,off',rfl,rfl,fun he=>?_,fun x hx hn=>h4 x (vC _ _ _ hx hn),fun x hx hn=>h5 x (vC _ _ _ hx hn)⟩⟩;rw [he,Nat.beq_refl] at h2;cases h2
     ·cases hb
   ·exact SD h e he
theorem Q3 {Res:Type} {Φ:gU U} (hΦ:jk P U Φ) {all:List Oper} {draw:Bool} {before:List Nat} {k:St U->Option Res} {out:Res}:∀ (rest:List Oper) (i:Nat) (logs:Bb) (st:St U),
  xW P Φ adv all draw before rest i logs st k=some out->
  ∃ D st',pe P U (jl P adv all) rest st.get D st'.get/\k st'=some out/\(draw=true->
   (∀ e∈logs,∀ (m:Nat) d,D[m]?=some d->lC (before.getD (i+m) 0) d.1 (d.2.1.map (·.1)) d.2.2 e)/\
   ∀ (p m:Nat) d d',p < m->D[p]?=some d->D[m]?=some d'->lC (before.getD (i+m) 0) d'.1 (d'.2.1.map (·.1)) d'.2.2 (i+p,d.1,d.2.1.map (·.1),d.2.2))
 | [],i,logs,st,h=>⟨[],st,.nil _,h,fun _=>⟨fun e he m d hm=>by simp at hm,fun p m d d' _ hp=>by simp at hp⟩⟩
 | o::rest,i,logs,st,h=>by
  simp only [xW] at h;obtain ⟨st',rd,ws,h1,h2,h3⟩:=Zk hΦ _ _ _ _ _ h;rw [List.append_nil,h1] at h3;cases hc:(cond draw (s9 (before.getD i 0) rd.reverse (ws.map (·.1)) (ku P st.get o) logs) true) with
  | false=>rw [hc] at h3; cases h3
  | true=>
   rw [hc] at h3;simp only [cond_true] at h3;obtain ⟨D,st2,g1,g2,g3⟩:=Q3 hΦ rest (i+1) _ _ h3;rw [Eh,h1] at g1;have h2':bO P U st.get (jl P adv all o) rd ws:=h2;refine ⟨(rd,ws,ku P st.get o)::D,st2,.cons o rest _ rd ws D _ h2' g1,g2,fun hdraw=>?_⟩;subst hdraw;obtain ⟨k1,k2⟩:=g3 rfl;simp only [cond_true] at hc k1;have fix:∀ {bits:Nat} {wr:List Nat} {sf:Option (Nat × Nat)} {e:Nat × List Nat × List Nat × Option (Nat × Nat)},lC bits rd.reverse wr sf e->lC bits rd wr sf e:=fun h=>by
    unfold lC at h |-;simpa only [List.mem_reverse] using h
   have fix2:∀ {bits:Nat} {rd2 wr:List Nat} {sf:Option (Nat × Nat)} {j:Nat} {wr2:List Nat} {sf2:Option (Nat × Nat)},lC bits rd2 wr sf (j,rd.reverse,wr2,sf2)->lC bits rd2 wr sf (j,rd,wr2,sf2):=fun h=>by
    unfold lC at h |-;simpa only [List.mem_reverse] using h
   refine ⟨fun e he m d hm=>?_,fun p m d d' hpm hp hm=>?_⟩
   ·cases m with
    | zero=>
     simp at hm; subst hm;exact fix (SD hc e he)
    | succ m=>
     rw [show i+(m+1)=i+1+m by omega];exact k1 e (List.mem_cons_of_mem _ he) m d (by simpa using hm)
   ·cases m with
    | zero=>omega
    | succ m=>
     rw [show i+(m+1)=i+1+m by omega];cases p with
     | zero=>
      simp at hp; subst hp;exact fix2 (k1 (i,rd.reverse,ws.map (·.1),ku P st.get o) (List.mem_cons_self ..) m d' (by simpa using hm))
     | succ p=>
      rw [show i+(p+1)=i+1+p by omega];exact k2 p m d d' (by omega) (by simpa using hp) (by simpa using hm)
theorem Pa (hU:iZ P U) {Q:Exit->Act->World->Prop} {all:List Oper} (hN:adv.n<=N) {σ':cg U} (hQ:∀ a w,d6 P U N L0 G0 w0 σ' a w->Q .normal a w):∀ (rest:List Oper) (i:Nat) (σ:cg U) (D:List (List Nat × List (Nat × AV U.τ) × Option (Nat × Nat))) (a:Act) (w:World),
  (∀ j,rest[j]?=all[i+j]?)->pe P U (jl P adv all) rest σ D σ'->d6 P U N L0 G0 w0 σ a w->wpOps P all.toArray Q (List.range' i rest.length) a w
 | [],i,σ,D,a,w,_,hL,hR=>by
  cases hL;exact hQ a w hR
 | o::rest,i,σ,D,a,w,ha,hL,⟨G,r⟩=>by
  cases hL with
  | cons _ _ _ rd ws D' _ hdo hL=>
   rw [List.length_cons,List.range'_succ,wpOps_cons];refine P5 hU r hN (o:=o) (by have:=ha 0; simpa using this.symm) hdo (fun a' w' hR'=>?_);exact Pa hU hN hQ rest (i+1) _ D' a' w' (fun j=>by have:=ha (j+1); rw [show i+(j+1)=i+1+j by omega] at this; simpa using this) hL hR'
end
end Go.VI
namespace Go.VI
open Go
abbrev qF (U:cr):=List (List Nat × List (Nat × AV U.τ) × Option (Nat × Nat))
section
variable {P:Program} {U:cr} {N:Nat} {L0:Nat->Nat} {G0:ce} {w0:World} {adv:bJ}
def db (S:Nat->Bool):qF U->Nat->cg U->cg U
 | [],_,σ=>σ
 | (_,ws,_)::D,i,σ=>db S D (i+1) (if S i then cO σ ws else σ)
theorem m9:∀ (ws:List (Nat × AV U.τ)) (σ:cg U) (x:Nat),x ∉ ws.map (·.1)->cO σ ws x=σ x
 | [],_,_,_=>rfl
 | (s,v)::ws,σ,x,h=>by
  simp only [List.map_cons,List.mem_cons,not_or] at h;rw [cO,m9 ws _ x h.2];simp [upd,h.1]
theorem Cc:∀ (ws:List (Nat × AV U.τ)) (σ σ':cg U) (x:Nat),x∈ws.map (·.1)->cO σ ws x=cO σ' ws x
 | [],_,_,_,h=>by simp at h
 | (s,v)::ws,σ,σ',x,h=>by
  simp only [cO];by_cases hx:x∈ws.map (·.1)
  ·exact Cc ws _ _ x hx
  ·rw [m9 ws _ x hx,m9 ws _ x hx];simp only [List.map_cons,List.mem_cons] at h;have:x=s:=h.resolve_right hx;simp [upd,this]
theorem fH9 (ws:List (Nat × AV U.τ)) (σ σ':cg U) (x:Nat) (h:σ x=σ' x):cO σ ws x=cO σ' ws x:=by
 by_cases hx:x∈ws.map (·.1)
 ·exact Cc ws σ σ' x hx
 ·rw [m9 ws _ x hx,m9 ws _ x hx,h]
theorem l9 {S S':Nat->Bool} {x:Nat}:∀ (D:qF U) (i:Nat) (σ σ':cg U),σ x=σ' x->(∀ (m:Nat) d,D[m]?=some d->S (i+m)≠S' (i+m)->x ∉ d.2.1.map (·.1))->db S D i σ x=db S' D i σ' x
 | [],i,σ,σ',h,_=>h
 | (rd,ws,sf)::D,i,σ,σ',h,hd=>by
  simp only [db];refine l9 D (i+1) _ _ ?_ (fun m d hm hS=>hd (m+1) d (by simpa using hm) (by rw [show i+(m+1)=i+1+m by omega]; exact hS));have h0:=hd 0 (rd,ws,sf) rfl;rw [Nat.add_zero] at h0;cases h1:S i <;> cases h2:S' i <;> simp only [Bool.false_eq_true,if_true,if_false]
  ·exact h
  ·rw [m9 ws _ x (h0 (by simp [h1,h2])),h]
  ·rw [m9 ws _ x (h0 (by simp [h1,h2])),h]
  ·exact fH9 ws _ _ x h
theorem qL {S:Nat->Bool}:∀ (D:qF U) (i:Nat) (σ:cg U),(∀ m,m < D.length->S (i+m)=false)->db S D i σ=σ
 | [],_,_,_=>rfl
 | (rd,ws,sf)::D,i,σ,h=>by
  have h0:=h 0 (by simp);rw [Nat.add_zero] at h0;simp only [db,h0,Bool.false_eq_true,if_false];exact qL D (i+1) σ (fun m hm=>by have:=h (m+1) (by simp; omega); rwa [show i+(m+1)=i+1+m by omega] at this)
theorem C7 {S:Nat->Bool} {x:Nat} (τ:cg U):∀ (D:qF U) (i j:Nat) (σ:cg U) (d:List Nat × List (Nat × AV U.τ) × Option (Nat × Nat)),D[j]?=some d->S (i+j)=true->x∈d.2.1.map (·.1)->(∀ (m:Nat) e,j < m->D[m]?=some e->S (i+m)=true->x ∉ e.2.1.map (·.1))->db S D i σ x=cO τ d.2.1 x
 | [],i,j,σ,d,h,_,_,_=>by simp at h
 | (rd,ws,sf)::D,i,j,σ,d,h,hS,hx,hl=>by
  simp only [db];cases j with
  | zero=>
   simp at h; subst h;rw [Nat.add_zero] at hS;simp only [hS,if_true];rw [l9 (S:=S) (S':=fun _=>false) D (i+1) (cO σ ws) (cO τ ws) (Cc ws _ _ x hx) (fun m e hm hne=>hl (m+1) e (by omega) (by simpa using hm) (by rw [show i+(m+1)=i+1+m by omega]; simpa using hne))];rw [qL D (i+1) _ (fun _ _=>rfl)]
  | succ j=>
   refine C7 τ D (i+1) j _ d (by simpa using h) (by rw [show i+1+j=i+(j+1) by omega]; exact hS) hx (fun m e hjm hm hSm=>hl (m+1) e (by omega) (by simpa using hm) (by rw [show i+(m+1)=i+1+m by omega]; exact hSm))
theorem fw0 {tree:Oper->cf U}:∀ {rest:List Oper} {σ:cg U} {D:qF U} {σ':cg U},pe P U tree rest σ D σ'->D.length=rest.length/\(∀ i,db (fun _=>true) D i σ=σ')/\
  ∀ (j i:Nat) o,rest[j]?=some o->∃ d,D[j]?=some d/\bO P U (db (fun m=>decide (m < i+j)) D i σ) (tree o) d.1 d.2.1/\d.2.2=ku P (db (fun m=>decide (m < i+j)) D i σ) o:=by
 intro rest σ D σ' h
 induction h with
 | nil σ=>exact ⟨rfl,fun _=>rfl,fun j i o h=>by simp at h⟩
 | cons o rest σ rd ws D σ' hdo hL ih=>
  obtain ⟨h1,h2,h3⟩:=ih;refine ⟨by simp [h1],fun i=>by simp only [db,if_true]; exact h2 (i+1),fun j i o' ho=>?_⟩;cases j with
  | zero=>
   simp at ho; subst ho;refine ⟨(rd,ws,ku P σ o),rfl,?_⟩;have:db (fun m=>decide (m < i+0)) ((rd,ws,ku P σ o)::D) i σ=σ:=qL _ _ _ (fun m _=>by simp);rw [this]; exact ⟨hdo,rfl⟩
  | succ j=>
   obtain ⟨d,k1,k2⟩:=h3 j (i+1) o' (by simpa using ho);refine ⟨d,by simpa using k1,?_⟩;rw [show i+(j+1)=i+1+j by omega];have:db (fun m=>decide (m < i+1+j)) ((rd,ws,ku P σ o)::D) i σ=db (fun m=>decide (m < i+1+j)) D (i+1) (cO σ ws):=by
    have hlt:i < i+1+j:=by omega
    simp only [db,hlt,decide_true,if_true]
   rw [this]; exact k2
def tz (acc:Array Nat) (s:Nat) (e:Edge):Nat:=if Region.binds .any e then s ||| 2 ^ e.on ||| acc.getD e.on 0 else s
theorem NJ (acc:Array Nat):∀ (l:List Edge) (s p:Nat),Nat.testBit (l.foldl (tz acc) s) p=true->Nat.testBit s p=true\/∃ e∈l,Region.binds .any e=true/\(p=e.on\/Nat.testBit (acc.getD e.on 0) p=true)
 | [],s,p,h=>.inl h
 | e::l,s,p,h=>by
  rcases NJ acc l _ p h with h1 | ⟨e',he',h1⟩
  ·unfold tz at h1;split at h1
   ·rename_i hb;rw [Nat.testBit_or,Nat.testBit_or,Bool.or_eq_true,Bool.or_eq_true] at h1;rcases h1 with (h1 | h1) | h1
    ·exact .inl h1
    ·refine .inr ⟨e,List.mem_cons_self ..,hb,.inl ?_⟩;have:=Nat.testBit_two_pow (n:=e.on) (m:=p);rw [this] at h1;exact (of_decide_eq_true h1).symm
    ·exact .inr ⟨e,List.mem_cons_self ..,hb,.inr h1⟩
   ·exact .inl h1
  ·exact .inr ⟨e',List.mem_cons_of_mem _ he',h1⟩
theorem RT:∀ (l:List Oper) (acc:Array Nat),let r:=l.foldl (fun acc o=>acc.push (o.after.toList.foldl (tz acc) 0)) acc
  r.size=acc.size+l.length/\(∀ i,i < acc.size->r[i]?=acc[i]?)/\
  ∀ (j:Nat) o,l[j]?=some o->∀ p,Nat.testBit (r.getD (acc.size+j) 0) p=true->∃ e∈o.after,Region.binds .any e=true/\(p=e.on\/(e.on < acc.size+j/\Nat.testBit (r.getD e.on 0) p=true))
 | [],acc=>⟨rfl,fun _ _=>rfl,fun j o h=>by simp at h⟩
 | o::l,acc=>by
  obtain ⟨h1,h2,h3⟩:=RT l (acc.push (o.after.toList.foldl (tz acc) 0));simp only [List.foldl_cons] at h1 h2 h3 |-;rw [Array.size_push] at h1 h2 h3;refine ⟨by rw [h1,List.length_cons]; omega,fun i hi=>?_,fun j o' hj p hp=>?_⟩
  ·rw [h2 i (by omega),Array.getElem?_push,ac (by omega)]
  ·cases j with
   | zero=>
    simp at hj; subst hj;rw [Nat.add_zero] at hp |-;have hr:=h2 acc.size (by omega);rw [Array.getElem?_push,ab rfl] at hr;rw [Array.getD_eq_getD_getElem?,hr,Option.getD_some] at hp;rcases NJ acc _ _ p hp with h | ⟨e,he,hb,h⟩
    ·simp at h
    ·refine ⟨e,by simpa using he,hb,?_⟩;rcases h with h | h
     ·exact .inl h
     ·right
      have hlt:e.on < acc.size:=by
       rcases Nat.lt_or_ge e.on acc.size with h' | h'
       ·exact h'
       ·rw [Array.getD_eq_getD_getElem?,Array.getElem?_eq_none h'] at h; simp at h
      refine ⟨hlt,?_⟩;have hr:=h2 e.on (by omega);rw [Array.getElem?_push,ac (by omega)] at hr;rw [Array.getD_eq_getD_getElem?,hr,<- Array.getD_eq_getD_getElem?];exact h
   | succ j=>
    obtain ⟨e,he,hb,h⟩:=h3 j o' (by simpa using hj) p (by rw [show acc.size+1+j=acc.size+(j+1) by omega]; exact hp);exact ⟨e,he,hb,h.imp id fun ⟨k1,k2⟩=>⟨by omega,k2⟩⟩
theorem fd8 (ops:List Oper) (j:Nat) (o:Oper) (hj:ops[j]?=some o) (p:Nat) (hp:Nat.testBit ((Region.before ops.toArray).toList.getD j 0) p=true) :
  ∃ e∈o.after,Region.binds .any e=true/\(p=e.on\/(e.on < j/\Nat.testBit ((Region.before ops.toArray).toList.getD e.on 0) p=true)):=by
 have hb:Region.before ops.toArray=ops.foldl (fun acc o=>acc.push (o.after.toList.foldl (tz acc) 0)) #[]:=by
  unfold Region.before;rw [<- Array.foldl_toList];simp only [<- Array.foldl_toList]
  rfl
 have hg:∀ i,(Region.before ops.toArray).toList.getD i 0=(Region.before ops.toArray).getD i 0:=fun i=>by
  rw [Array.getD_eq_getD_getElem?,List.getD_eq_getElem?_getD,Array.getElem?_toList]
 rw [hg] at hp;obtain ⟨_,_,h3⟩:=RT ops #[];rw [hb] at hp;obtain ⟨e,he,hbd,h⟩:=h3 j o hj p (by simpa using hp);refine ⟨e,he,hbd,?_⟩;rw [hg,hb];simpa using h
theorem Uq:∀ {ops:List Oper} {i:Nat},nM ops i=true->∀ (j:Nat) o,ops[j]?=some o->∀ e∈o.after,Region.binds .any e=true->e.on < i+j
 | [],i,_,j,o,h=>by simp at h
 | o::r,i,h,j,o',ho=>by
  simp only [nM] at h;cases hc:(o.after.toList.all fun e=>!(Region.binds .any e) || Nat.blt e.on i) with
  | false=>rw [hc] at h; cases h
  | true=>
   rw [hc] at h;intro e he hb;cases j with
   | zero=>
    simp at ho; subst ho;have:=List.all_eq_true.1 hc e (by simpa using he);rw [hb] at this;simp only [Bool.not_true,Bool.false_or] at this;have:=Nat.le_of_ble_eq_true this;omega
   | succ j=>
    have:=Uq h j o' (by simpa using ho) e he hb;omega
theorem fw1 {l:List Bool} {i:Nat} (h:l[i]?=some false):(l.set i true).count false+1=l.count false:=by
 induction l generalizing i with
 | nil=>simp at h
 | cons b l ih=>
  cases i with
  | zero=>
   simp at h; subst h;simp
  | succ i=>
   have:=ih (i:=i) (by simpa using h);cases b <;> simp <;> omega
theorem fm4 (hU:iZ P U) {Q:Exit->Act->World->Prop} {all:List Oper} (hN:adv.n<=N) {σ0 σ':cg U} {D:qF U} (hL:pe P U (jl P adv all) all σ0 D σ')
  (hap:∀ (p m:Nat) d d',p < m->D[p]?=some d->D[m]?=some d'->lC ((Region.before all.toArray).toList.getD m 0) d'.1 (d'.2.1.map (·.1)) d'.2.2 (p,d.1,d.2.1.map (·.1),d.2.2))
  (hed:nM all 0=true) (hQ:∀ a w,d6 P U N L0 G0 w0 σ' a w->Q .normal a w) :
  ∀ (fuel:Nat) (listed:Array Bool) (a:Act) (w:World),listed.size=all.length->listed.toList.count false=fuel->
   (∀ (m p:Nat),listed.getD m false=true->Nat.testBit ((Region.before all.toArray).toList.getD m 0) p=true->listed.getD p false=true)->
   d6 P U N L0 G0 w0 (db (fun m=>listed.getD m false) D 0 σ0) a w->wpAny P .any all.toArray Q fuel listed a w:=by
 obtain ⟨hlen,hall,hdo⟩:=fw0 hL;intro fuel;have done:∀ (listed:Array Bool) (a:Act) (w:World),listed.size=all.length->Region.ready .any all.toArray listed=[]->d6 P U N L0 G0 w0 (db (fun m=>listed.getD m false) D 0 σ0) a w->Q .normal a w:=by
  intro listed a w hsz hr hA;have hl:∀ m,m < all.length->listed.getD m false=true:=by
   intro m
   induction m using Nat.strongRecOn with
   | _ m ih=>
    intro hm;cases hc:listed.getD m false with
    | true=>rfl
    | false=>
     exfalso
     obtain ⟨o,ho⟩:∃ o,all[m]?=some o:=⟨_,List.getElem?_eq_getElem hm⟩;have:m∈Region.ready .any all.toArray listed:=by
      rw [mem_ready];refine ⟨?_,o,by simpa using ho,fun e he hb=>?_⟩
      ·rw [Array.getD_eq_getD_getElem?] at hc |-;rw [Array.getElem?_eq_getElem (by omega)] at hc |-;simpa using hc
      ·have:=Uq hed m o ho e he hb;exact ih e.on (by omega) (by omega)
     rw [hr] at this;cases this
  have:db (fun m=>listed.getD m false) D 0 σ0=σ':=by
   rw [<- hall 0]
   funext x
   exact l9 D 0 σ0 σ0 rfl (fun m d hm hne=>by
    exfalso
    have:=(List.getElem?_eq_some_iff.1 hm).1;rw [Nat.zero_add,hl m (by omega)] at hne;exact hne rfl)
  rw [this] at hA;exact hQ a w hA
 have step:∀ (listed:Array Bool) (j:Nat),listed.size=all.length->j∈Region.ready .any all.toArray listed->
   (∀ (m p:Nat),listed.getD m false=true->Nat.testBit ((Region.before all.toArray).toList.getD m 0) p=true->listed.getD p false=true)->
   ∃ o d,all[j]?=some o/\D[j]?=some d/\listed[j]?=some false/\bO P U (db (fun m=>listed.getD m false) D 0 σ0) (jl P adv all o) d.1 d.2.1/\
    (∀ (m p:Nat),(listed.setIfInBounds j true).getD m false=true->Nat.testBit ((Region.before all.toArray).toList.getD m 0) p=true->(listed.setIfInBounds j true).getD p false=true)/\
    cO (db (fun m=>listed.getD m false) D 0 σ0) d.2.1=db (fun m=>(listed.setIfInBounds j true).getD m false) D 0 σ0:=by
  intro listed j hsz hj hdc;obtain ⟨hun,o,ho,hedge⟩:=mem_ready.1 hj;have ho:all[j]?=some o:=by simpa using ho
  have hjl:j < all.length:=(List.getElem?_eq_some_iff.1 ho).1;have hlj:listed[j]?=some false:=by
   rw [Array.getD_eq_getD_getElem?,Array.getElem?_eq_getElem (by omega)] at hun;rw [Array.getElem?_eq_getElem (by omega)];simpa using hun
  have hjf:listed.getD j false=false:=by rw [Array.getD_eq_getD_getElem?,hlj]; rfl
  obtain ⟨d,hd,hdoes,hsf⟩:=hdo j 0 o ho;rw [Nat.zero_add] at hdoes hsf;have hpre:∀ p,Nat.testBit ((Region.before all.toArray).toList.getD j 0) p=true->listed.getD p false=true:=by
   intro p hp;obtain ⟨e,he,hb,h⟩:=fd8 all j o ho p hp;have hl:=hedge e he hb;rcases h with rfl | ⟨_,h⟩
   ·exact hl
   ·exact hdc e.on p hl h
  have hpost:∀ p,listed.getD p false=true->Nat.testBit ((Region.before all.toArray).toList.getD p 0) j=true->False:=fun p hp hb=>by
   have:=hdc p j hp hb;rw [hjf] at this; cases this
  have hset:∀ m,(listed.setIfInBounds j true).getD m false=(if m=j then true else listed.getD m false):=fun m=>by
   rw [Array.getD_eq_getD_getElem?,Array.getElem?_setIfInBounds];by_cases hm:j=m
   ·subst hm;rw [ab rfl,ab rfl,ab (by omega)]
    rfl
   ·rw [ac hm,ac (Ne.symm hm),Array.getD_eq_getD_getElem?]
  have hun:∀ (m:Nat) e,D[m]?=some e->decide (m < j)≠listed.getD m false->(∀ x∈d.2.1.map (·.1),x ∉ e.2.1.map (·.1))/\((∀ x∈d.1,x ∉ e.2.1.map (·.1))\/
    ∃ s off off',d.2.2=some (s,off)/\e.2.2=some (s,off')/\off≠off'/\∀ x∈d.1,x≠s->x ∉ e.2.1.map (·.1)):=by
   intro m e hm hne;rcases Nat.lt_trichotomy m j with h | h | h
   ·have hmf:listed.getD m false=false:=by
     cases hc:listed.getD m false with
     | false=>rfl
     | true=>rw [hc] at hne; simp [h] at hne
    rcases hap m j e d h hm hd with hb | ⟨h0,⟨_,hb⟩ | ⟨s,off,off',h1,h2,h3,_,h5⟩⟩
    ·have:=hpre m hb; rw [hmf] at this; cases this
    ·exact ⟨h0,.inl hb⟩
    ·exact ⟨h0,.inr ⟨s,off,off',h1,h2,h3,h5⟩⟩
   ·subst h;rw [hjf] at hne;simp at hne
   ·have hmt:listed.getD m false=true:=by
     cases hc:listed.getD m false with
     | true=>rfl
     | false=>rw [hc] at hne; simp at hne; omega
    rcases hap j m d e h hd hm with hb | ⟨h0,⟨hb,_⟩ | ⟨s,off,off',h1,h2,h3,h4,_⟩⟩
    ·exact (hpost m hmt hb).elim
    ·exact ⟨fun x hx hxe=>h0 x hxe hx,.inl fun x hx hxe=>hb x hxe hx⟩
    ·exact ⟨fun x hx hxe=>h0 x hxe hx,.inr ⟨s,off',off,h2,h1,fun he=>h3 he.symm,fun x hx hn hxe=>h4 x hxe hn hx⟩⟩
  have hdo1:bO P U (db (fun m=>listed.getD m false) D 0 σ0) (jl P adv all o) d.1 d.2.1:=by
   by_cases hall1:∀ (m:Nat) e,D[m]?=some e->decide (m < j)≠listed.getD m false->∀ x∈d.1,x ∉ e.2.1.map (·.1)
   ·exact hdoes.same fun x hx=>l9 D 0 σ0 σ0 rfl fun m e hm hne=>by
     rw [Nat.zero_add] at hne;exact hall1 m e hm (Ne.symm hne) x hx
   ·have hex:∃ m:Nat,∃ e x,D[m]?=some e/\decide (m < j)≠listed.getD m false/\x∈d.1/\x∈e.2.1.map (·.1):=by
     refine Classical.byContradiction fun hn=>hall1 fun m e hm hne x hx hxe=>hn ⟨m,e,x,hm,hne,hx,hxe⟩
    obtain ⟨m0,e0,x0,hm0,hne0,hx0,hxe0⟩:=hex;obtain ⟨hw0,hc⟩:=hun m0 e0 hm0 hne0;rcases hc with hc | ⟨s,off,off0,hs1,hs2,hs3,hs4⟩
    ·exact absurd hxe0 (hc x0 hx0)
    have hx0s:x0=s:=Classical.byContradiction fun hn=>hs4 x0 hx0 hn hxe0
    subst hx0s;have hsd:x0 ∉ d.2.1.map (·.1):=fun h=>hw0 x0 h hxe0
    obtain ⟨cs,g1,g2,g3⟩:=(Ve (hsf.symm.trans hs1) hdoes).box
    let V:cg U->Option (Option (CV U.τ)):=fun σ=>match σ x0 with | .box cs=>some cs[off]? | _=>none
    have hV:V (db (fun m=>decide (m < j)) D 0 σ0)=V (db (fun m=>listed.getD m false) D 0 σ0):=by
     have main:∀ k,V (db (fun m=>decide (m < j) && decide (m < k)) D 0 σ0)=V (db (fun m=>listed.getD m false && decide (m < k)) D 0 σ0):=by
      intro k
      induction k with
      | zero=>rw [qL D 0 σ0 (fun m _=>by simp),qL D 0 σ0 (fun m _=>by simp)]
      | succ k ih=>
       have stay:∀ S:Nat->Bool,(S k=false\/∀ e,D[k]?=some e->x0 ∉ e.2.1.map (·.1))->V (db (fun m=>S m && decide (m < k+1)) D 0 σ0)=V (db (fun m=>S m && decide (m < k)) D 0 σ0):=by
        intro S hS;have:db (fun m=>S m && decide (m < k+1)) D 0 σ0 x0=db (fun m=>S m && decide (m < k)) D 0 σ0 x0:=l9 D 0 σ0 σ0 rfl fun m e hm hne=>by
         rw [Nat.zero_add] at hne;by_cases hmk:m=k
         ·subst hmk;rcases hS with hS | hS
          ·rw [hS] at hne; simp at hne
          ·exact hS e hm
         ·have:decide (m < k+1)=decide (m < k):=by
           by_cases h:m < k
           ·simp [h,Nat.lt_succ_of_lt h]
           ·have:¬m < k+1:=by omega
            simp [h,this]
          simp only [this] at hne;exact absurd rfl hne
        show (match db (fun m=>S m && decide (m < k+1)) D 0 σ0 x0 with | .box cs=>some cs[off]? | _=>none)=_
        rw [this]
       have put:∀ (S:Nat->Bool) (τ:cg U) e,S k=true->D[k]?=some e->x0∈e.2.1.map (·.1)->db (fun m=>S m && decide (m < k+1)) D 0 σ0 x0=cO τ e.2.1 x0:=fun S τ e hS he hx=>
        C7 (S:=fun m=>S m && decide (m < k+1)) τ D 0 k σ0 e he (by rw [Nat.zero_add]; simp [hS]) hx fun m e' hkm hm hSm=>by
         rw [Nat.zero_add] at hSm;simp at hSm;omega
       have keep:∀ (S:Nat->Bool) e,D[k]?=some e->S k=true->x0∈e.2.1.map (·.1)->decide (k < j)≠listed.getD k false->(db (fun m=>S m && decide (m < k)) D 0 σ0 x0=db (fun m=>decide (m < k)) D 0 σ0 x0)->V (db (fun m=>S m && decide (m < k+1)) D 0 σ0)=V (db (fun m=>S m && decide (m < k)) D 0 σ0):=by
        intro S e he hS hx hne hL;obtain ⟨_,hcc⟩:=hun k e he hne;rcases hcc with hcc | ⟨s',off',offk,t1,t2,t3,_⟩
        ·exact absurd hx (hcc x0 hx0)
        rw [hs1] at t1;injection t1 with t1
        injection t1 with t1 t1'
        subst t1; subst t1';have hkl:=(List.getElem?_eq_some_iff.1 he).1;obtain ⟨ok,hok⟩:∃ ok,all[k]?=some ok:=⟨_,List.getElem?_eq_getElem (by omega)⟩;obtain ⟨e',he',hdk,hsk⟩:=hdo k 0 ok hok;rw [he] at he'; injection he' with he'; subst he'
        rw [Nat.zero_add] at hdk hsk;obtain ⟨csk,q1,q2,_⟩:=(Ve (hsk.symm.trans t2) hdk).box;obtain ⟨c,q2⟩:=q2 hx;show (match db (fun m=>S m && decide (m < k+1)) D 0 σ0 x0 with | .box cs=>some cs[off]? | _=>none)=(match db (fun m=>S m && decide (m < k)) D 0 σ0 x0 with | .box cs=>some cs[off]? | _=>none)
        rw [put S σ0 e hS he hx,q2,hL,q1];simp only;rw [List.getElem?_set_ne (fun h=>t3 h.symm)]
       cases he:D[k]? with
       | none=>rw [stay _ (.inr fun e h=>by rw [he] at h; cases h),stay _ (.inr fun e h=>by rw [he] at h; cases h)]; exact ih
       | some e=>
        by_cases hx:x0∈e.2.1.map (·.1)
        ·cases ha:decide (k < j) with
         | true=>cases hb:listed.getD k false with
          | true=>
           show (match db (fun m=>decide (m < j) && decide (m < k+1)) D 0 σ0 x0 with | .box cs=>some cs[off]? | _=>none)=(match db (fun m=>listed.getD m false && decide (m < k+1)) D 0 σ0 x0 with | .box cs=>some cs[off]? | _=>none)
           rw [put (fun m=>decide (m < j)) σ0 e ha he hx,put (fun m=>listed.getD m false) σ0 e hb he hx]
          | false=>
           rw [keep (fun m=>decide (m < j)) e he ha hx (by rw [ha,hb]; simp) ?_,stay (fun m=>listed.getD m false) (.inl hb)]
           ·exact ih
           ·congr 1;congr 1
            funext m
            have:=of_decide_eq_true ha;by_cases h:m < k
            ·have:m < j:=by omega
             simp [h,this]
            ·simp [h]
         | false=>cases hb:listed.getD k false with
          | false=>rw [stay (fun m=>decide (m < j)) (.inl ha),stay (fun m=>listed.getD m false) (.inl hb)]; exact ih
          | true=>
           rw [stay (fun m=>decide (m < j)) (.inl ha),keep (fun m=>listed.getD m false) e he hb hx (by rw [ha,hb]; simp) ?_]
           ·exact ih
           ·refine l9 D 0 σ0 σ0 rfl fun m e' hm hne=>?_
            rw [Nat.zero_add] at hne;have hmk:m < k:=Classical.byContradiction fun h=>by simp [h] at hne
            have hml:listed.getD m false=false:=by
             cases hc:listed.getD m false with
             | false=>rfl
             | true=>simp [hmk,hc] at hne
            intro hxm;rcases hap m k e' e hmk hm he with hb' | ⟨h0,_⟩
            ·have:=hdc k m hb hb';rw [hml] at this; cases this
            ·exact h0 x0 hx hxm
        ·rw [stay _ (.inr fun e' h=>by rw [he] at h; injection h with h; subst h; exact hx),stay _ (.inr fun e' h=>by rw [he] at h; injection h with h; subst h; exact hx)]; exact ih
     have h1:=main D.length;have lim:∀ S:Nat->Bool,db (fun m=>S m && decide (m < D.length)) D 0 σ0=db S D 0 σ0:=fun S=>funext fun x=>l9 D 0 σ0 σ0 rfl fun m e hm hne=>by
      rw [Nat.zero_add] at hne;have:=(List.getElem?_eq_some_iff.1 hm).1;simp [this] at hne
     rw [lim,lim] at h1;exact h1
    have hV2:V (db (fun m=>listed.getD m false) D 0 σ0)=some cs[off]?:=by
     rw [<- hV];show (match db (fun m=>decide (m < j)) D 0 σ0 x0 with | .box cs=>some cs[off]? | _=>none)=_
     rw [g1]
    have hcs2:∃ cs2,db (fun m=>listed.getD m false) D 0 σ0 x0=.box cs2/\cs2[off]?=cs[off]?:=by
     change (match db (fun m=>listed.getD m false) D 0 σ0 x0 with | .box cs=>some cs[off]? | _=>none)=_ at hV2
     split at hV2
     ·rename_i cs2 h;injection hV2 with hV2
      exact ⟨cs2,h,hV2⟩
     ·cases hV2
    obtain ⟨cs2,p1,p2⟩:=hcs2;refine g3 _ cs2 p1 p2 (fun x hx hn=>?_) hsd;refine l9 D 0 σ0 σ0 rfl fun m e hm hne=>?_
    rw [Nat.zero_add] at hne;rcases (hun m e hm (Ne.symm hne)).2 with h | ⟨s',_,_,t1,_,_,h⟩
    ·exact h x hx
    ·rw [hs1] at t1;injection t1 with t1
     injection t1 with t1 t1'
     subst t1;exact h x hx hn
  refine ⟨o,d,ho,hd,hlj,hdo1,fun m p hm hp=>?_,?_⟩
  ·rw [hset] at hm |-;by_cases hpj:p=j
   ·rw [ab hpj]
   ·rw [ac hpj];by_cases hmj:m=j
    ·subst hmj; exact hpre p hp
    ·rw [ac hmj] at hm;exact hdc m p hm hp
  ·funext x
   by_cases hx:x∈d.2.1.map (·.1)
   ·refine (C7 (S:=fun m=>(listed.setIfInBounds j true).getD m false) _ D 0 j σ0 d hd (by rw [Nat.zero_add,hset,ab rfl]) hx (fun m e hjm hm hS=>?_)).symm;rw [Nat.zero_add,hset,ac (by omega)] at hS;intro hxe;rcases hap j m d e hjm hd hm with hb | ⟨hb,_⟩
    ·exact hpost m hS hb
    ·exact hb x hxe hx
   ·rw [m9 _ _ x hx];refine l9 D 0 σ0 σ0 rfl (fun m e hm hne=>?_);rw [Nat.zero_add,hset] at hne;by_cases hmj:m=j
    ·subst hmj;rw [hd] at hm; injection hm with hm; subst hm
     exact hx
    ·rw [ac hmj] at hne;exact absurd rfl hne
 induction fuel with
 | zero=>
  intro listed a w hsz hcnt hdc hA;have hr:Region.ready .any all.toArray listed=[]:=by
   cases hr:Region.ready .any all.toArray listed with
   | nil=>rfl
   | cons j js=>
    exfalso
    obtain ⟨o,d,ho,_,hlj,_⟩:=step listed j hsz (by rw [hr]; exact List.mem_cons_self ..) hdc;have:false∈listed.toList:=by
     refine List.mem_of_getElem? (i:=j) ?_;rw [Array.getElem?_toList]; exact hlj
    have:=List.count_pos_iff.2 this;omega
  exact ⟨hr,done listed a w hsz hr hA⟩
 | succ fuel ih=>
  intro listed a w hsz hcnt hdc hA;refine ⟨fun hr=>done listed a w hsz hr hA,fun j hj=>?_⟩;obtain ⟨o,d,ho,hd,hlj,hdoes,hdc',hst⟩:=step listed j hsz hj hdc;obtain ⟨G,r⟩:=hA;refine P5 hU r hN ho hdoes (fun a' w' hR'=>?_);refine ih _ a' w' (by simpa using hsz) ?_ hdc' (by rw [<- hst]; exact hR');have:=fw1 (l:=listed.toList) (i:=j) (by rw [Array.getElem?_toList]; exact hlj);rw [Array.toList_setIfInBounds];omega
theorem R.drew {G:ce} {σ:cg U} {a:Act} {w:World} (r:R P U N L0 G0 w0 G σ a w):R P U N L0 G0 w0 G σ a { w with drawn:=w.drawn+1 }:=by
 have x:iC (fun _=>False) G G σ σ w { w with drawn:=w.drawn+1 }:=⟨fun _ _ h=>⟨h,rfl⟩,fun _ _ h _=>⟨h,rfl,fun _ h=>h⟩,fun _ _=>rfl,fun s cs h=>⟨cs,h⟩,fun s e y q h=>⟨e,y,h,rfl⟩⟩
 have s:gf G w G { w with drawn:=w.drawn+1 }:=⟨rfl,rfl,rfl,Nat.le_refl _,fun _ _ _=>rfl,fun _ _ h=>⟨h,rfl⟩,fun _ _ h=>.inl h,fun _ _ h=>.inr (by rw [h]; rfl)⟩
 exact r.go x s rfl rfl (fun _ _=>rfl) (fun b o h=>.inl h) (fun b L h=>.inl ⟨L,h⟩) (fun t cs' ht hσ=>⟨cs',hσ,rfl,fun _ _=>rfl⟩) (fun t=>.inl ⟨rfl,rfl,fun h=>h,fun _ h=>h⟩)
end
end Go.VI
namespace Go.VI
open Go
section
variable {U:cr} {Res:Type}
theorem PU (c:CV U.τ) (k:CV U.τ->Option Res):C0 c k=k c:=by
 cases c <;> first | rfl | (rename_i f; cases f <;> rfl)
theorem qC:∀ (cs:List (CV U.τ)) (k:List (CV U.τ)->Option Res),og cs k=k cs
 | [],_=>rfl
 | c::r,k=>by simp only [og,PU,qC r]
theorem Gv:∀ (vs:List (Bool × List (CV U.τ))) (k:List (Bool × List (CV U.τ))->Option Res),sj vs k=k vs
 | [],_=>rfl
 | (true,cs)::r,k=>by simp only [sj,qC,Gv r]
 | (false,cs)::r,k=>by simp only [sj,qC,Gv r]
theorem fw2 (v:AV U.τ) (k:AV U.τ->Option Res):oL v k=k v:=by
 cases v with
 | undef=>rfl
 | one c=>simp only [oL,PU]
 | agg cs=>simp only [oL,qC]
 | tup vs=>simp only [oL,Gv]
 | box cs=>simp only [oL,qC]
 | bblk e s t=>cases t <;> rfl
 | im cs=>simp only [oL,qC]
theorem uB:∀ (st:St U) (k:St U->Option Res),oa st k=k st
 | [],_=>rfl
 | (s,v)::r,k=>by simp only [oa,fw2,uB r]
end
section
variable {P:Program} {U:cr} {N:Nat} {L0:Nat->Nat} {G0:ce} {w0:World} {G:ce} {σ σ':cg U} {a:Act} {w:World} {adv:bJ}
theorem R.tell (r:R P U N L0 G0 w0 G σ a w) (h:∀ t,cW P U G σ' w t (σ' t) (a.tmps.getD t undef)) (hb:∀ t cs',bV<=t->σ' t=.box cs'->∃ cs,σ t=.box cs/\cs'.length=cs.length):R P U N L0 G0 w0 G σ' a w where
 defers:=r.defers
 env:=r.env
 size:=r.size
 small:=r.small
 slots:=h
 imm:=r.imm
 who:=r.who
 step:=r.step
 loc:=r.loc
 lens t cs' ht hσ:=by
  obtain ⟨cs,h1,h2⟩:=hb t cs' ht hσ;rw [h2]; exact r.lens t cs ht h1
 rest t cs' ht hσ o ho:=by
  obtain ⟨cs,h1,h2⟩:=hb t cs' ht hσ;exact r.rest t cs ht h1 o (by rw [<- h2]; exact ho)
theorem R.weaken (r:R P U N L0 G0 w0 G σ a w) (h:∀ s,(σ' s=σ s/\∀ u,ee (σ s)=some u->σ' u=σ u)\/σ' s=.undef\/σ' s=.one .any):R P U N L0 G0 w0 G σ' a w:=by
 refine r.tell (fun t=>?_) (fun t cs' ht hσ=>?_)
 ·rcases h t with ⟨h1,h2⟩ | h1 | h1
  ·rw [h1];have hs:=r.slots t;cases hv:σ t with
   | one c=>
    rw [hv] at hs h2;cases c with
    | ref s off=>
     obtain ⟨⟨cs,k1⟩,k2⟩:=hs;exact ⟨⟨cs,by rw [h2 s rfl]; exact k1⟩,k2⟩
    | sref s=>
     obtain ⟨e,y,q,cap,k1,k2⟩:=hs;exact ⟨e,y,q,cap,by rw [h2 s rfl]; exact k1,k2⟩
    | eref s i=>
     obtain ⟨⟨e,y,q,k1⟩,k2⟩:=hs;exact ⟨⟨e,y,q,by rw [h2 s rfl]; exact k1⟩,k2⟩
    | prow s os=>
     obtain ⟨⟨cs,k1⟩,k2⟩:=hs;exact ⟨⟨cs,by rw [h2 s rfl]; exact k1⟩,k2⟩
    | pcell s q=>
     obtain ⟨⟨cs,k1⟩,k2⟩:=hs;exact ⟨⟨cs,by rw [h2 s rfl]; exact k1⟩,k2⟩
    | aref s q m i=>
     obtain ⟨⟨cs,k1⟩,k2⟩:=hs;exact ⟨⟨cs,by rw [h2 s rfl]; exact k1⟩,k2⟩
    | _=>exact hs
   | _=>rw [hv] at hs; exact hs
  ·rw [h1]; trivial
  ·rw [h1]; trivial
 ·rcases h t with ⟨h1,_⟩ | h1 | h1
  ·exact ⟨cs',by rw [<- h1]; exact hσ,rfl⟩
  ·rw [h1] at hσ; cases hσ
  ·rw [h1] at hσ; cases hσ
theorem lv (s:Nat) (v:AV U.τ) (r:St U) (t:Nat):St.get ((s,v)::r) t=if s=t then v else St.get r t:=by
 simp only [St.get];by_cases h:s=t
 ·subst h; simp
 ·rw [kF h]; simp [h]
theorem HV (t:Nat):∀ (st:St U) (s:Nat),(forget t st).get s=if s=t then .undef else if ee (st.get s)=some t then .one .any else st.get s
 | [],s=>by
  have h1:(forget t ([]:St U)).get s=.undef:=rfl;have h2:St.get ([]:St U) s=.undef:=rfl;rw [h1,h2];simp [ee]
 | (q,v)::r,s=>by
  have ih:=HV t r s;simp only [forget];by_cases hq:q=t
  ·subst hq;rw [Nat.beq_refl,cond_true,ih,lv];by_cases hs:s=q
   ·simp [hs]
   ·simp [hs,Ne.symm hs]
  ·rw [kF hq,cond_false];have tail:∀ v':AV U.τ,(if q=s then v' else (forget t r).get s)=if s=t then .undef else if ee (if q=s then v else St.get r s)=some t then (if q=s then v' else .one .any) else (if q=s then v' else St.get r s):=by
    intro v';by_cases hqs:q=s
    ·subst hqs;simp [hq]
    ·simp only [ac hqs,ih]
   rw [lv];cases hr:ee v with
   | none=>
    simp only [cond_false];rw [lv,tail v];by_cases hqs:q=s
    ·simp [hqs,hr]
    ·simp [hqs]
   | some u=>
    simp only;by_cases hu:u=t
    ·subst hu;rw [Nat.beq_refl,cond_true,lv,tail];by_cases hqs:q=s
     ·simp [hqs,hr]
     ·simp [hqs]
    ·rw [kF hu,cond_false,lv,tail v];by_cases hqs:q=s
     ·simp [hqs,hr,hu]
     ·simp [hqs]
theorem d6.forget {st:St U} (t:Nat) (h:d6 P U N L0 G0 w0 st.get a w):d6 P U N L0 G0 w0 (Go.VI.forget t st).get a w:=by
 obtain ⟨G,r⟩:=h;refine ⟨G,r.weaken fun s=>?_⟩;rw [HV];by_cases hs:s=t
 ·right; left; simp [hs]
 ·simp only [hs,if_false];by_cases hr:ee (st.get s)=some t
  ·right; right; simp [hr]
  ·left
   refine ⟨by simp [hr],fun u hu=>?_⟩;rw [HV];have hut:u≠t:=fun he=>hr (by rw [hu,he])
   have hown:ee (st.get u)=none:=by
    have hsl:=r.slots s;cases hv:st.get s with
    | one c=>
     rw [hv] at hsl hu;cases c with
     | ref s' off=>simp only [ee,Option.some.injEq] at hu; subst hu; obtain ⟨⟨cs,k1⟩,_⟩:=hsl; rw [k1]; rfl
     | sref s'=>simp only [ee,Option.some.injEq] at hu; subst hu; obtain ⟨e,y,q,cap,k1,_⟩:=hsl; rw [k1]; rfl
     | eref s' i=>simp only [ee,Option.some.injEq] at hu; subst hu; obtain ⟨⟨e,y,q,k1⟩,_⟩:=hsl; rw [k1]; rfl
     | prow s' os=>simp only [ee,Option.some.injEq] at hu; subst hu; obtain ⟨⟨cs,k1⟩,_⟩:=hsl; rw [k1]; rfl
     | pcell s' q=>simp only [ee,Option.some.injEq] at hu; subst hu; obtain ⟨⟨cs,k1⟩,_⟩:=hsl; rw [k1]; rfl
     | aref s' q m i=>simp only [ee,Option.some.injEq] at hu; subst hu; obtain ⟨⟨cs,k1⟩,_⟩:=hsl; rw [k1]; rfl
     | _=>simp [ee] at hu
    | _=>rw [hv] at hu; simp [ee] at hu
   simp [hut,hown]
theorem d6.freshen:∀ (ops:List Oper) {st:St U},d6 P U N L0 G0 w0 st.get a w->d6 P U N L0 G0 w0 (Go.VI.freshen ops st).get a w
 | [],st,h=>h
 | o::r,st,h=>by
  show d6 P U N L0 G0 w0 (Go.VI.freshen r (match o.dst with | some d=>cond (st.get d).owner (Go.VI.forget d st) st | none=>st)).get a w
  refine d6.freshen r ?_;cases o.dst with
  | none=>exact h
  | some d=>
   show d6 P U N L0 G0 w0 (cond (st.get d).owner (Go.VI.forget d st) st).get a w;cases (st.get d).owner with
   | true=>exact h.forget d
   | false=>exact h
theorem QF (keep:List Nat):∀ (st:St U) (s:Nat),(sE keep st).get s=if s∈keep\/bV<=s then mP keep (st.get s) else .undef
 | [],s=>by
  have h1:(sE keep ([]:St U)).get s=.undef:=rfl;have h2:St.get ([]:St U) s=.undef:=rfl;rw [h1,h2]; simp [mP,ee]
 | (q,v)::r,s=>by
  have ih:=QF keep r s;simp only [sE];have hk:(gn q keep || Nat.ble bV q)=true↔(q∈keep\/bV<=q):=by
   rw [Bool.or_eq_true,qD,Nat.ble_eq]
  cases hb:(gn q keep || Nat.ble bV q) with
  | true=>
   have:=hk.1 hb;simp only [cond_true];rw [lv,lv,ih];by_cases hqs:q=s
   ·subst hqs; simp [this]
   ·simp [hqs]
  | false=>
   have:¬(q∈keep\/bV<=q):=fun h=>by rw [hk.2 h] at hb; cases hb
   simp only [cond_false];rw [ih,lv];by_cases hqs:q=s
   ·subst hqs; simp [this]
   ·simp [hqs]
theorem R.target (r:R P U N L0 G0 w0 G σ a w) {s u:Nat} (h:ee (σ s)=some u):ee (σ u)=none:=by
 have hsl:=r.slots s;cases hv:σ s with
 | one c=>
  rw [hv] at hsl h;cases c with
  | ref s' off=>simp only [ee,Option.some.injEq] at h; subst h; obtain ⟨⟨cs,k1⟩,_⟩:=hsl; rw [k1]; rfl
  | sref s'=>simp only [ee,Option.some.injEq] at h; subst h; obtain ⟨e,y,q,cap,k1,_⟩:=hsl; rw [k1]; rfl
  | eref s' i=>simp only [ee,Option.some.injEq] at h; subst h; obtain ⟨⟨e,y,q,k1⟩,_⟩:=hsl; rw [k1]; rfl
  | prow s' os=>simp only [ee,Option.some.injEq] at h; subst h; obtain ⟨⟨cs,k1⟩,_⟩:=hsl; rw [k1]; rfl
  | pcell s' q=>simp only [ee,Option.some.injEq] at h; subst h; obtain ⟨⟨cs,k1⟩,_⟩:=hsl; rw [k1]; rfl
  | aref s' q m i=>simp only [ee,Option.some.injEq] at h; subst h; obtain ⟨⟨cs,k1⟩,_⟩:=hsl; rw [k1]; rfl
  | _=>simp [ee] at h
 | _=>rw [hv] at h; simp [ee] at h
theorem d6.settle {st:St U} (keep:List Nat) (h:d6 P U N L0 G0 w0 st.get a w):d6 P U N L0 G0 w0 (Go.VI.settle keep st).get a w:=by
 obtain ⟨G,r⟩:=h;obtain ⟨K,key⟩:∃ K:List Nat,∀ s,(Go.VI.settle keep st).get s=if s∈K\/bV<=s then mP K (st.get s) else .undef:=⟨_,fun s=>QF _ st s⟩
 refine ⟨G,r.weaken fun s=>?_⟩;by_cases hs:s∈K\/bV<=s
 ·cases hr:ee (st.get s) with
  | none=>
   left
   rw [key,ab hs];unfold mP;rw [hr];exact ⟨rfl,fun u hu=>by cases hu⟩
  | some u=>
   cases hb:(gn u K || Nat.ble bV u) with
   | false=>
    right; right
    rw [key,ab hs];unfold mP;rw [hr];simp only [hb,cond_false]
   | true=>
    left
    rw [key s,ab hs];refine ⟨by unfold mP; rw [hr]; simp only [hb,cond_true],fun u' hu'=>?_⟩;injection hu' with hu'; subst hu'
    have hu:u∈K\/bV<=u:=by rw [Bool.or_eq_true,qD,Nat.ble_eq] at hb; exact hb
    rw [key u,ab hu];unfold mP;rw [r.target hr]
 ·right; left; rw [key,ac hs]
theorem PC.loosen {I:Nat->Nat->Prop} {c:CV U.τ} {u:Value} (h:PC P U w I c u) (who:Nat->Option (Nat × Option Nat)) (L:Nat × Option Nat):di P U w I who L c.loosen u:=by
 have main:∀ (e:Nat) (css:List (List (CV U.τ))) (c':CV U.τ),cont c=some (e,css,.tight)->cont c'=some (e,css,.app)->di P U w I who L c' u:=by
  intro e css c' hc hc';obtain ⟨_,h2,h3⟩:=h.slice hc;refine .inr ⟨e,css,hc',h2,?_⟩;rcases h3 with h3 | ⟨h3,_⟩ | ⟨b,off,cap,h4,h5,h6,h7⟩
  ·exact .inl h3
  ·cases h3
  ·exact .inr ⟨b,off,cap,h4,h5,h7,.inl (h6 rfl)⟩
 cases c with
 | sl e xs f=>
  cases f with
  | tight=>exact main e _ _ rfl rfl
  | _=>exact .inl h
 | bs e xs f=>
  cases f with
  | tight=>exact main e _ _ rfl rfl
  | _=>exact .inl h
 | _=>exact .inl h
theorem di.loosen {I:Nat->Nat->Prop} {who:Nat->Option (Nat × Option Nat)} {L:Nat × Option Nat} {c:CV U.τ} {u:Value} (h:di P U w I who L c u):di P U w I who L c.loosen u:=by
 rcases h with h | h
 ·exact h.loosen who L
 ·obtain ⟨e,css,h1,h2⟩:=h;have:c.loosen=c:=by
   cases c with
   | sl e xs f=>cases f <;> first | rfl | (simp [cont] at h1)
   | bs e xs f=>cases f <;> first | rfl | (simp [cont] at h1)
   | _=>rfl
  rw [this];exact .inr ⟨e,css,h1,h2⟩
def XA:AV U.τ->AV U.τ
 | .one c=>.one c.loosen
 | .box cs=>.box (cs.map CV.loosen)
 | v=>v
theorem mH:∀ (st:St U) (s:Nat),(loosen st).get s=XA (st.get s)
 | [],_=>rfl
 | (q,v)::r,s=>by
  have ih:=mH r s;have hl:loosen ((q,v)::r)=(q,XA v)::loosen r:=by cases v <;> rfl
  rw [hl,lv,lv,ih];split <;> rfl
theorem d6.loosen {st:St U} (h:d6 P U N L0 G0 w0 st.get a w):d6 P U N L0 G0 w0 (Go.VI.loosen st).get a w:=by
 obtain ⟨G,r⟩:=h;refine ⟨G,r.tell (fun t=>?_) (fun t cs' ht hσ=>?_)⟩
 ·rw [mH];have hs:=r.slots t;cases hv:st.get t with
  | one c=>
   rw [hv] at hs;cases c with
   | any=>trivial
   | ref s off=>obtain ⟨⟨cs,k1⟩,k2⟩:=hs; exact ⟨⟨cs.map CV.loosen,by rw [mH,k1]; rfl⟩,k2⟩
   | sref s=>obtain ⟨e,y,q,cap,k1,k2⟩:=hs; exact ⟨e,y,q,cap,by rw [mH,k1]; rfl,k2⟩
   | eref s i=>obtain ⟨⟨e,y,q,k1⟩,k2⟩:=hs; exact ⟨⟨e,y,q,by rw [mH,k1]; rfl⟩,k2⟩
   | prow s os=>obtain ⟨⟨cs,k1⟩,k2⟩:=hs; exact ⟨⟨cs.map CV.loosen,by rw [mH,k1]; rfl⟩,k2⟩
   | pcell s q=>obtain ⟨⟨cs,k1⟩,k2⟩:=hs; exact ⟨⟨cs.map CV.loosen,by rw [mH,k1]; rfl⟩,k2⟩
   | aref s q m i=>obtain ⟨⟨cs,k1⟩,k2⟩:=hs; exact ⟨⟨cs.map CV.loosen,by rw [mH,k1]; rfl⟩,k2⟩
   | bool b=>exact hs
   | int k n=>exact hs
   | str s=>exact hs
   | fn f=>exact hs
   | sl e xs f=>
    have:=di.loosen (c:=.sl e xs f) hs;cases f <;> exact this
   | bs e xs f=>
    have:=di.loosen (c:=.bs e xs f) hs;cases f <;> exact this
  | box cs=>
   rw [hv] at hs;obtain ⟨h1,h2⟩:=hs;obtain ⟨c,T,fz,k1,k2,k3,k4⟩:=h2.row;refine ⟨h1,h2.hwho,h2.himm,c,T,fz,k1,by rw [List.length_map]; exact k2,k3,fun i x hi=>?_⟩;rw [List.getElem?_map] at hi;cases hx:cs[i]? with
   | none=>rw [hx] at hi; cases hi
   | some y=>
    rw [hx] at hi; injection hi with hi; subst hi
    obtain ⟨u,hu,hk⟩:=k4 i y hx;exact ⟨u,hu,hk.loosen⟩
  | _=>rw [hv] at hs; exact hs
 ·rw [mH] at hσ;cases hv:st.get t with
  | box cs=>
   rw [hv] at hσ;injection hσ with hσ
   exact ⟨cs,rfl,by rw [<- hσ,List.length_map]⟩
  | _=>rw [hv] at hσ; cases hσ
end
end Go.VI
namespace Go.VI
open Go
section
variable {P:Program} {U:cr} {adv:bJ} {Res:Type} {Φ:gU U}
def qE (kn:St U->Option Res) (ke:Nat->St U->Option Res) (kr:St U->Option Res):Exit->St U->Option Res
 | .normal=>kn
 | .exit id=>ke id
 | .ret=>kr
 | _=>fun _=>none
def Leaves (P:Program) (U:cr) (adv:bJ) (c:Code) (st:St U) (e:Exit) (st':St U):Prop:=
 ∀ {N:Nat} {L0:Nat->Nat} {G0:ce} {w0:World},adv.n<=N->∀ a w,d6 P U N L0 G0 w0 st.get a w->c.wp P (fun e' a' w'=>e'=e/\d6 P U N L0 G0 w0 st'.get a' w') a w
theorem eO3 (hU:iZ P U) (hΦ:jk P U Φ) (hm:P.follows .mixedOrders=true) {id:Nat} {ops:Array Oper} {draw:Bool} {st:St U} {k:St U->Option Res} {out:Res} (h:Ev P Φ adv id ops.toList draw st k=some out) :
  ∃ st',k st'=some out/\Leaves P U adv (.region id ops draw) st .normal st':=by
 unfold Ev at h;rw [DA] at h;cases hc:(draw && !(nM ops.toList 0)) with
 | true=>rw [hc] at h; cases h
 | false=>
  rw [hc,cond_false] at h;obtain ⟨D,st2,h1,h2,h3⟩:=Q3 hΦ _ _ _ _ h;rw [uB] at h2;refine ⟨_,h2,fun {N L0 G0 w0} hN a w hA=>?_⟩;have hA':=hA.freshen ops.toList;have hQ:∀ a w,d6 P U N L0 G0 w0 st2.get a w->(fun (e':Exit) a' w'=>e'=Exit.normal/\d6 P U N L0 G0 w0 (settle (adv.keep.getD id []) st2).get a' w') .normal a w:=fun a w h=>⟨rfl,h.settle _⟩
  cases draw with
  | false=>
   have:=Pa hU (Q:=fun (e':Exit) a' w'=>e'=Exit.normal/\d6 P U N L0 G0 w0 (settle (adv.keep.getD id []) st2).get a' w') hN hQ ops.toList 0 _ D a w (fun j=>by simp) h1 hA';refine wp_region ?_;rw [List.range_eq_range'];simpa using this
  | true=>
   obtain ⟨_,hap⟩:=h3 rfl;have hed:nM ops.toList 0=true:=by cases he:nM ops.toList 0 <;> rw [he] at hc <;> first | rfl | cases hc
   refine wp_region_any hm ?_;have hB:(Region.before ops.toList.toArray)=Region.before ops:=by simp
   have:=fm4 hU (Q:=fun (e':Exit) a' w'=>e'=Exit.normal/\d6 P U N L0 G0 w0 (settle (adv.keep.getD id []) st2).get a' w') hN h1 (fun p m d d' hpm hp hm=>by
    have:=hap p m d d' hpm hp hm;simpa using this) hed hQ ops.size (Array.replicate ops.size false) a { w with drawn:=w.drawn+1 } (by simp) (by simp) (fun m p hmt=>by
     rw [Array.getD_eq_getD_getElem?,Array.getElem?_replicate] at hmt;split at hmt <;> simp at hmt) (by
     have:db (fun m=>(Array.replicate ops.size false).getD m false) D 0 (freshen ops.toList st).get=(freshen ops.toList st).get:=qL D 0 _ (fun m _=>by
      rw [Array.getD_eq_getD_getElem?,Array.getElem?_replicate];split <;> rfl)
     rw [this];obtain ⟨G,r⟩:=hA';exact ⟨G,r.drew⟩)
   simpa using this
def mb (P:Program) (c:Code) (Q:Exit->Act->World->Prop) (a:Act) (w:World):Prop:=
 ∀ (b:Frame) (k:List Item) (cs:List Frame),∃ e a' w',Q e a' w'/\Arrives P (lone (b.at a (.code c::.inLoop c::k)) cs w) b k cs e a' w'
theorem mb.loop {c:Code} {Q:Exit->Act->World->Prop} {a:Act} {w:World} (h:mb P c Q a w):(Code.loop c).wp P Q a w:=
 fun b k cs=>let ⟨e,a',w',hq,harr⟩:=h b k cs; ⟨e,a',w',hq,.of_steps (.one step_loop) harr⟩
theorem mb.round {c:Code} {Q:Exit->Act->World->Prop} {a:Act} {w:World} (h:c.wp P (Exit.then (mb P c Q) Q) a w):mb P c Q a w:=by
 intro b k cs;obtain ⟨e,a₁,w₁,hq,harr⟩:=h b (.inLoop c::k) cs;cases e with
 | normal=>
  obtain ⟨e₂,a₂,w₂,hq₂,harr₂⟩:=hq b k cs;exact ⟨e₂,a₂,w₂,hq₂,.of_steps (Steps.trans harr (.one step_inLoop)) harr₂⟩
 | exit id=>exact ⟨_,a₁,w₁,hq,.pass (x:=.inLoop c) rfl (fun _ _=>.inl (by simp)) harr⟩
 | goto l=>exact ⟨_,a₁,w₁,hq,.pass (x:=.inLoop c) rfl (fun _ _=>.inl (by simp)) harr⟩
 | ret=>exact ⟨_,a₁,w₁,hq,.pass (x:=.inLoop c) rfl (fun _ _=>.inl (by simp)) harr⟩
 | panic ch=>exact ⟨_,a₁,w₁,hq,.pass (x:=.inLoop c) rfl (fun _ _=>.inl (by simp)) harr⟩
 | outgrown=>exact ⟨_,a₁,w₁,hq,.pass (x:=.inLoop c) rfl (fun _ _=>.inl (by simp)) harr⟩
theorem fw3 (hU:iZ P U) (hΦ:jk P U Φ) (hm:P.follows .mixedOrders=true) {n:Nat}:∀ (c:Code) (kn:St U->Option Res) (ke:Nat->St U->Option Res) (kr:St U->Option Res) (st:St U) (out:Res),
  ev P Φ adv n c kn ke kr st=some out->∃ e st',qE kn ke kr e st'=some out/\Leaves P U adv c st e st':=by
 intro c
 induction c with
 | skip=>intro kn ke kr st out h; exact ⟨.normal,st,h,fun hN a w hA=>wp_skip ⟨rfl,hA⟩⟩
 | region id ops draw=>
  intro kn ke kr st out h;obtain ⟨st',h1,h2⟩:=eO3 hU hΦ hm h;exact ⟨.normal,st',h1,h2⟩
 | seq x y ihx ihy=>
  intro kn ke kr st out h;simp only [ev] at h;obtain ⟨e,st1,h1,h2⟩:=ihx _ _ _ _ _ h;have stop:e≠.normal->qE kn ke kr e st1=some out->∃ e st',qE kn ke kr e st'=some out/\Leaves P U adv (.seq x y) st e st':=fun hne hk=>
   ⟨e,st1,hk,fun hN a w hA=>wp_seq (wp_mono (h2 hN a w hA) fun e' a' w' ⟨he,hA'⟩=>by
    subst he;cases e' <;> first | exact absurd rfl hne | exact ⟨rfl,hA'⟩)⟩
  cases e with
  | normal=>
   obtain ⟨e2,st2,h3,h4⟩:=ihy _ _ _ _ _ h1;exact ⟨e2,st2,h3,fun hN a w hA=>wp_seq (wp_mono (h2 hN a w hA) fun e' a' w' ⟨he,hA'⟩=>by
    subst he;exact h4 hN a' w' hA')⟩
  | exit id=>exact stop (by simp) h1
  | ret=>exact stop (by simp) h1
  | _=>cases h1
 | cond c x y ihx ihy=>
  intro kn ke kr st out h;simp only [ev] at h;cases c with
  | tmp t=>
   simp only at h;cases hs:st.get t with
   | one v=>
    cases v with
    | bool b=>
     rw [hs] at h;simp only at h;have hkn:(Am adv t b st).get=st.get:=by
      unfold Am;cases gn 999999 adv.mutb with
      | false=>rfl
      | true=>
       rw [cond_true,BV]; funext q;by_cases hq:q=t
       ·subst hq; simp [upd,hs]
       ·simp [upd,hq]
     have hval:∀ {N:Nat} {L0:Nat->Nat} {G0:ce} {w0:World} {a:Act} {w:World},d6 P U N L0 G0 w0 st.get a w->a.eval (.tmp t)=.bool b:=by
      rintro N L0 G0 w0 a w ⟨G,r⟩
      have h1:=r.slots t;rw [hs] at h1;exact PC.of_bool (by
       rcases h1 with h1 | ⟨_,_,h1,_⟩
       ·exact h1
       ·simp [cont] at h1)
     cases b with
     | true=>
      rw [ab rfl] at h;obtain ⟨e,st',h1,h2⟩:=ihx _ _ _ _ _ h;exact ⟨e,st',h1,fun hN a w hA=>wp_cond_true (hval hA) (h2 hN a w (by rw [hkn]; exact hA))⟩
     | false=>
      rw [ac (by simp)] at h;obtain ⟨e,st',h1,h2⟩:=ihy _ _ _ _ _ h;exact ⟨e,st',h1,fun hN a w hA=>wp_cond_false (hval hA) (h2 hN a w (by rw [hkn]; exact hA))⟩
    | _=>rw [hs] at h; cases h
   | _=>rw [hs] at h; cases h
  | const v=>
   cases v with
   | bool b=>
    cases b with
    | true=>
     obtain ⟨e,st',h1,h2⟩:=ihx _ _ _ _ _ h;exact ⟨e,st',h1,fun hN a w hA=>wp_cond_true rfl (h2 hN a w hA)⟩
    | false=>
     obtain ⟨e,st',h1,h2⟩:=ihy _ _ _ _ _ h;exact ⟨e,st',h1,fun hN a w hA=>wp_cond_false rfl (h2 hN a w hA)⟩
   | _=>cases h
  | _=>cases h
 | block id c ih=>
  intro kn ke kr st out h;simp only [ev] at h;obtain ⟨e,st',h1,h2⟩:=ih _ _ _ _ _ h;cases e with
  | normal=>exact ⟨.normal,st',h1,fun hN a w hA=>wp_block (wp_mono (h2 hN a w hA) fun e' a' w' ⟨he,hA'⟩=>by subst he; exact ⟨rfl,hA'⟩)⟩
  | ret=>exact ⟨.ret,st',h1,fun hN a w hA=>wp_block (wp_mono (h2 hN a w hA) fun e' a' w' ⟨he,hA'⟩=>by subst he; exact ⟨rfl,hA'⟩)⟩
  | exit id'=>
   simp only [qE] at h1;by_cases hid:id'=id
   ·subst hid;rw [Nat.beq_refl,cond_true] at h1;exact ⟨.normal,st',h1,fun hN a w hA=>wp_block (wp_mono (h2 hN a w hA) fun e' a' w' ⟨he,hA'⟩=>by subst he; simp only [Exit.inBlock,if_true]; exact ⟨trivial,hA'⟩)⟩
   ·rw [kF hid,cond_false] at h1;exact ⟨.exit id',st',h1,fun hN a w hA=>wp_block (wp_mono (h2 hN a w hA) fun e' a' w' ⟨he,hA'⟩=>by subst he; simp only [Exit.inBlock,hid,if_false]; exact ⟨trivial,hA'⟩)⟩
  | _=>cases h1
 | loop c ih=>
  intro kn ke kr st out h;simp only [ev] at h;rw [uB] at h;have key:∀ (m:Nat) (st:St U),rO m (fun k=>ev P Φ adv n c k ke kr) st=some out->∃ e st',e≠.normal/\qE kn ke kr e st'=some out/\
    ∀ {N:Nat} {L0:Nat->Nat} {G0:ce} {w0:World},adv.n<=N->∀ a w,d6 P U N L0 G0 w0 st.get a w->mb P c (fun e' a' w'=>e'=e/\d6 P U N L0 G0 w0 st'.get a' w') a w:=by
   intro m
   induction m with
   | zero=>intro st h; cases h
   | succ m ihm=>
    intro st h;simp only [rO] at h;obtain ⟨e,st1,h1,h2⟩:=ih _ _ _ _ _ h;cases e with
    | normal=>
     simp only [qE,uB] at h1;obtain ⟨e2,st2,h3,h4,h5⟩:=ihm _ h1;exact ⟨e2,st2,h3,h4,fun hN a w hA=>mb.round (wp_mono (h2 hN a w hA) fun e' a' w' ⟨he,hA'⟩=>by
      subst he;exact h5 hN a' w' hA'.loosen)⟩
    | exit id=>exact ⟨.exit id,st1,by simp,h1,fun hN a w hA=>mb.round (wp_mono (h2 hN a w hA) fun e' a' w' ⟨he,hA'⟩=>by subst he; exact ⟨rfl,hA'⟩)⟩
    | ret=>exact ⟨.ret,st1,by simp,h1,fun hN a w hA=>mb.round (wp_mono (h2 hN a w hA) fun e' a' w' ⟨he,hA'⟩=>by subst he; exact ⟨rfl,hA'⟩)⟩
    | _=>cases h1
  obtain ⟨e,st',_,h2,h3⟩:=key n _ h;exact ⟨e,st',h2,fun hN a w hA=>(h3 hN a w hA.loosen).loop⟩
 | exit id=>intro kn ke kr st out h; exact ⟨.exit id,st,h,fun hN a w hA=>wp_exit ⟨rfl,hA⟩⟩
 | ret=>intro kn ke kr st out h; exact ⟨.ret,st,h,fun hN a w hA=>wp_ret ⟨rfl,hA⟩⟩
 | label l=>intro kn ke kr st out h; exact ⟨.normal,st,h,fun hN a w hA=>wp_label ⟨rfl,hA⟩⟩
 | _=>intro kn ke kr st out h; cases h
end
end Go.VI
namespace Go.VI
open Go
section
variable {P:Program} {U:cr} {N:Nat} {L0:Nat->Nat} {G0:ce} {w0:World} {G:ce} {σ:cg U} {a:Act} {w:World} {adv:bJ} {Res:Type} {Φ:gU U}
theorem et7 {I:Nat->Nat->Prop} {who:Nat->Option (Nat × Option Nat)} {loc:Nat->Nat × Nat} {as:List (ek U.τ)} {vs:List Value} {j:Nat} (h:fR P U w I who loc as vs j):as.length=vs.length:=by
 induction h with
 | nil j=>rfl
 | val a cs u as us j _ _ ih=>simp [ih]
 | ptr cs as us j _ _ ih=>simp [ih]
theorem fd9 {as:List (ek U.τ)} {vs:List Value} {j:Nat} (h:fR P U w G.I G.who G.loc as vs j):∀ (i:Nat) (σ:cg U),i+as.length<=bV->
  (∀ t,(t < i\/i+as.length<=t)->(t < bV+j\/bV+j+(cU as).length<=t)->cO σ (fm as i j) t=σ t)/\
  (∀ (q:Nat) cs,(cU as)[q]?=some cs->cO σ (fm as i j) (bV+(j+q))=.box cs/\hZ P U w G.I G.who (bV+(j+q)) (G.loc (bV+(j+q))) cs)/\
  (∀ σ':cg U,(∀ (q:Nat) cs,(cU as)[q]?=some cs->σ' (bV+(j+q))=.box cs)->∀ (m:Nat) u,vs[m]?=some u->cW P U G σ' w (i+m) (cO σ (fm as i j) (i+m)) u)/\
  (∀ m,m < as.length->(cO σ (fm as i j) (i+m)).owner=false):=by
 induction h with
 | nil j=>
  intro i σ hi;exact ⟨fun _ _ _=>rfl,fun q cs hq=>by simp [cU] at hq,fun _ _ m u hm=>by simp at hm,fun m hm=>by simp at hm⟩
 | val ag cs u as us j hv hr ih=>
  intro i σ hi;simp only [List.length_cons] at hi;obtain ⟨v,hw,hown,hok⟩:∃ v:AV U.τ,fm (.val ag cs::as) i j=(i,v)::fm as (i+1) j/\v.owner=false/\∀ σ':cg U,cW P U G σ' w i v u:=by
   cases ag with
   | true=>exact ⟨.agg cs,rfl,rfl,fun σ'=>hv⟩
   | false=>
    obtain ⟨c,rfl,hc⟩:=hv;exact ⟨.one c,rfl,rfl,fun σ'=>cW.of_pc hc⟩
  rw [hw];obtain ⟨h1,h2,h3,h4⟩:=ih (i+1) (upd σ i v) (by omega);have hp:cU (.val ag cs::as)=cU as:=rfl;have hat:cO (upd σ i v) (fm as (i+1) j) i=v:=by
   rw [h1 i (.inl (by omega)) (.inl (by omega))];simp [upd]
  simp only [cO,hp];refine ⟨fun t ht ht2=>?_,h2,fun σ' hσ' m x hm=>?_,fun m hm=>?_⟩
  ·simp only [List.length_cons] at ht;rw [h1 t (by omega) ht2];have:t≠i:=by omega
   simp [upd,this]
  ·cases m with
   | zero=>
    simp at hm; subst hm;rw [Nat.add_zero,hat];exact hok σ'
   | succ m=>
    rw [show i+(m+1)=i+1+m by omega];exact h3 σ' hσ' m x (by simpa using hm)
  ·cases m with
   | zero=>exact (show (cO (upd σ i v) (fm as (i+1) j) i).owner=false by rw [hat]; exact hown)
   | succ m=>
    rw [show i+(m+1)=i+1+m by omega];exact h4 m (by simpa using hm)
 | ptr cs as us j hb hr ih=>
  intro i σ hi;simp only [List.length_cons] at hi;have hw:fm (.ptr cs::as) i j=(bV+j,.box cs)::(i,.one (.ref (bV+j) 0))::fm as (i+1) (j+1):=rfl;rw [hw];obtain ⟨h1,h2,h3,h4⟩:=ih (i+1) (upd (upd σ (bV+j) (.box cs)) i (.one (.ref (bV+j) 0))) (by omega);have hp:cU (.ptr cs::as)=cs::cU as:=rfl;simp only [cO,hp];have hat:cO (upd (upd σ (bV+j) (.box cs)) i (.one (.ref (bV+j) 0))) (fm as (i+1) (j+1)) i=.one (.ref (bV+j) 0):=by
   rw [h1 i (.inl (by omega)) (.inl (by omega))];simp [upd]
  have hbx:cO (upd (upd σ (bV+j) (.box cs)) i (.one (.ref (bV+j) 0))) (fm as (i+1) (j+1)) (bV+j)=.box cs:=by
   rw [h1 (bV+j) (.inr (by omega)) (.inl (by omega))];have:bV+j≠i:=by omega
   simp [upd,this]
  refine ⟨fun t ht ht2=>?_,fun q l hq=>?_,fun σ' hσ' m x hm=>?_,fun m hm=>?_⟩
  ·simp only [List.length_cons] at ht ht2;rw [h1 t (by omega) (by omega)];have k1:t≠i:=by omega
   have k2:t≠bV+j:=by omega
   simp [upd,k1,k2]
  ·cases q with
   | zero=>
    simp at hq; subst hq;rw [Nat.add_zero];exact ⟨hbx,hb⟩
   | succ q=>
    rw [show j+(q+1)=j+1+q by omega];exact h2 q l (by simpa using hq)
  ·cases m with
   | zero=>
    simp at hm; subst hm;rw [Nat.add_zero,hat];have:=hσ' 0 cs rfl;rw [Nat.add_zero] at this;exact ⟨⟨cs,this⟩,rfl⟩
   | succ m=>
    rw [show i+(m+1)=i+1+m by omega];exact h3 σ' (fun q l hq=>by have:=hσ' (q+1) l (by simpa using hq); rwa [show j+(q+1)=j+1+q by omega] at this) m x (by simpa using hm)
  ·cases m with
   | zero=>exact (show (cO (upd (upd σ (bV+j) (.box cs)) i (.one (.ref (bV+j) 0))) (fm as (i+1) (j+1)) i).owner=false by rw [hat]; rfl)
   | succ m=>
    rw [show i+(m+1)=i+1+m by omega];exact h4 m (by simpa using hm)
def nN (tmps:Array Value):ResultVar->Sem Value
 | .tmp t=>pure (tmps.getD t undef)
 | .cell x t=>do loadVar t (<- asAddr (tmps.getD x undef))
theorem fe0 (fn:Func) (tmps:Array Value):(results fn tmps).run P w=((fn.results.toList.mapM (nN tmps)).run P w).andThen fun us w'=>.ok (if h:us.toArray.size=1 then us.toArray[0] else .tuple us.toArray) w':=by
 have e:(fun (x:ResultVar)=>(match x with | .tmp t=>pure (tmps.getD t undef) | .cell a t=>do loadVar t (<- asAddr (tmps.getD a undef)):Sem Value))=nN tmps:=by
  funext x; cases x <;> rfl
 have h:results fn tmps=(do
   let vs <- fn.results.mapM (nN tmps)
   pure (if h:vs.size=1 then vs[0] else .tuple vs)):=by
  rw [<- e]; rfl
 rw [h,Array.mapM_eq_mapM_toList];simp only [Sem.run_bind,Sem.run_map];cases (fn.results.toList.mapM (nN tmps)).run P w <;> rfl
theorem fw4 (r:R P U N L0 G0 w0 G σ a w) {st:St U} (hst:st.get=σ) {rv:ResultVar} {ag:Bool} {cs:List (CV U.τ)} (h:ua P rv st=some (ag,cs)) :
  ∃ u,(nN a.tmps rv).run P w=.ok u w/\eG P U w G.I ag cs u:=by
 cases rv with
 | tmp t=>
  simp only [ua] at h;rw [hst] at h;refine ⟨_,rfl,?_⟩;have hs:=r.slots t;cases hv:σ t with
  | box cs'=>rw [hv] at h; simp [gy,cellsOf] at h
  | bblk e y q=>rw [hv] at h; simp [gy,cellsOf] at h
  | one c=>rw [hv] at h hs; exact u7 hs h
  | agg cs'=>rw [hv] at h hs; exact u7 hs h
  | _=>rw [hv] at h; simp [gy,cellsOf] at h
 | cell x t=>
  simp only [ua] at h;cases hx:Nat.ble bV x with
  | true=>rw [hx] at h; cases h
  | false=>
   rw [hx,cond_false,hst] at h;have hxv:x < bV:=by
    rcases Nat.lt_or_ge x bV with h1 | h1
    ·exact h1
    ·rw [Nat.ble_eq_true_of_le h1] at hx; cases hx
   have main:∀ s off,(∃ cs',σ s=.box cs')->a.tmps.getD x undef=.pointer (some ⟨(G.loc s).1,(G.loc s).2+off,none⟩)->
     (match σ s with | .box cs=>cond (Nat.ble 1 (P.cellsOf t)) ((fK P t cs off).bind fun v=>cellsOf v) none | _=>none)=some (ag,cs)->
     ∃ u,(nN a.tmps (.cell x t)).run P w=.ok u w/\eG P U w G.I ag cs u:=by
    rintro s off ⟨cs',hs⟩ hp h
    rw [hs] at h;simp only at h;cases hz:Nat.ble 1 (P.cellsOf t) with
    | false=>rw [hz] at h; cases h
    | true=>
     rw [hz,cond_true] at h;have hz:=Nat.le_of_ble_eq_true hz;cases hpt:fK P t cs' off with
     | none=>rw [hpt] at h; cases h
     | some v=>
      rw [hpt] at h;simp only [aa] at h;have hbx:=r.slots s;rw [hs] at hbx;obtain ⟨k1,u,k2,k3,k4⟩:=Ch (σ:=σ) (G:=G) (w:=w) hpt hz (b:=(G.loc s).1) (base:=(G.loc s).2) (fun j c hj=>by
       obtain ⟨y,hy,hk⟩:=hbx.2.cells j c hj;exact ⟨y,hy,hk.plain⟩)
      refine ⟨u,by simp [nN,hp,asAddr,k2],?_⟩;have hcv:cellsOf v.plain=cellsOf v:=by
       cases v with
       | one c=>cases c <;> first | rfl | (rename_i f; cases f <;> rfl)
       | _=>rfl
      rw [<- hcv] at h;exact u7 (k3 0) h
   have hs:=r.slots x;cases hv:σ x with
   | box cs'=>
    rw [hv] at h hs;exact main x 0 ⟨cs',hv⟩ (hs.1 hxv) h
   | one c=>
    rw [hv] at h hs;cases c with
    | ref s off=>exact main s off hs.1 hs.2 h
    | _=>simp [gy] at h
   | _=>rw [hv] at h; simp [gy] at h
theorem T7 (r:R P U N L0 G0 w0 G σ a w) {st:St U} (hst:st.get=σ):∀ (rs:List ResultVar) (vs:List (Bool × List (CV U.τ))),pp P rs st=some vs->
  ∃ us,(rs.mapM (nN a.tmps)).run P w=.ok us w/\us.length=vs.length/\∀ (j:Nat) ag cs,vs[j]?=some (ag,cs)->∃ u,us[j]?=some u/\eG P U w G.I ag cs u
 | [],vs,h=>by
  simp only [pp,Option.some.injEq] at h;subst h;exact ⟨[],rfl,rfl,fun j ag cs hj=>by simp at hj⟩
 | rv::rs,vs,h=>by
  simp only [pp] at h;cases h1:ua P rv st with
  | none=>rw [h1] at h; cases h
  | some x=>
   cases h2:pp P rs st with
   | none=>rw [h1,h2] at h; cases h
   | some xs=>
    rw [h1,h2] at h;injection h with h; subst h
    obtain ⟨ag,cs⟩:=x;obtain ⟨u,k1,k2⟩:=fw4 r hst h1;obtain ⟨us,k3,k4,k5⟩:=T7 r hst rs xs h2;refine ⟨u::us,?_,by simp [k4],fun j ag' cs' hj=>?_⟩
    ·simp only [List.mapM_cons,Sem.run_bind,k1,k3,Result.andThen_ok,Sem.run_pure]
    ·cases j with
     | zero=>simp at hj; obtain ⟨rfl,rfl⟩:=hj; exact ⟨u,rfl,k2⟩
     | succ j=>simpa using k5 j ag' cs' (by simpa using hj)
theorem JQ {st:St U}:∀ (m i:Nat) (bs:List (List (CV U.τ))),qf st m i=some bs->bs.length=m/\∀ (j:Nat) cs,bs[j]?=some cs->st.get (bV+(i+j))=.box cs
 | 0,i,bs,h=>by
  simp only [qf,Option.some.injEq] at h;subst h;exact ⟨rfl,fun j cs hj=>by simp at hj⟩
 | m+1,i,bs,h=>by
  simp only [qf] at h;split at h
  ·rename_i cs r h1 h2;injection h with h; subst h
   obtain ⟨k1,k2⟩:=JQ m (i+1) r h2;refine ⟨by simp [k1],fun j cs' hj=>?_⟩;cases j with
   | zero=>simp at hj; subst hj; rw [Nat.add_zero]; exact h1
   | succ j=>rw [show i+(j+1)=i+1+j by omega]; exact k2 j cs' (by simpa using hj)
  ·cases h
theorem vV:∀ (as:List (ek U.τ)),mO as=(cU as).length
 | []=>rfl
 | .ptr _::r=>by simp [mO,cU,vV r]
 | .val _ _::r=>by simp [mO,cU,vV r]
theorem YH (r:R P U N L0 G0 w0 G σ a w) {st:St U} (hst:st.get=σ) {fn:Func} {m:Nat} {o:gQ U.τ} (h:so P fn.results.toList m st=some o) :
  (∃ u,(results fn a.tmps).run P w=.ok u w/\jE P U w G.I o.ret u)/\o.boxes.length=m/\∀ (j:Nat) cs,o.boxes[j]?=some cs->σ (bV+j)=.box cs:=by
 unfold so at h;cases h1:pp P fn.results.toList st with
 | none=>rw [h1] at h; cases h
 | some vs=>
  cases h2:qf st m 0 with
  | none=>rw [h1,h2] at h; cases h
  | some bs=>
   rw [h1,h2] at h;injection h with h; subst h
   obtain ⟨us,k1,k2,k3⟩:=T7 r hst _ vs h1;obtain ⟨k4,k5⟩:=JQ m 0 bs h2;have hbox:∀ (j:Nat) cs,bs[j]?=some cs->σ (bV+j)=.box cs:=fun j cs hj=>by
    have:=k5 j cs hj
    rwa [Nat.zero_add,hst] at this
   refine ⟨?_,k4,hbox⟩;have hrun:(results fn a.tmps).run P w=.ok (if h:us.toArray.size=1 then us.toArray[0] else .tuple us.toArray) w:=by
    rw [fe0,k1]; rfl
   have one:∀ x,vs=[x]->∃ u,us=[u]/\eG P U w G.I x.1 x.2 u:=by
    intro x hx;subst hx;obtain ⟨u,g1,g2⟩:=k3 0 x.1 x.2 rfl;refine ⟨u,?_,g2⟩;cases us with
    | nil=>simp at k2
    | cons y ys=>
     simp at k2 g1;rw [k2,g1]
   have tupCase:(∀ x,vs≠[x])->∃ u,(results fn a.tmps).run P w=.ok u w/\jE P U w G.I (.tup vs) u:=by
    intro hne;refine ⟨_,hrun,?_⟩;have:¬us.toArray.size=1:=by
     simp only [List.size_toArray];intro h1;rw [k2] at h1;obtain ⟨x,hx⟩:=List.length_eq_one_iff.1 h1;exact hne x hx
    rw [dif_neg this];exact ⟨us.toArray,rfl,by simpa using k2,fun j ag cs hj=>by
     obtain ⟨u,g1,g2⟩:=k3 j ag cs hj;exact ⟨u,by simpa using g1,g2⟩⟩
   simp only;cases hvs:vs with
   | nil=>rw [hvs] at tupCase; exact tupCase (by simp)
   | cons x xs=>
    cases xs with
    | nil=>
     obtain ⟨u,g1,g2⟩:=one x hvs;subst g1;obtain ⟨ag,cs⟩:=x;cases ag with
     | true=>exact ⟨u,hrun,g2⟩
     | false=>
      obtain ⟨c',g3,g4⟩:=g2;simp only at g3;subst g3;exact ⟨u,hrun,g4⟩
    | cons y ys=>
     have:=tupCase (by rw [hvs]; simp);rw [hvs] at this;have hmk:R9 (x::y::ys)=.tup (x::y::ys):=by
      obtain ⟨ag,cs⟩:=x;cases ag with
      | true=>rfl
      | false=>cases cs with
       | nil=>rfl
       | cons c cs=>cases cs <;> rfl
     rw [hmk];exact this
theorem Jq (hU:iZ P U) (hΦ:jk P U Φ) (hm:P.follows .mixedOrders=true) {n f:Nat} {fn:Func} (hf:P.funcs[f]?=some fn) (hcall:∀ (vs:Array Value) (w:World),(callFunc f vs).run P w=.ok (.enter f vs) w)
  {args:List (ek U.τ)} {k:gQ U.τ->Option Res} {out:Res} (h:uL P Φ adv n fn args k=some out):∃ o,jM P U f args o/\k o=some out:=by
 unfold uL at h;cases hb:fn.body with
 | none=>rw [hb] at h; cases h
 | some c=>
  rw [hb] at h;simp only at h;cases hc:(Nat.ble adv.n fn.ntmps && Nat.ble fn.ntmps bV && Nat.ble args.length fn.ntmps) with
  | false=>rw [hc] at h; cases h
  | true=>
   rw [hc,cond_true,uB] at h;simp only [Bool.and_eq_true] at hc;obtain ⟨⟨hn1,hn2⟩,hn3⟩:=hc;have hn1:=Nat.le_of_ble_eq_true hn1;have hn2:=Nat.le_of_ble_eq_true hn2;have hn3:=Nat.le_of_ble_eq_true hn3;obtain ⟨e,st',h1,h2⟩:=fw3 hU hΦ hm c _ _ _ _ _ h;have hfin:(e=.normal\/e=.ret)/\(match so P fn.results.toList (mO args) st' with | some o=>k o | none=>none)=some out:=by
    cases e with
    | normal=>exact ⟨.inl rfl,h1⟩
    | ret=>exact ⟨.inr rfl,h1⟩
    | _=>cases h1
   obtain ⟨he,hk⟩:=hfin;cases ho:so P fn.results.toList (mO args) st' with
   | none=>rw [ho] at hk; cases hk
   | some o=>
    rw [ho] at hk;refine ⟨o,⟨hcall,fun G0 w vs hargs himm hwho henv=>?_⟩,hk⟩;have hlen:=et7 hargs
    let L0:Nat->Nat:=fun t=>((cU args)[t - bV]?.map List.length).getD 0
    let a0:Act:={ tmps:=vs.toArray++Array.replicate (fn.ntmps - vs.toArray.size) undef,defers:=[] }
    obtain ⟨g1,g2,g3,g4⟩:=fd9 hargs 0 (fun _=>.undef) (by omega);have hget:(St.puts ([]:St U) (fm args 0 0)).get=cO (fun _=>.undef) (fm args 0 0):=by
     rw [Eh]; rfl
    have hbox:∀ t cs,bV<=t->cO (fun _=>.undef) (fm args 0 0) t=.box cs->(cU args)[t - bV]?=some cs:=by
     intro t cs ht hσ;by_cases hlt:t < bV+(cU args).length
     ·have hlt2:t - bV < (cU args).length:=by omega
      obtain ⟨l,hq⟩:∃ l,(cU args)[t - bV]?=some l:=⟨_,List.getElem?_eq_getElem hlt2⟩;have:=(g2 (t - bV) _ hq).1;rw [show bV+(0+(t - bV))=t by omega,hσ] at this;injection this with this
      rw [hq,<- this]
     ·have e1:0+args.length<=t:=by omega
      have e2:bV+0+(cU args).length<=t:=by omega
      rw [g1 t (Or.inr e1) (Or.inr e2)] at hσ;cases hσ
    have r0:R P U fn.ntmps L0 G0 w G0 (cO (fun _=>.undef) (fm args 0 0)) a0 w:=by
     refine ⟨rfl,?_,hn2,fun t=>?_,himm,hwho,.refl G0 w,fun _ _=>rfl,fun t cs ht hσ=>?_,fun _ _ _ _ _ _=>rfl,henv⟩
     ·simp [a0]; omega
     ·by_cases ht:t < args.length
      ·have hv:vs[t]?=some vs[t]:=List.getElem?_eq_getElem (by omega);have:=g3 (cO (fun _=>.undef) (fm args 0 0)) (fun q cs hq=>(g2 q cs hq).1) t _ hv;rw [Nat.zero_add] at this;have hval:a0.tmps.getD t undef=vs[t]:=by
        rw [Array.getD_eq_getD_getElem?,Array.getElem?_append_left (by simp; omega)];simp [hv]
       rw [hval];exact this
      ·by_cases hp:bV<=t/\t < bV+(cU args).length
       ·have hlt2:t - bV < (cU args).length:=by omega
        obtain ⟨l,hq⟩:∃ l,(cU args)[t - bV]?=some l:=⟨_,List.getElem?_eq_getElem hlt2⟩;obtain ⟨k1,k2⟩:=g2 (t - bV) _ hq;rw [show bV+(0+(t - bV))=t by omega] at k1 k2;rw [k1];exact ⟨fun h=>by omega,k2⟩
       ·rw [g1 t (.inr (by omega)) (by omega)]
        trivial
     ·have:=hbox t cs ht hσ;simp [L0,this]
    have hA:d6 P U fn.ntmps L0 G0 w (St.puts ([]:St U) (fm args 0 0)).get a0 w:=by rw [hget]; exact ⟨G0,r0⟩
    refine calls_of_wp hf hb ?_;refine wp_mono (h2 hn1 a0 w hA) fun e' a' w' ⟨he',G,r⟩=>?_
    obtain ⟨⟨u,k1,k2⟩,k3,k4⟩:=YH r rfl ho;have fin:a'.defers=[]/\∃ v,(results fn a'.tmps).run P w'=.ok v w'/\(∃ u G',Ending.returned v=.returned u/\gf G0 w G' w'/\jE P U w' G'.I o.ret u/\o.boxes.length=(cU args).length/\
      (∀ (j:Nat) cs,o.boxes[j]?=some cs->hZ P U w' G'.I G'.who (bV+j) (G0.loc (bV+j)) cs)/\
      (∀ (j:Nat) cs,(cU args)[j]?=some cs->(∃ l,o.boxes[j]?=some l/\l.length=cs.length)/\∀ q,(q < (G0.loc (bV+j)).2\/(G0.loc (bV+j)).2+cs.length<=q)->w'.cell? ⟨(G0.loc (bV+j)).1,q,none⟩=w.cell? ⟨(G0.loc (bV+j)).1,q,none⟩)/\
      (∀ b q,G'.I b q->(w'.cell? ⟨b,q,none⟩).isSome=true)/\(∀ b L,G'.who b=some L->b < w'.heap.size)):=by
     refine ⟨r.defers,u,k1,u,G,rfl,r.step,k2,by rw [k3,vV],fun j cs hj=>?_,fun j cs hj=>?_,r.imm,r.who⟩
     ·have hs:=r.slots (bV+j);rw [k4 j cs hj] at hs;have:=hs.2
      rwa [r.loc _ (by omega)] at this
     ·have hjl:=(List.getElem?_eq_some_iff.1 hj).1;have hjl2:j < o.boxes.length:=by rw [k3,vV]; exact hjl
      have hl:o.boxes[j]?=some (o.boxes[j]'hjl2):=List.getElem?_eq_getElem hjl2;have hσ:=k4 j _ hl;have hln:=r.lens (bV+j) _ (by omega) hσ;have hL:L0 (bV+j)=cs.length:=by simp [L0,hj]
      refine ⟨⟨_,hl,by rw [hln,hL]⟩,fun q hq=>?_⟩;have:=r.rest (bV+j) _ (by omega) hσ q (by rw [r.loc _ (by omega),hln,hL]; exact hq)
      rwa [r.loc _ (by omega)] at this
    subst he';rcases he with rfl | rfl
    ·exact fin
    ·exact fin
end
end Go.VI
namespace Go.VI
open Go
inductive FK where
 | int (k:IntKind)
 | bool
 | str
 | sl (e:Nat)
 | bs (e:Nat)
 | fn
 | any
def FK.den (τ:Nat->Type):FK->Type
 | .int _=>Int
 | .bool=>Bool
 | .str=>at1
 | .sl e=>List (τ e)
 | .bs _=>at1
 | .fn=>Nat
 | .any=>Unit
def gq (τ:Nat->Type):List FK->Type
 | []=>Unit
 | k::r=>k.den τ × gq τ r
def FK.enc {τ:Nat->Type} (m:Bool):(k:FK)->k.den τ->CV τ
 | .int i,n=>.int i n
 | .bool,b=>.bool b
 | .str,s=>.str s
 | .sl e,xs=>.sl e xs (cond m .app .ro)
 | .bs e,s=>.bs e s (cond m .app .ro)
 | .fn,f=>.fn f
 | .any,_=>.any
def hH {τ:Nat->Type} (m:Bool):(ks:List FK)->gq τ ks->List (CV τ)
 | [],_=>[]
 | k::r,x=>k.enc m x.1::hH m r x.2
def uW (m:Bool):Fl->Bool
 | .ro=>!m
 | _=>true
def FK.dec {τ:Nat->Type} (m:Bool):(k:FK)->CV τ->Option (k.den τ)
 | .int i,.int j n=>cond (decide (i=j)) (some n) none
 | .bool,.bool b=>some b
 | .str,.str s=>some s
 | .sl e,.sl e2 xs f=>cond (uW m f) (match Nat.decEq e2 e with | .isTrue h=>some (h ▸ xs) | .isFalse _=>none) none
 | .bs e,.bs e2 s f=>cond (uW m f && Nat.beq e2 e) (some s) none
 | .fn,.fn f=>some f
 | .any,_=>some ()
 | _,_=>none
def kO {α β:Type} (a:Option α) (b:Option β):Option (α × β):=match a with | some x=>(match b with | some y=>some (x,y) | none=>none) | none=>none
theorem qt {α β:Type} {a:Option α} {b:Option β} {r:α × β} (h:kO a b=some r):∃ x y,a=some x/\b=some y/\r=(x,y):=by
 cases a with
 | none=>cases h
 | some x=>
  cases b with
  | none=>cases h
  | some y=>injection h with h; exact ⟨x,y,rfl,rfl,h.symm⟩
def zX {τ:Nat->Type} (m:Bool):(ks:List FK)->List (CV τ)->Option (gq τ ks)
 | []=>fun cs=>match cs with | []=>some () | _=>none
 | k::r=>fun cs=>match cs with | c::cs=>kO (k.dec m c) (zX m r cs) | []=>none
structure Ty (τ:Nat->Type) where
 α:Type
 agg:Bool
 ks:List FK
 to:α->gq τ ks
 of:gq τ ks->α
 ok:∀ y,to (of y)=y
 one:agg=true\/∃ k,ks=[k]
def Ty.enc {τ:Nat->Type} (T:Ty τ) (m:Bool) (x:T.α):List (CV τ):=hH m T.ks (T.to x)
def Ty.dec {τ:Nat->Type} (T:Ty τ) (m:Bool) (cs:List (CV τ)):Option T.α:=match zX m T.ks cs with | some y=>some (T.of y) | none=>none
section
variable {P:Program} {U:cr}
def mh (P:Program) (U:cr) (m:Bool) (c c':CV U.τ):Prop:=
 ∀ w I who L u,(m=false->PC P U w I c u->PC P U w I c' u)/\(m=true->di P U w I who L c u->di P U w I who L c' u)
theorem mh.refl (m:Bool) (c:CV U.τ):mh P U m c c:=fun _ _ _ _ _=>⟨fun _ h=>h,fun _ h=>h⟩
theorem XE {m:Bool} {c c':CV U.τ} {e:Nat} {css:List (List (CV U.τ))} {f:Fl} (hc:cont c=some (e,css,f)) (hc':cont c'=some (e,css,cond m .app .ro)) (hf:uW m f=true):mh P U m c c':=by
 intro w I who L u;refine ⟨fun hm h=>?_,fun hm h=>?_⟩
 ·subst hm;obtain ⟨_,h2,h3⟩:=h.slice hc;rcases h3 with ⟨rfl,rfl⟩ | ⟨_,rfl,p,cap,rfl⟩ | ⟨b,off,cap,rfl,h4,h5,h6⟩
  ·exact .nil _ e .ro hc' (by simp)
  ·exact .emp _ e _ _ hc'
  ·exact PC.of_cont hc' (by simp) h4 (by simp) h2 h6
 ·subst hm;have app:∀ h2:(css.length:Int)<=dt,((css=[]/\u=.slice none 0 0)\/∃ b off cap,u=.slice (some ⟨b,off,none⟩) css.length cap/\css.length<=cap/\iX P U w I b off (P.cellsOf e) css/\(cap=css.length\/(who b=some L/\CW w I b (off+css.length * P.cellsOf e) (off+cap * P.cellsOf e))))->di P U w I who L c' u:=
   fun h2 h3=>.inr ⟨e,css,hc',h2,h3⟩
  rcases h with h | ⟨e1,css1,k1,k2,k3⟩
  ·obtain ⟨hne,h2,h3⟩:=h.slice hc;have hft:f=.tight:=by
    cases f with
    | ro=>cases hf
    | tight=>rfl
    | app=>exact absurd rfl hne
   refine app h2 ?_;rcases h3 with h3 | ⟨h3,_⟩ | ⟨b,off,cap,h4,h5,h6,h7⟩
   ·exact .inl h3
   ·rw [hft] at h3; cases h3
   ·exact .inr ⟨b,off,cap,h4,h5,h7,.inl (h6 hft)⟩
  ·rw [hc] at k1;simp only [Option.some.injEq,Prod.mk.injEq] at k1;obtain ⟨rfl,rfl,_⟩:=k1;exact app k2 k3
theorem FK.dec_le {m:Bool}:∀ (k:FK) (c:CV U.τ) (x:k.den U.τ),k.dec m c=some x->mh P U m c (k.enc m x):=by
 intro k c x h;cases k with
 | int i=>
  cases c with
  | int j n=>
   simp only [FK.dec] at h;cases hd:decide (i=j) with
   | false=>rw [hd] at h; cases h
   | true=>
    rw [hd] at h;injection h with h; subst h
    have:=of_decide_eq_true hd;subst this;exact mh.refl _ _
  | _=>cases h
 | bool=>cases c with
  | bool b=>injection h with h; subst h; exact mh.refl _ _
  | _=>cases h
 | str=>cases c with
  | str s=>injection h with h; subst h; exact mh.refl _ _
  | _=>cases h
 | fn=>cases c with
  | fn s=>injection h with h; subst h; exact mh.refl _ _
  | _=>cases h
 | any=>exact fun w I who L u=>⟨fun _ h=>.any _ h.one1,fun _ h=>.inl (.any _ h.one1)⟩
 | sl e=>cases c with
  | sl e2 xs f=>
   simp only [FK.dec] at h;cases hf:uW m f with
   | false=>rw [hf] at h; cases h
   | true=>
    rw [hf,cond_true] at h;cases hd:Nat.decEq e2 e with
    | isFalse _=>rw [hd] at h; cases h
    | isTrue he=>
     rw [hd] at h;subst he;injection h with h; subst h
     exact XE (e:=e2) (css:=xs.map (U.enc e2)) (f:=f) rfl rfl hf
  | _=>cases h
 | bs e=>cases c with
  | bs e2 s f=>
   simp only [FK.dec] at h;cases hf:(uW m f && Nat.beq e2 e) with
   | false=>rw [hf] at h; cases h
   | true=>
    rw [hf,cond_true] at h;simp only [Bool.and_eq_true] at hf;have he:=Nat.eq_of_beq_eq_true hf.2;subst he;injection h with h; subst h
    exact XE (e:=e2) (css:=s.map fun b=>[.int .u8 b.toNat]) (f:=f) rfl rfl hf.1
  | _=>cases h
def rK (P:Program) (U:cr) (m:Bool) (cs cs':List (CV U.τ)):Prop:=
 cs'.length=cs.length/\∀ (j:Nat) c c',cs[j]?=some c->cs'[j]?=some c'->mh P U m c c'
theorem Tt {m:Bool}:∀ (ks:List FK) (cs:List (CV U.τ)) (x:gq U.τ ks),zX m ks cs=some x->rK P U m cs (hH m ks x)
 | [],[],x,h=>⟨rfl,fun j c c' h=>by have h3:(none:Option (CV U.τ))=some c:=h; cases h3⟩
 | k::r,c::cs,x,h=>by
  obtain ⟨a,b,h1,h2,rfl⟩:=qt h
  ·skip
   obtain ⟨g1,g2⟩:=Tt r cs b h2;refine ⟨congrArg Nat.succ g1,fun j d d' hd hd'=>?_⟩;cases j with
   | zero=>
    have e1:c=d:=by injection hd
    have e2:k.enc m a=d':=by injection hd'
    subst e1; subst e2; exact FK.dec_le k c a h1
   | succ j=>exact g2 j d d' hd hd'
 | [],_::_,x,h=>by cases h
 | k::r,[],x,h=>by cases h
theorem Ty.dec_le (T:Ty U.τ) {m:Bool} {cs:List (CV U.τ)} {x:T.α} (h:T.dec m cs=some x):rK P U m cs (T.enc m x):=by
 unfold Ty.dec at h;cases hd:zX m T.ks cs with
 | none=>rw [hd] at h; cases h
 | some y=>
  rw [hd] at h;injection h with h; subst h
  unfold Ty.enc;rw [T.ok];exact Tt _ _ _ hd
theorem Ty.univ (T:Ty U.τ) {cs:List (CV U.τ)} {x:T.α} (h:T.dec false cs=some x):pi P U cs (T.enc false x):=by
 obtain ⟨h1,h2⟩:=T.dec_le (P:=P) h;exact ⟨h1,fun j c c' hc hc' w I u hp=>(h2 j c c' hc hc' w I (fun _=>none) (0,none) u).1 rfl hp⟩
structure bT (τ:Nat->Type) where
 ps:List (Bool × Ty τ)
 rs:List (Ty τ)
def ql {τ:Nat->Type}:List (Bool × Ty τ)->Type
 | []=>Unit
 | p::r=>p.2.α × ql r
def lQ {τ:Nat->Type}:List (Ty τ)->Type
 | []=>Unit
 | T::r=>T.α × lQ r
def nT {τ:Nat->Type}:List (Bool × Ty τ)->List (Ty τ)
 | []=>[]
 | (true,T)::r=>T::nT r
 | (false,_)::r=>nT r
abbrev bT.A {τ:Nat->Type} (s:bT τ):Type:=ql s.ps
abbrev bT.B {τ:Nat->Type} (s:bT τ):Type:=lQ s.rs × lQ (nT s.ps)
def Fm {τ:Nat->Type} (p:Bool × Ty τ) (x:p.2.α):ek τ:=cond p.1 (.ptr (p.2.enc true x)) (.val p.2.agg (p.2.enc false x))
def iM {τ:Nat->Type}:(ps:List (Bool × Ty τ))->ql ps->List (ek τ)
 | [],_=>[]
 | p::r,x=>Fm p x.1::iM r x.2
def Vy {τ:Nat->Type} (p:Bool × Ty τ) (a:ek τ):Option p.2.α:=
 match p.1,a with
 | true,.ptr cs=>p.2.dec true cs
 | false,.val ag cs=>cond (ag==p.2.agg) (p.2.dec false cs) none
 | _,_=>none
def uY {τ:Nat->Type}:(ps:List (Bool × Ty τ))->List (ek τ)->Option (ql ps)
 | []=>fun as=>match as with | []=>some () | _=>none
 | p::r=>fun as=>match as with | a::as=>kO (Vy p a) (uY r as) | []=>none
def qy {τ:Nat->Type}:(l:List (Ty τ))->lQ l->List (Bool × List (CV τ))
 | [],_=>[]
 | T::r,x=>(T.agg,T.enc false x.1)::qy r x.2
def wN {τ:Nat->Type}:(l:List (Ty τ))->List (Bool × List (CV τ))->Option (lQ l)
 | []=>fun cs=>match cs with | []=>some () | _=>none
 | T::r=>fun cs=>match cs with | c::cs=>kO (cond (c.1==T.agg) (T.dec false c.2) none) (wN r cs) | []=>none
def pz {τ:Nat->Type}:(l:List (Ty τ))->lQ l->List (List (CV τ))
 | [],_=>[]
 | T::r,x=>T.enc true x.1::pz r x.2
def CC {τ:Nat->Type}:(l:List (Ty τ))->List (List (CV τ))->Option (lQ l)
 | []=>fun cs=>match cs with | []=>some () | _=>none
 | T::r=>fun cs=>match cs with | c::cs=>kO (T.dec true c) (CC r cs) | []=>none
def MN {τ:Nat->Type}:AV τ->Option (List (Bool × List (CV τ)))
 | .one c=>some [(false,[c])]
 | .agg cs=>some [(true,cs)]
 | .tup []=>some []
 | .tup (x::y::r)=>some (x::y::r)
 | _=>none
def yq {τ:Nat->Type} (vs:List (Bool × List (CV τ))):AV τ:=
 match vs with
 | [(true,cs)]=>.agg cs
 | [(false,[c])]=>.one c
 | vs=>.tup vs
def bT.out {τ:Nat->Type} (s:bT τ) (r:s.B):gQ τ:=⟨yq (qy s.rs r.1),pz (nT s.ps) r.2⟩
def bT.decOut {τ:Nat->Type} (s:bT τ) (o:gQ τ):Option s.B:=
 match MN o.ret with
 | some vs=>
  kO (wN s.rs vs) (CC (nT s.ps) o.boxes)
 | none=>none
structure bG (U:cr) where
 f:Nat
 sig:bT U.τ
 G:sig.A->Option sig.B
def uI:List (Nat × List (CV U.τ))->Nat->Option (List (CV U.τ))
 | [],_=>none
 | (g,cs)::r,f=>cond (Nat.beq f g) (some cs) (uI r f)
theorem LH:∀ (l:List (Nat × List (CV U.τ))) (f:Nat) (cs:List (CV U.τ)),uI l f=some cs->(f,cs)∈l
 | [],f,cs,h=>by cases h
 | (g,ds)::r,f,cs,h=>by
  unfold uI at h;cases hb:Nat.beq f g with
  | true=>rw [hb] at h; injection h with h; rw [<- h,Nat.eq_of_beq_eq_true hb]; exact List.mem_cons_self ..
  | false=>rw [hb] at h; exact List.mem_cons_of_mem _ (LH r f cs h)
def tab:List (bG U)->gU U
 | []=>fun _ f as k=>match uI U.news f with
  | some cs=>match as with
   | []=>k ⟨.box cs,[]⟩
   | _=>none
  | none=>none
 | e::es=>fun R f as k=>cond (Nat.beq f e.f) (match uY e.sig.ps as with | some x=>(e.G x).bind fun r=>k (e.sig.out r) | none=>none) (tab es R f as k)
def gg (P:Program) (U:cr) (e:bG U):Prop:=∀ x r,e.G x=some r->jM P U e.f (iM e.sig.ps x) (e.sig.out r)
def bK (P:Program) (es:List (bG U)) (adv:bJ) (n:Nat) (fn:Func) (s:bT U.τ) (x:s.A):Option s.B:=uL P (tab es) adv n fn (iM s.ps x) s.decOut
theorem eG.le {w:World} {I:Nat->Nat->Prop} {a:Bool} {cs cs':List (CV U.τ)} {u:Value} (h:eG P U w I a cs u) (hl:rK P U false cs cs'):eG P U w I a cs' u:=by
 cases a with
 | true=>
  obtain ⟨us,h1,h2,h3⟩:=h;refine ⟨us,h1,by rw [h2,hl.1],fun j c hc=>?_⟩;have hj:j < cs.length:=by rw [<- hl.1]; exact (List.getElem?_eq_some_iff.1 hc).1
  have hd:cs[j]?=some (cs[j]'hj):=List.getElem?_eq_getElem hj;obtain ⟨x,k1,k2⟩:=h3 j _ hd;exact ⟨x,k1,(hl.2 j _ c hd hc w I (fun _=>none) (0,none) x).1 rfl k2⟩
 | false=>
  obtain ⟨c,rfl,h2⟩:=h
  match cs',hl with
  | [c'],hl=>exact ⟨c',rfl,(hl.2 0 c c' rfl rfl w I (fun _=>none) (0,none) u).1 rfl h2⟩
  | [],hl=>exact absurd hl.1 (by simp)
  | _::_::_,hl=>exact absurd hl.1 (by simp)
theorem hZ.le {w:World} {I:Nat->Nat->Prop} {who:Nat->Option (Nat × Option Nat)} {s:Nat} {p:Nat × Nat} {cs cs':List (CV U.τ)} (h:hZ P U w I who s p cs) (hl:rK P U true cs cs'):hZ P U w I who s p cs':=by
 refine ⟨h.hwho,h.himm,?_⟩;obtain ⟨c,T,fz,h1,h2,h3,h4⟩:=h.row;refine ⟨c,T,fz,h1,by rw [hl.1]; exact h2,h3,fun i x hx=>?_⟩;have hj:i < cs.length:=by rw [<- hl.1]; exact (List.getElem?_eq_some_iff.1 hx).1
 have hd:cs[i]?=some (cs[i]'hj):=List.getElem?_eq_getElem hj;obtain ⟨u,k1,k2⟩:=h4 i _ hd;exact ⟨u,k1,(hl.2 i _ x hd hx w I who (s,some i) u).2 rfl k2⟩
theorem GT {w:World} {I:Nat->Nat->Prop} {who:Nat->Option (Nat × Option Nat)} {loc:Nat->Nat × Nat}:∀ (ps:List (Bool × Ty U.τ)) (as:List (ek U.τ)) (us:List Value) (j:Nat) (x:ql ps),uY ps as=some x->fR P U w I who loc as us j->fR P U w I who loc (iM ps x) us j
 | [],[],us,j,x,h,r=>r
 | p::ps,a::as,us,j,x,h,r=>by
  obtain ⟨y,z,h1,h2,rfl⟩:=qt h
  ·skip
   obtain ⟨b,T⟩:=p;cases r with
   | val ag cs u as us j k1 k2=>
    cases b with
    | true=>cases h1
    | false=>
     have e2:Vy (false,T) (.val ag cs)=cond (ag==T.agg) (T.dec false cs) none:=rfl;rw [e2] at h1;cases he:(ag==T.agg) with
     | false=>rw [he] at h1; cases h1
     | true=>
      rw [he,cond_true] at h1;have he:=eq_of_beq he;subst he;exact .val _ _ _ _ _ _ (k1.le (T.dec_le h1)) (GT ps as us j z h2 k2)
   | ptr cs as us j k1 k2=>
    cases b with
    | false=>cases h1
    | true=>exact .ptr _ _ _ _ (k1.le (T.dec_le h1)) (GT ps as us (j+1) z h2 k2)
 | [],_::_,us,j,x,h,r=>by cases h
 | _::_,[],us,j,x,h,r=>by cases h
theorem Ll (P:Program):∀ (ps:List (Bool × Ty U.τ)) (as:List (ek U.τ)) (x:ql ps),uY ps as=some x->(cU (iM ps x)).map List.length=(cU as).map List.length
 | [],[],x,h=>rfl
 | p::ps,a::as,x,h=>by
  obtain ⟨y,z,h1,h2,rfl⟩:=qt h
  ·skip
   have ih:=Ll P ps as z h2;obtain ⟨b,T⟩:=p;cases a with
   | val ag cs=>
    cases b with
    | true=>cases h1
    | false=>exact ih
   | ptr cs=>
    cases b with
    | false=>cases h1
    | true=>
     have k:=(T.dec_le (P:=P) h1).1;show (cU (Fm (true,T) y::iM ps z)).map List.length=_;simp only [Fm,cond_true,cU,List.map_cons];rw [ih];congr 1
 | [],_::_,x,h=>by cases h
 | _::_,[],x,h=>by cases h
theorem mJ (hU:iZ P U):∀ (es:List (bG U)),(∀ e∈es,gg P U e)->jk P U (tab es)
 | [],_=>fun R f as k r h=>by
  unfold tab at h;cases hn:uI U.news f with
  | none=>rw [hn] at h; cases h
  | some cs=>
   rw [hn] at h;cases as with
   | nil=>exact ⟨_,.inr (hU.news f cs (LH _ _ _ hn)),h⟩
   | cons a as=>simp at h
 | e::es,hes=>fun R f as k r h=>by
  have eq:tab (e::es) R f as k=cond (Nat.beq f e.f) (match uY e.sig.ps as with | some x=>(e.G x).bind fun r=>k (e.sig.out r) | none=>none) (tab es R f as k):=rfl
  rw [eq] at h;clear eq;cases hf:Nat.beq f e.f with
  | false=>
   rw [hf] at h;exact mJ hU es (fun e he=>hes e (List.mem_cons_of_mem _ he)) R f as k r h
  | true=>
   rw [hf,cond_true] at h;have hf:=Nat.eq_of_beq_eq_true hf;subst hf;split at h
   ·rename_i x hx;cases hG:e.G x with
    | none=>rw [hG] at h; cases h
    | some y=>
     rw [hG] at h;obtain ⟨c1,c2⟩:=hes e (List.mem_cons_self ..) x y hG;have hp:=Ll P e.sig.ps as x hx;refine ⟨e.sig.out y,.inl ⟨c1,fun G0 w vs ha hi hw henv=>?_⟩,h⟩;refine (c2 G0 w vs (GT _ _ _ _ _ hx ha) hi hw henv).mono fun e' w' hh=>?_
     obtain ⟨u,G',a1,a2,a3,a4,a5,a6,a7,a8⟩:=hh;have hlen:(cU (iM e.sig.ps x)).length=(cU as).length:=by simpa using congrArg List.length hp
     refine ⟨u,G',a1,a2,a3,a4.trans hlen,a5,fun j cs hj=>?_,a7,a8⟩;have hj2:j < (cU (iM e.sig.ps x)).length:=by rw [hlen]; exact (List.getElem?_eq_some_iff.1 hj).1
     have hd:(cU (iM e.sig.ps x))[j]?=some ((cU (iM e.sig.ps x))[j]'hj2):=List.getElem?_eq_getElem hj2;have hl:((cU (iM e.sig.ps x))[j]'hj2).length=cs.length:=by
      have:=congrArg (fun l=>l[j]?) hp;simp only [List.getElem?_map,hd,hj,Option.map_some,Option.some.injEq] at this;exact this
     have:=a6 j _ hd;rw [hl] at this;exact this
   ·cases h
theorem JJ:∀ (l:List (Ty U.τ)) (vs:List (Bool × List (CV U.τ))) (x:lQ l),wN l vs=some x->
  (qy l x).length=vs.length/\∀ (j:Nat) a cs a' cs',vs[j]?=some (a,cs)->(qy l x)[j]?=some (a',cs')->a'=a/\rK P U false cs cs'
 | [],[],x,h=>⟨rfl,fun j a cs a' cs' h _=>by have h3:(none:Option (Bool × List (CV U.τ)))=some (a,cs):=h; cases h3⟩
 | T::l,c::vs,x,h=>by
  obtain ⟨y,z,h1,h2,rfl⟩:=qt h
  ·skip
   obtain ⟨g1,g2⟩:=JJ l vs z h2;refine ⟨congrArg Nat.succ g1,fun j a cs a' cs' hd hd'=>?_⟩;cases j with
   | zero=>
    cases he:(c.1==T.agg) with
    | false=>rw [he] at h1; cases h1
    | true=>
     rw [he,cond_true] at h1;have e1:c=(a,cs):=by injection hd
     have e2:(T.agg,T.enc false y)=(a',cs'):=by injection hd'
     injection e2 with e2 e3
     subst e1; subst e2; subst e3;exact ⟨(eq_of_beq he).symm,T.dec_le h1⟩
   | succ j=>exact g2 j a cs a' cs' hd hd'
 | [],_::_,x,h=>by cases h
 | _::_,[],x,h=>by cases h
theorem K3:∀ (l:List (Ty U.τ)) (vs:List (List (CV U.τ))) (x:lQ l),CC l vs=some x->
  (pz l x).length=vs.length/\∀ (j:Nat) cs cs',vs[j]?=some cs->(pz l x)[j]?=some cs'->rK P U true cs cs'
 | [],[],x,h=>⟨rfl,fun j cs cs' h _=>by have h3:(none:Option (List (CV U.τ)))=some cs:=h; cases h3⟩
 | T::l,c::vs,x,h=>by
  obtain ⟨y,z,h1,h2,rfl⟩:=qt h
  ·skip
   obtain ⟨g1,g2⟩:=K3 l vs z h2;refine ⟨congrArg Nat.succ g1,fun j cs cs' hd hd'=>?_⟩;cases j with
   | zero=>
    have e1:c=cs:=by injection hd
    have e2:T.enc true y=cs':=by injection hd'
    subst e1; subst e2;exact T.dec_le h1
   | succ j=>exact g2 j cs cs' hd hd'
 | [],_::_,x,h=>by cases h
 | _::_,[],x,h=>by cases h
theorem fw6 (x y:Bool × List (CV U.τ)) (r:List (Bool × List (CV U.τ))):yq (x::y::r)=.tup (x::y::r):=by
 obtain ⟨a,c⟩:=x;cases a with
 | true=>rfl
 | false=>
  match c with
  | []=>rfl
  | [_]=>rfl
  | _::_::_=>rfl
theorem fI0 {w:World} {I:Nat->Nat->Prop} {v:AV U.τ} {u:Value} (h:jE P U w I v u) {vs:List (Bool × List (CV U.τ))} (hv:MN v=some vs) (l:List (Ty U.τ)) (x:lQ l) (hx:wN l vs=some x):jE P U w I (yq (qy l x)) u:=by
 obtain ⟨g1,g2⟩:=JJ (P:=P) l vs x hx;generalize hq:qy l x=qs at *;cases v with
 | one c=>
  injection hv with hv; subst hv
  match qs,g1 with
  | [(a,cs)],_=>
   obtain ⟨rfl,k2⟩:=g2 0 false [c] a cs rfl rfl
   match cs,k2 with
   | [c'],k2=>exact (k2.2 0 c c' rfl rfl w I (fun _=>none) (0,none) u).1 rfl h
   | [],k2=>exact absurd k2.1 (by simp)
   | _::_::_,k2=>exact absurd k2.1 (by simp)
 | agg cs0=>
  injection hv with hv; subst hv
  match qs,g1 with
  | [(a,cs)],_=>
   obtain ⟨rfl,k2⟩:=g2 0 true cs0 a cs rfl rfl;exact eG.le (a:=true) h k2
 | tup ts=>
  have hr:ts=vs/\yq qs=.tup qs:=by
   match ts,hv with
   | [],hv=>injection hv with hv; subst hv; match qs,g1 with | [],_=>exact ⟨rfl,rfl⟩
   | _::_::_,hv=>injection hv with hv; subst hv; match qs,g1 with | _::_::_,_=>exact ⟨rfl,fw6 _ _ _⟩
  obtain ⟨rfl,hr⟩:=hr;rw [hr];obtain ⟨us,k1,k2,k3⟩:=h;refine ⟨us,k1,by rw [k2,g1],fun j a cs hj=>?_⟩;have hjl:j < ts.length:=by rw [<- g1]; exact (List.getElem?_eq_some_iff.1 hj).1
  have hd:ts[j]?=some ((ts[j]'hjl).1,(ts[j]'hjl).2):=List.getElem?_eq_getElem hjl;obtain ⟨y,m1,m2⟩:=k3 j _ _ hd;obtain ⟨rfl,n2⟩:=g2 j _ _ a cs hd hj;exact ⟨y,m1,m2.le n2⟩
 | _=>cases hv
theorem Wx {f:Nat} {as:List (ek U.τ)} {o:gQ U.τ} (h:jM P U f as o) {s:bT U.τ} {r:s.B} (hr:s.decOut o=some r):jM P U f as (s.out r):=by
 obtain ⟨h1,h2⟩:=h;unfold bT.decOut at hr;split at hr
 ·rename_i vs hv;obtain ⟨x,y,hx,hy,rfl⟩:=qt hr
  ·skip
   obtain ⟨b1,b2⟩:=K3 (P:=P) _ _ _ hy;refine ⟨h1,fun G0 w us ha hi hw henv=>(h2 G0 w us ha hi hw henv).mono fun e w' hh=>?_⟩;obtain ⟨u,G',a1,a2,a3,a4,a5,a6,a7,a8⟩:=hh;refine ⟨u,G',a1,a2,fI0 a3 hv _ _ hx,b1.trans a4,fun j cs hj=>?_,fun j cs hj=>?_,a7,a8⟩
   ·have hjl:j < o.boxes.length:=by rw [<- b1]; exact (List.getElem?_eq_some_iff.1 hj).1
    have hd:o.boxes[j]?=some (o.boxes[j]'hjl):=List.getElem?_eq_getElem hjl;exact (a5 j _ hd).le (b2 j _ _ hd hj)
   ·obtain ⟨⟨l,k1,k2⟩,k3⟩:=a6 j cs hj;have hjl:j < (pz (nT s.ps) y).length:=by rw [b1]; exact (List.getElem?_eq_some_iff.1 k1).1
    have hd:(pz (nT s.ps) y)[j]?=some ((pz (nT s.ps) y)[j]'hjl):=List.getElem?_eq_getElem hjl;exact ⟨⟨_,hd,by rw [(b2 j _ _ k1 hd).1,k2]⟩,k3⟩
 ·cases hr
theorem fI1 (hU:iZ P U) (hm:P.follows .mixedOrders=true) {es:List (bG U)} (hes:∀ e∈es,gg P U e) {adv:bJ} {n f:Nat} {fn:Func} (hf:P.funcs[f]?=some fn)
  (hcall:∀ vs w,(callFunc f vs).run P w=.ok (.enter f vs) w) (s:bT U.τ):gg P U ⟨f,s,bK P es adv n fn s⟩:=by
 intro x r h;obtain ⟨o,h1,h2⟩:=Jq hU (mJ hU es hes) hm hf hcall h;exact Wx h1 h2
def inl (P:Program) (f0:Nat) (Φ':gU U) (adv:bJ) (n:Nat) (fn:Func) (Φ:gU U):gU U:=fun R f as k=>cond (Nat.beq f f0) (uL P Φ' adv n fn as k) (Φ R f as k)
theorem EL (hU:iZ P U) (hm:P.follows .mixedOrders=true) {Φ Φ':gU U} (h:jk P U Φ) (h':jk P U Φ') {adv:bJ} {n f0:Nat} {fn:Func} (hf:P.funcs[f0]?=some fn)
  (hcall:∀ vs w,(callFunc f0 vs).run P w=.ok (.enter f0 vs) w):jk P U (inl P f0 Φ' adv n fn Φ):=by
 intro R f as k r hr;unfold inl at hr;cases hb:Nat.beq f f0 with
 | false=>rw [hb] at hr; exact h R f as k r hr
 | true=>
  rw [hb,cond_true] at hr;have:=Nat.eq_of_beq_eq_true hb;subst this;obtain ⟨o,h1,h2⟩:=Jq hU h' hm hf hcall hr;exact ⟨o,.inl h1,h2⟩
def pM (P:Program) (Φ:gU U) (adv:bJ) (n:Nat) (fn:Func) (s:bT U.τ) (x:s.A):Option s.B:=uL P Φ adv n fn (iM s.ps x) s.decOut
theorem Ii (hU:iZ P U) (hm:P.follows .mixedOrders=true) {Φ:gU U} (hΦ:jk P U Φ) {adv:bJ} {n f:Nat} {fn:Func} (hf:P.funcs[f]?=some fn)
  (hcall:∀ vs w,(callFunc f vs).run P w=.ok (.enter f vs) w) (s:bT U.τ):gg P U ⟨f,s,pM P Φ adv n fn s⟩:=by
 intro x r h;obtain ⟨o,h1,h2⟩:=Jq hU hΦ hm hf hcall h;exact Wx h1 h2
end
end Go.VI
namespace Go.VI
open Go Go.RowKit Go.ChangeShapes Go.WideShapes
def uX {τ:Nat->Type}:(a b:List FK)->gq τ a->gq τ b->gq τ (a++b)
 | [],_,_,y=>y
 | _::a,b,x,y=>(x.1,uX a b x.2 y)
theorem Im {τ:Nat->Type} (m:Bool):∀ (a b:List FK) (x:gq τ a) (y:gq τ b),hH m (a++b) (uX a b x y)=hH m a x++hH m b y
 | [],_,_,y=>rfl
 | k::a,b,x,y=>congrArg (k.enc m x.1::·) (Im m a b x.2 y)
section
variable {P:Program} {U:cr}
def g41 (P:Program) (g:∀ e,U.τ e->Prop):(k:FK)->k.den U.τ->Prop
 | .int i,n=>i.has n
 | .bool,_=>True
 | .str,s=>s.length<=140737488351232
 | .sl e,xs=>xs.length * P.bytesOf e<=140737488351232/\∀ x,List.Mem (α:=U.τ e) x xs->g e x
 | .bs e,s=>s.length * P.bytesOf e<=140737488351232
 | .fn,_=>True
 | .any,_=>True
def mE (P:Program) (g:∀ e,U.τ e->Prop):(ks:List FK)->gq U.τ ks->Prop
 | [],_=>True
 | k::r,x=>g41 P g k x.1/\mE P g r x.2
theorem Gx {g:∀ e,U.τ e->Prop}:∀ (a b:List FK) (x:gq U.τ a) (y:gq U.τ b),mE P g a x->mE P g b y->mE P g (a++b) (uX a b x y)
 | [],_,_,y,_,h=>h
 | k::a,b,x,y,hx,hy=>⟨hx.1,Gx a b x.2 y hx.2 hy⟩
def IW (w:World) (b o:Nat):Prop:=(w.cell? ⟨b,o,none⟩).isSome=true
def jK (P:Program) (U:cr) (w:World) (l:List (CV U.τ)) (cs:List Value):Prop:=
 cs.length=l.length/\∀ (j:Nat) c u,l[j]?=some c->cs[j]?=some u->PC P U w (IW w) c u
theorem jK.append {w:World} {a b:List (CV U.τ)} {x y:List Value} (h:jK P U w a x) (k:jK P U w b y):jK P U w (a++b) (x++y):=by
 refine ⟨by simp [h.1,k.1],fun j c u hc hu=>?_⟩;rw [List.getElem?_append] at hc hu;rw [h.1] at hu;split at hc
 ·rename_i hlt;rw [ab hlt] at hu;exact h.2 j c u hc hu
 ·rename_i hge;rw [ac hge] at hu;exact k.2 _ c u hc hu
def cH (P:Program) (U:cr) (g:∀ e,U.τ e->Prop) (t:TypeId) (ks:List FK):Prop:=
 P.cellsOf t=ks.length/\∀ (H:Type) (enc:TypeId × Value->H) (w:World) (spare:Nat->Bool) (held:Bool) (fuel:Nat) (cs:List Value) (d:DataW H) (ps:List MemPlace),
  DataW.trod enc P w 0 spare held fuel t cs=some (d,ps)->(∀ n∈d.weights P t,n<=reachBytes)->∃ x:gq U.τ ks,mE P g ks x/\jK P U w (hH false ks x) cs
def kH (P:Program) (U:cr) (g:∀ e,U.τ e->Prop) (e:TypeId):Prop:=
 ∀ (H:Type) (enc:TypeId × Value->H) (w:World) (spare:Nat->Bool) (held:Bool) (fuel:Nat) (cs:List Value) (d:DataW H) (ps:List MemPlace),
  DataW.trod enc P w 0 spare held fuel e cs=some (d,ps)->(∀ n∈d.weights P e,n<=reachBytes)->∃ x:U.τ e,g e x/\jK P U w (U.enc e x) cs
variable {g:∀ e,U.τ e->Prop}
theorem kH.of {e:TypeId} {ks:List FK} (h:cH P U g e ks) (f:gq U.τ ks->U.τ e) (hf:∀ y,U.enc e (f y)=hH false ks y) (hg:∀ y,mE P g ks y->g e (f y)):kH P U g e:=by
 intro H enc w spare held fuel cs d ps hd hs;obtain ⟨x,h1,h2⟩:=h.2 H enc w spare held fuel cs d ps hd hs;exact ⟨f x,hg x h1,by rw [hf]; exact h2⟩
theorem sF {w:World} {c:CV U.τ} {u:Value} (h:PC P U w (IW w) c u):jK P U w [c] [u]:=by
 refine ⟨rfl,fun j c' u' hc hu=>?_⟩;cases j with
 | zero=>injection hc with hc; injection hu with hu; subst hc; subst hu; exact h
 | succ j=>cases hc
theorem cH.int {t:TypeId} {k:IntKind} (ht:P.underlying t=some (.int k)) (hc:P.cellsOf t=1):cH P U g t [.int k]:=
 ⟨hc,fun H enc w spare held fuel cs d ps h _=>by
  obtain ⟨n,rfl,_,hw⟩:=DataW.trod_int ht h;have:=(Lit.wf_int_iff k n).1 hw;exact ⟨(n,()),⟨this,trivial⟩,sF (.int k n this)⟩⟩
theorem cH.bool {t:TypeId} (ht:P.underlying t=some .bool) (hc:P.cellsOf t=1):cH P U g t [.bool]:=
 ⟨hc,fun H enc w spare held fuel cs d ps h _=>by
  obtain ⟨b,rfl,_⟩:=DataW.trod_bool ht h;exact ⟨(b,()),⟨trivial,trivial⟩,sF (.bool b)⟩⟩
theorem cH.str {t:TypeId} (ht:P.underlying t=some .string) (hc:P.cellsOf t=1):cH P U g t [.str]:=
 ⟨hc,fun H enc w spare held fuel cs d ps h hs=>by
  obtain ⟨s,rfl,hx,_⟩:=DataW.trod_string ht h;injection hx with hd _
  subst hd;have h1:s.data.toList.length<=140737488351232:=hs s.data.toList.length (by simp [DataW.weights]);exact ⟨(s.data.toList,()),⟨h1,trivial⟩,sF (.str s.data.toList (by unfold dt; omega))⟩⟩
theorem fm8 {α:Type} {p:Nat->α->Prop} (n:Nat) (h:∀ i,i < n->∃ x,p i x):∃ l:List α,l.length=n/\∀ i x,l[i]?=some x->p i x:=by
 induction n with
 | zero=>exact ⟨[],rfl,fun i x h=>by simp at h⟩
 | succ n ih=>
  obtain ⟨l,hl,hp⟩:=ih (fun i hi=>h i (by omega));obtain ⟨x,hx⟩:=h n (by omega);refine ⟨l++[x],by simp [hl],fun i y hy=>?_⟩;rcases Nat.lt_trichotomy i n with hi | hi | hi
  ·exact hp i y (by rw [List.getElem?_append_left (by omega)] at hy; exact hy)
  ·subst hi;rw [List.getElem?_append_right (by omega),hl] at hy;simp at hy;subst hy;exact hx
  ·rw [List.getElem?_eq_none (by simp; omega)] at hy;cases hy
theorem Jx {H:Type} {P:Program} {e:TypeId}:∀ {ds:List (DataW H)} {j:Nat} {d:DataW H},ds[j]?=some d->∀ n∈d.weights P e,n∈DataW.weightsAll P e ds
 | d0::ds,0,d,hd,n,hn=>by
  simp only [List.getElem?_cons_zero,Option.some.injEq] at hd;subst hd;simp only [DataW.weightsAll,List.mem_append];exact Or.inl hn
 | d0::ds,j+1,d,hd,n,hn=>by
  simp only [List.getElem?_cons_succ] at hd;simp only [DataW.weightsAll,List.mem_append];exact Or.inr (Jx hd n hn)
 | [],_,_,hd,_,_=>by simp at hd
theorem QE {H:Type} {enc:TypeId × Value->H} {w:World} {spare:Nat->Bool} {held:Bool} {fuel:Nat} {cs:List Value} {d:DataW H} {ps:List MemPlace} {α:Type} {t e:TypeId} (f:α->List (CV U.τ)) (p:α->Prop)
  (ht:P.underlying t=some (.slice e)) (hz:∀ x,p x->(f x).length=P.cellsOf e) (hz1:1<=P.cellsOf e)
  (he:∀ (n:Nat) (cs:List Value) (d:DataW H) (ps:List MemPlace),DataW.trod enc P w 0 spare held n e cs=some (d,ps)->(∀ n∈d.weights P e,n<=reachBytes)->∃ x:α,p x/\jK P U w (f x) cs)
  (h:DataW.trod enc P w 0 spare held fuel t cs=some (d,ps)) (hs:∀ n∈d.weights P t,n<=reachBytes) :
  ∃ xs:List α,(xs.length * P.bytesOf e<=140737488351232)/\(∀ x∈xs,p x)/\∀ c:CV U.τ,cont c=some (e,xs.map f,.ro)->∃ u,cs=[u]/\PC P U w (IW w) c u:=by
 rcases Deep.open_slice ht h with ⟨rfl,hx⟩ | ⟨a,len,cap,m,n,D,Pl,rfl,_,hl,hm,hmm,hx,hel⟩
 ·exact ⟨[],by simp,fun x hx=>by simp at hx,fun c hc=>⟨_,rfl,.nil c e .ro hc (by simp)⟩⟩
 ·injection hx with hd _
  subst hd;have hlm:len<=m:=by
   rw [hmm];split <;> omega
  obtain ⟨xs,hxl,hxp⟩:=fm8 (p:=fun i x=>∃ cs',w.cells? 0 (a.add (i * P.cellsOf e)) (P.cellsOf e)=some cs'/\p x/\jK P U w (f x) cs') len (fun i hi=>by
   obtain ⟨cs',h1,h2⟩:=hel i (by omega);obtain ⟨x,h3,h4⟩:=he n cs' _ _ h2 (fun n hn=>hs n (by
    simp only [DataW.weights,ht];refine List.mem_cons_of_mem _ (List.mem_append_left _ (Jx (j:=i) ?_ n hn));simp [hi]))
   exact ⟨x,cs',h1,h3,h4⟩)
  refine ⟨xs,?_,fun x hx=>?_,fun c hc=>⟨_,rfl,?_⟩⟩
  ·have:=hs ((len+(m - len)) * P.bytesOf e) (by simp [DataW.weights,ht]);have h5:xs.length * P.bytesOf e<=(len+(m - len)) * P.bytesOf e:=Nat.mul_le_mul_right _ (by omega);exact Nat.le_trans h5 this
  ·obtain ⟨j,hj⟩:=List.mem_iff_getElem?.1 hx;obtain ⟨_,_,h4,_⟩:=hxp j x hj;exact h4
  ·by_cases hne:xs=[]
   ·subst hne;have:len=0:=hxl.symm;subst this;exact .emp c e a cap hc
   ·have hlen:(xs.map f).length=len:=by simp [hxl]
    have hpos:0 < len:=by rw [<- hxl]; exact List.length_pos_iff.2 hne
    have hcell:∀ (i:Nat) (x:α) (j:Nat) (y:CV U.τ),xs[i]?=some x->(f x)[j]?=some y->∃ u,w.cell? (a.add (i * P.cellsOf e+j))=some u/\PC P U w (IW w) y u:=fun i x j y hi hj=>by
     obtain ⟨cs',h1,h2,h3⟩:=hxp i x hi;have hjl:j < (f x).length:=(List.getElem?_eq_some_iff.1 hj).1;have hjc:j < cs'.length:=by rw [h3.1]; exact hjl
     have hu:cs'[j]?=some (cs'[j]'hjc):=List.getElem?_eq_getElem hjc;refine ⟨_,?_,h3.2 j y _ hj hu⟩;have:=(World.cells?_some h1).2.2 j (by rw [<- hz x h2]; exact hjl);rw [Deep.add_add,hu] at this;exact this
    have hspot:a.spot=none:=by
     cases xs with
     | nil=>exact absurd rfl hne
     | cons x xs=>
      obtain ⟨_,_,h2,_⟩:=hxp 0 x rfl;have hf:=hz x h2;obtain ⟨y,hy⟩:∃ y,(f x)[0]?=some y:=⟨_,List.getElem?_eq_getElem (by omega)⟩;obtain ⟨u,hu,_⟩:=hcell 0 x 0 y rfl hy;have e0:a.add (0 * P.cellsOf e+0)=a:=by simp [Addr.add]
      rw [e0] at hu;cases hsp:a.spot with
      | none=>rfl
      | some q=>
       unfold World.cell? at hu;split at hu
       ·rw [hsp] at hu; simp at hu
       ·cases hu
    obtain ⟨b,off,sp⟩:=a;simp only at hspot;subst hspot;have hmx:(len:Int)<=dt:=by unfold dt; unfold maxLen at hm; omega
    have key:=PC.of_cont (P:=P) (U:=U) (w:=w) (I:=IW w) (b:=b) (off:=off) (cap:=cap) hc (by simp) (by rw [hlen]; exact hl) (by simp) (by rw [hlen]; exact hmx)
     ⟨fun i l hi=>by
      rw [List.getElem?_map] at hi;cases hxi:xs[i]? with
      | none=>rw [hxi] at hi; cases hi
      | some x=>rw [hxi] at hi; injection hi with hi; subst hi; obtain ⟨_,_,h2,_⟩:=hxp i x hxi; exact hz x h2,
     fun i l j y hi hj=>by
      rw [List.getElem?_map] at hi;cases hxi:xs[i]? with
      | none=>rw [hxi] at hi; cases hi
      | some x=>
       rw [hxi] at hi; injection hi with hi; subst hi
       obtain ⟨u,hu,_⟩:=hcell i x j y hxi hj;rw [Addr.add_none,<- Nat.add_assoc] at hu;show (w.cell? _).isSome=true;rw [hu]; rfl,
     fun i l j y hi hj=>by
      rw [List.getElem?_map] at hi;cases hxi:xs[i]? with
      | none=>rw [hxi] at hi; cases hi
      | some x=>
       rw [hxi] at hi; injection hi with hi; subst hi
       obtain ⟨u,hu,hp⟩:=hcell i x j y hxi hj;rw [Addr.add_none,<- Nat.add_assoc] at hu;exact ⟨u,hu,hp⟩⟩
    rw [hlen] at key;exact key
theorem cH.slice {t e:TypeId} (ht:P.underlying t=some (.slice e)) (hc:P.cellsOf t=1) (hz:∀ x:U.τ e,(U.enc e x).length=P.cellsOf e) (hz1:1<=P.cellsOf e) (he:kH P U g e):cH P U g t [.sl e]:=
 ⟨hc,fun H enc w spare held fuel cs d ps h hs=>by
  obtain ⟨xs,h1,h2,h3⟩:=QE (U.enc e) (g e) ht (fun x _=>hz x) hz1 (fun n cs d ps a b=>he H enc w spare held n cs d ps a b) h hs;obtain ⟨u,rfl,h4⟩:=h3 (.sl e xs .ro) rfl;exact ⟨(xs,()),⟨⟨h1,h2⟩,trivial⟩,sF h4⟩⟩
theorem cH.bytes {t e:TypeId} (ht:P.underlying t=some (.slice e)) (hc:P.cellsOf t=1) (hu:P.underlying e=some (.int .u8)) (hz:P.cellsOf e=1):cH P U g t [.bs e]:=
 ⟨hc,fun H enc w spare held fuel cs d ps h hs=>by
  obtain ⟨xs,h1,h2,h3⟩:=QE (U:=U) (fun b:UInt8=>[.int .u8 b.toNat]) (fun _:UInt8=>True) ht (fun x _=>by rw [hz]; rfl) (by omega) (fun n cs d ps a b=>by
   obtain ⟨n,rfl,_,hw⟩:=DataW.trod_int hu a;have hw:=(Lit.wf_int_iff .u8 n).1 hw;have h5:IntKind.u8.min=0:=by decide
   have h6:IntKind.u8.max=255:=by decide
   refine ⟨UInt8.ofNat n.toNat,trivial,sF ?_⟩;have:((UInt8.ofNat n.toNat).toNat:Int)=n:=by
    have h7:(UInt8.ofNat n.toNat).toNat=n.toNat % 256:=by simp
    rw [h7];omega
   show PC P U w (IW w) (CV.int .u8 ((UInt8.ofNat n.toNat).toNat:Int)) (.int .u8 n);rw [this];exact .int _ _ hw) h hs
  obtain ⟨u,rfl,h4⟩:=h3 (.bs e xs .ro) rfl;exact ⟨(xs,()),⟨h1,trivial⟩,sF h4⟩⟩
def dj (P:Program) (U:cr) (g:∀ e,U.τ e->Prop) (fs:Array Field) (i off:Nat) (ks:List FK):Prop:=
 ∀ (H:Type) (enc:TypeId × Value->H) (w:World) (spare:Nat->Bool) (held:Bool) (n:Nat) (cs:List Value) (xs:List (DataW H × List MemPlace)),
  (∀ (j:Nat) (f:Field),fs[j]?=some f->DataW.trod enc P w 0 spare held n f.type ((cs.drop f.offset).take (P.cellsOf f.type))=xs[j]?)->xs.length=fs.size->
  (∀ (j:Nat) (f:Field) (y:DataW H × List MemPlace),fs[j]?=some f->xs[j]?=some y->∀ m∈y.1.weights P f.type,m<=reachBytes)->∃ x:gq U.τ ks,mE P g ks x/\jK P U w (hH false ks x) ((cs.drop off).take ks.length)
theorem dj.nil {fs:Array Field} {i off:Nat}:dj P U g fs i off []:=fun H enc w spare held n cs xs hx hl hs=>⟨(),trivial,by simp [hH,jK]⟩
theorem dj.cons {fs:Array Field} {i off off2:Nat} {a b:List FK} (f:Field) (hf:fs[i]?=some f) (ho:f.offset=off) (h:cH P U g f.type a) (ho2:off2=off+a.length)
  (hb:dj P U g fs (i+1) off2 b):dj P U g fs i off (a++b):=by
 intro H enc w spare held n cs xs hx hl hs;have hi:i < fs.size:=(Array.getElem?_eq_some_iff.1 hf).1;have hy:xs[i]?=some xs[i]:=List.getElem?_eq_getElem (by omega);have ht:=hx i f hf;rw [hy] at ht;obtain ⟨x,h1,h2⟩:=h.2 H enc w spare held n _ _ _ ht (hs i f _ hf hy);obtain ⟨y,h3,h4⟩:=hb H enc w spare held n cs xs hx hl hs;refine ⟨uX a b x y,Gx a b x y h1 h3,?_⟩;rw [Im,List.length_append,List.take_add,List.drop_drop,<- ho2];rw [h.1,ho] at h2;exact h2.append h4
theorem cH.struct {t:TypeId} {fs:Array Field} {ks:List FK} (ht:P.underlying t=some (.struct fs)) (hc:P.cellsOf t=ks.length) (h:dj P U g fs 0 0 ks):cH P U g t ks:=
 ⟨hc,fun H enc w spare held fuel cs d ps hd hs=>by
  obtain ⟨xs,n,rfl,hx,hl,hxl,hel⟩:=DataW.trod_struct ht hd;injection hx with hx1 _
  subst hx1;obtain ⟨x,h1,h2⟩:=h H enc w spare held n cs xs hel hxl (fun j f y hf hy m hm=>hs m (by
   simp only [DataW.weights,ht];refine DataW.weights_mem_each (j:=j) (t:=f.type) (d:=y.1) ?_ ?_ m hm
   ·simp only [List.getElem?_map,Array.getElem?_toList,hf,Option.map_some]
   ·simp only [List.getElem?_map,hy,Option.map_some]))
  refine ⟨x,h1,?_⟩;have e:(cs.drop 0).take ks.length=cs:=by
   rw [List.drop_zero];exact List.take_of_length_le (by omega)
  rw [e] at h2;exact h2⟩
def qa (P:Program) (U:cr) (g:∀ e,U.τ e->Prop) (m i:Nat) (e:TypeId) (ks:List FK):Prop:=
 ∀ (H:Type) (enc:TypeId × Value->H) (w:World) (spare:Nat->Bool) (held:Bool) (n:Nat) (cs:List Value) (xs:List (DataW H × List MemPlace)),
  (∀ j,j < m->DataW.trod enc P w 0 spare held n e ((cs.drop (j * P.cellsOf e)).take (P.cellsOf e))=xs[j]?)->xs.length=m->
  (∀ (j:Nat) (y:DataW H × List MemPlace),xs[j]?=some y->∀ m∈y.1.weights P e,m<=reachBytes)->∃ x:gq U.τ ks,mE P g ks x/\jK P U w (hH false ks x) ((cs.drop (i * P.cellsOf e)).take ks.length)
theorem qa.nil {m i:Nat} {e:TypeId}:qa P U g m i e []:=fun H enc w spare held n cs xs hx hl hs=>⟨(),trivial,by simp [hH,jK]⟩
theorem qa.cons {m i:Nat} {e:TypeId} {a b:List FK} (hi:i < m) (h:cH P U g e a) (hb:qa P U g m (i+1) e b):qa P U g m i e (a++b):=by
 intro H enc w spare held n cs xs hx hl hs;have hy:xs[i]?=some xs[i]:=List.getElem?_eq_getElem (by omega);have ht:=hx i hi;rw [hy] at ht;obtain ⟨x,h1,h2⟩:=h.2 H enc w spare held n _ _ _ ht (hs i _ hy);obtain ⟨y,h3,h4⟩:=hb H enc w spare held n cs xs hx hl hs;refine ⟨uX a b x y,Gx a b x y h1 h3,?_⟩;rw [Im,List.length_append,List.take_add,List.drop_drop,<- h.1];rw [Nat.add_mul,Nat.one_mul] at h4;exact h2.append h4
theorem cH.array {t e:TypeId} {m:Nat} {ks:List FK} (ht:P.underlying t=some (.array m e)) (hc:P.cellsOf t=ks.length) (h:qa P U g m 0 e ks):cH P U g t ks:=
 ⟨hc,fun H enc w spare held fuel cs d ps hd hs=>by
  obtain ⟨xs,n,rfl,hx,hl,hxl,hel⟩:=DataW.trod_array ht hd;injection hx with hx1 _
  subst hx1;obtain ⟨x,h1,h2⟩:=h H enc w spare held n cs xs hel hxl (fun j y hy m hm=>hs m (by
   simp only [DataW.weights,ht];refine Jx (j:=j) (d:=y.1) ?_ m hm;simp only [List.getElem?_map,hy,Option.map_some]))
  refine ⟨x,h1,?_⟩;have e:(cs.drop (0 * P.cellsOf e)).take ks.length=cs:=by
   rw [Nat.zero_mul,List.drop_zero];exact List.take_of_length_le (by omega)
  rw [e] at h2;exact h2⟩
theorem eJ2 {H:Type} {P:Program} {ts:List TypeId} {ds:List (DataW H)} (hsz:(DataW.weightsEach P ts ds).all (·<=reachBytes)=true) {j:Nat} {t:TypeId} {d:DataW H} (ht:ts[j]?=some t) (hd:ds[j]?=some d):∀ n∈d.weights P t,n<=reachBytes:=
 fun n hn=>by simpa using List.all_eq_true.1 hsz _ (DataW.weights_mem_each ht hd n hn)
def Mi (P:Program) (t:TypeId):Bool:=
 match P.underlying t with
 | some (.struct _)=>true
 | some (.array _ _)=>true
 | _=>false
theorem eY1 {T:Ty U.τ} {t:TypeId} (h:cH P U g t T.ks) (ha:Mi P t=T.agg) {H:Type} {enc:TypeId × Value->H} {w:World} {base:Nat} {spare:Nat->Bool} {held:Bool} {v:Value} {d:DataW H} {ps:List MemPlace} (hok:Value.okWide P w .any base t v)
  (hd:DataW.Trod enc P w 0 spare held t v d ps) (hs:∀ n∈d.weights P t,n<=reachBytes):∃ x:T.α,(∃ y,x=T.of y/\mE P g T.ks y)/\eG P U w (IW w) T.agg (T.enc false x) v:=by
 obtain ⟨fuel,hd⟩:=hd;obtain ⟨y,h1,h2,h3⟩:=h.2 H enc w spare held fuel _ d ps hd hs;refine ⟨T.of y,⟨y,rfl,h1⟩,?_⟩;have he:T.enc false (T.of y)=hH false T.ks y:=by unfold Ty.enc; rw [T.ok]
 rw [he];unfold Value.okWide at hok;unfold Mi at ha;have row:∀ cs:Array Value,v=.agg cs->T.agg=true->eG P U w (IW w) T.agg (hH false T.ks y) v:=fun cs hv hT=>by
  subst hv;rw [hT];have hc:(Value.agg cs).cells.toList=cs.toList:=rfl;rw [hc] at h2 h3;refine ⟨cs,rfl,by simpa using h2,fun j c hj=>?_⟩;have hjl:j < cs.toList.length:=by rw [h2]; exact (List.getElem?_eq_some_iff.1 hj).1
  have hu:cs.toList[j]?=some (cs.toList[j]'hjl):=List.getElem?_eq_getElem hjl;exact ⟨_,by rw [<- Array.getElem?_toList]; exact hu,h3 j c _ hj hu⟩
 have one:(∀ cs:Array Value,v≠.agg cs)->(∀ cs:Array Value,v≠.tuple cs)->T.agg=false->eG P U w (IW w) T.agg (hH false T.ks y) v:=fun hv hv2 hT=>by
  rw [hT];have hc:v.cells.toList=[v]:=by cases v <;> first | rfl | exact absurd rfl (hv _) | exact absurd rfl (hv2 _)
  rw [hc] at h2 h3
  match hl:hH false T.ks y,h2,h3 with
  | [c],_,h3=>exact ⟨c,rfl,h3 0 c v rfl rfl⟩
  | [],h2,_=>exact absurd h2 (by simp)
  | _::_::_,h2,_=>exact absurd h2 (by simp)
 cases hu:P.underlying t with
 | none=>rw [hu] at hok; simp [Cell.okWide,Cell.ok,hu] at hok
 | some d0=>
  rw [hu] at hok ha;cases d0 with
  | struct fs=>obtain ⟨cs,hv,_⟩:=hok; exact row cs hv ha.symm
  | array m e=>obtain ⟨cs,hv,_⟩:=hok; exact row cs hv ha.symm
  | _=>exact one (fun cs hv=>by subst hv; simp [Cell.okWide,Cell.ok,hu] at hok) (fun cs hv=>by subst hv; simp [Cell.okWide,Cell.ok,hu] at hok) ha.symm
theorem fw7 {e:bG U} (he:gg P U e) {T:Ty U.τ} {x:e.sig.A} {vs:List Value} {w:World} {r:e.sig.B} (hr:e.G x=some r) (ho:e.sig.out r=⟨.one (.bool true),[]⟩) (ha:fR P U w (IW w) (fun _=>none) (fun _=>(0,0)) (iM e.sig.ps x) vs 0) (henv:U.env w) (hnb:U.nb<=w.heap.size) :
  Calls P e.f vs.toArray w fun ed w'=>ed=.returned (.bool true)/\Below w.heap.size w w':=by
 obtain ⟨_,h2⟩:=he x r hr;refine (h2 ⟨IW w,fun _=>(0,0),fun _=>none⟩ w vs ha (fun b o h=>h) (fun b L h=>by cases h) ⟨henv,hnb,fun _ _=>rfl⟩).mono fun ed w' hh=>?_
 obtain ⟨u,G',h3,h4,h5,_⟩:=hh;rw [ho] at h5;have h6:u=.bool true:=PC.of_bool h5;subst h6;exact ⟨h3,h4.os,h4.tape,h4.output,h4.size,fun k hk=>h4.old k hk rfl⟩
end
end Go.VI
namespace Go.VI
open Go Go.RowKit Go.ChangeShapes Go.WideShapes
section
variable {P:Program} {U:cr}
def SS (P:Program) (fn:Func) (m:Nat) (s:bT U.τ):St U->Option s.B:=fun st=>match so P fn.results.toList m st with | some o=>s.decOut o | none=>none
theorem ja {f:Nat} {fn:Func} (hf:P.funcs[f]?=some fn) (h:(fn.name== "runtime.NumGoroutine")=false) (hb:fn.body.isNone=false):∀ (vs:Array Value) w,(callFunc f vs).run P w=.ok (.enter f vs) w:=by
 intro vs w;have h1:¬fn.name= "runtime.NumGoroutine" := by simpa using h
 have h2:¬fn.body=none:=fun he=>by rw [he] at hb; cases hb
 simp [callFunc,hf,h1,h2]
theorem fm9 {f:Nat} {s:bT U.τ} {G:s.A->Option s.B} (he:gg P U ⟨f,s,G⟩) {x:s.A} {vs:List Value} {w:World} {r:s.B} (hr:G x=some r) (ho:s.out r=⟨.one (.bool true),[]⟩) (ha:fR P U w (IW w) (fun _=>none) (fun _=>(0,0)) (iM s.ps x) vs 0) (henv:U.env w) (hnb:U.nb<=w.heap.size) :
  Calls P f vs.toArray w fun ed w'=>ed=.returned (.bool true)/\Below w.heap.size w w':=by
 exact fw7 (e:=⟨f,s,G⟩) he (T:=⟨Bool,false,[.bool],fun x=>(x,()),fun y=>y.1,fun _=>rfl,.inr ⟨_,rfl⟩⟩) hr ho ha henv hnb
end
end Go.VI
namespace Go.VI
open Go Go.RowKit Go.ChangeShapes Go.WideShapes
section
variable {P:Program} {U:cr}
theorem YG {f:Nat} {as:List (ek U.τ)} {out:AV U.τ} (hc:∀ (vs:Array Value) w,(callFunc f vs).run P w=.ok (.enter f vs) w) (hp:cU as=[])
  (h:∀ (G0:ce) (w:World) (vs:List Value),fR P U w G0.I G0.who G0.loc as vs 0->sP U G0 w->
   Calls P f vs.toArray w fun e w'=>∃ u,e=.returned u/\Below w.heap.size w w'/\∃ J:Nat->Nat->Prop,(∀ b o,J b o->w.heap.size<=b/\(w'.cell? ⟨b,o,none⟩).isSome=true)/\jE P U w' (fun b o=>G0.I b o\/J b o) out u):jM P U f as ⟨out,[]⟩:=by
 refine ⟨hc,fun G0 w vs ha hi hw henv=>(h G0 w vs ha henv).mono fun e w' hh=>?_⟩;obtain ⟨u,he,hb,J,hJ,hr⟩:=hh;have hcell:∀ b o,G0.I b o->w'.cell? ⟨b,o,none⟩=w.cell? ⟨b,o,none⟩:=fun b o hI=>by
  obtain ⟨v,hv⟩:=Option.isSome_iff_exists.1 (hi b o hI);exact hb.cell (p:=⟨b,o,none⟩) (World.block_lt_of_cell? w _ hv)
 refine ⟨u,⟨fun b o=>G0.I b o\/J b o,G0.loc,G0.who⟩,he,?_,hr,by rw [hp],fun j cs hj=>by simp at hj,fun j cs hj=>by rw [hp] at hj; simp at hj,fun b o hI=>?_,fun b L hL=>Nat.lt_of_lt_of_le (hw b L hL) hb.size⟩
 ·exact ⟨hb.os,hb.tape,hb.output,hb.size,fun b hlt _=>hb.block b hlt,fun b o hI=>⟨.inl hI,hcell b o hI⟩,fun b o hI=>by
   rcases hI with hI | hI
   ·exact .inl hI
   ·exact .inr (.inl (hJ b o hI).1),fun b L hL=>.inr (by rw [hL]; rfl)⟩
 ·rcases hI with hI | hI
  ·show (w'.cell? ⟨b,o,none⟩).isSome=true;rw [hcell b o hI]; exact hi b o hI
  ·exact (hJ b o hI).2
end
end Go.VI
namespace Go.VI
open Go Go.RowKit Go.ChangeShapes Go.WideShapes
section
variable {P:Program} {U:cr}
theorem fn0 {w:World} {I:Nat->Nat->Prop} {who:Nat->Option (Nat × Option Nat)} {L:Nat × Option Nat} {k:IntKind} {n:Int} {u:Value} (h:di P U w I who L (.int k n) u):u=.int k n/\k.has n:=by
 rcases h with h | ⟨e,css,hc,_⟩
 ·cases h with
  | int _ _ hk=>exact ⟨rfl,hk⟩
  | nil _ e f h1 h2=>cases h1
  | emp _ e p cap h1=>cases h1
  | row _ e css f b off cap h1=>cases h1
 ·cases hc
theorem tR {f:Nat} {k:IntKind} {n n':Int} {rest:List (ek U.τ)} {ret:AV U.τ} (hc:∀ (vs:Array Value) w,(callFunc f vs).run P w=.ok (.enter f vs) w) (hp:cU rest=[]) (hn:n'=n\/k.has n')
  (h:∀ (G0:ce) (w:World) (b o:Nat) (vs:List Value),fR P U w G0.I G0.who G0.loc rest vs 1->k.has n->w.cell? ⟨b,o,none⟩=some (.int k n)->w.frozen? ⟨b,o,none⟩=false->
   Calls P f (Value.pointer (some ⟨b,o,none⟩)::vs).toArray w fun e w'=>∃ u,e=.returned u/\(∀ w2 I,jE P U w2 I ret u)/\∃ w1,w1.heap=w.heap/\w1.os=w.os/\w1.tape=w.tape/\w1.output=w.output/\(w'=w1.setCell ⟨b,o,none⟩ (.int k n')\/(w'=w1/\n'=n))) :
  jM P U f (.ptr [.int k n]::rest) ⟨ret,[[.int k n']]⟩:=by
 refine ⟨hc,fun G0 w vs ha hi hw henv=>?_⟩;cases ha with
 | ptr cs as us j hbx hrest=>
  obtain ⟨b,o,hbo⟩:∃ b o,G0.loc (bV+0)=(b,o):=⟨_,_,rfl⟩;rw [hbo] at hbx;rw [hbo];obtain ⟨c,T,fz,h1,h2,h3,h4⟩:=hbx.row;obtain ⟨u0,hu0,hk0⟩:=h4 0 _ rfl;obtain ⟨e0,hkn⟩:=fn0 hk0;subst e0;have hn:k.has n':=hn.elim (fun e=>by rw [e]; exact hkn) id;simp only [Nat.add_zero,List.length_cons,List.length_nil,Nat.zero_add] at h1 h2 hu0;have hcell:w.cell? ⟨b,o,none⟩=some (.int k n):=by simp [World.cell?,h1,hu0]
  have hfz:w.frozen? ⟨b,o,none⟩=false:=by
   simp only [World.frozen?,h1];cases hx:(decide (fz.1<=o) && decide (o < fz.2)) with
   | false=>rfl
   | true=>
    simp only [Bool.and_eq_true,decide_eq_true_eq] at hx;have:=h3 o hx.1 hx.2;omega
  refine (h G0 w b o us hrest hkn hcell hfz).mono fun e w' hh=>?_
  obtain ⟨u,he,hr,w1,k1,k2,k3,k4,k5⟩:=hh;have hos:w'.os=w.os/\w'.tape=w.tape/\w'.output=w.output/\w'.heap.size=w.heap.size/\(∀ b',b'≠b->w'.heap[b']?=w.heap[b']?)/\∃ c',w'.heap[b]?=some (.cells c' T fz)/\c'.size=c.size/\c'[o]?=some (.int k n')/\∀ i,i≠o->c'[i]?=c[i]?:=by
   have h1':w1.heap[b]?=some (.cells c T fz):=by rw [k1]; exact h1
   rcases k5 with rfl | ⟨rfl,rfl⟩
   ·refine ⟨k2,k3,k4,by rw [World.size_setCell,k1],fun b' hb=>?_,c.setIfInBounds o (.int k n'),?_,by simp,?_,fun i hio=>?_⟩
    ·simp only [World.setCell,Array.getElem?_modify];rw [ac (Ne.symm hb),k1]
    ·simp [World.setCell,Array.getElem?_modify,h1']
    ·rw [Array.getElem?_setIfInBounds,ab rfl,ab (by omega)]
    ·rw [Array.getElem?_setIfInBounds,ac (Ne.symm hio)]
   ·exact ⟨k2,k3,k4,by rw [k1],fun b' _=>by rw [k1],c,h1',rfl,hu0,fun _ _=>rfl⟩
  obtain ⟨o1,o2,o3,o4,o5,c',o6,o7,o8,o9⟩:=hos;have hcellN:∀ b' o',(b'≠b\/o'≠o)->w'.cell? ⟨b',o',none⟩=w.cell? ⟨b',o',none⟩:=fun b' o' hne=>by
   by_cases hb:b'=b
   ·subst hb;have:o'≠o:=hne.resolve_left (fun h=>h rfl);simp [World.cell?,o6,h1,o9 o' this]
   ·simp [World.cell?,o5 b' hb]
  have hI:∀ b' o',G0.I b' o'->w'.cell? ⟨b',o',none⟩=w.cell? ⟨b',o',none⟩:=fun b' o' h=>hcellN b' o' (.inl (fun e=>by rw [e] at h; exact hbx.himm o' h))
  refine ⟨u,G0,he,⟨o1,o2,o3,Nat.le_of_eq o4.symm,fun b' _ hwn=>o5 b' (fun e=>by rw [e,hbx.hwho] at hwn; cases hwn),fun b' o' h=>⟨h,hI b' o' h⟩,fun b' o' h=>.inl h,fun b' L h=>.inr (by rw [h]; rfl)⟩,hr _ _,by simp [cU,hp],?_,?_,?_,?_⟩
  ·intro j cs hj;cases j with
   | zero=>
    have hj:some [CV.int k n']=some cs:=hj;injection hj with hj
    subst hj;rw [hbo];refine ⟨hbx.hwho,hbx.himm,c',T,fz,o6,by simp; omega,by rw [o7]; exact h3,fun i x hx=>?_⟩;cases i with
    | zero=>
     have hx:some (CV.int k n')=some x:=hx;injection hx with hx
     subst hx;exact ⟨_,by simpa using o8,.inl (.int k n' hn)⟩
    | succ i=>simp at hx
   | succ j=>simp at hj
  ·intro j cs hj;cases j with
   | zero=>
    have hj:some [CV.int k n]=some cs:=hj;injection hj with hj
    subst hj;rw [hbo];refine ⟨⟨_,rfl,rfl⟩,fun o' ho'=>hcellN b o' (.inr ?_)⟩;simp at ho';omega
   | succ j=>simp [cU,hp] at hj
  ·intro b' o' h;rw [hI b' o' h]; exact hi b' o' h
  ·intro b' L h;rw [o4]; exact hw b' L h
end
end Go.VI
