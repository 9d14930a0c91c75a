import Derived.Test.YtngopicaeoapnaaGreatDoorKVA
set_option linter.unusedVariables false
set_option linter.unusedSimpArgs false
namespace Go.VI
open Go
def bh2 (G:ab7) (B d:Nat) (imm:Nat→Prop) (wh:Option (Nat × Option Nat)):ab7:=
 ⟨fun b o=>G.I b o∨(b=B∧imm o),fun t=>if t=d then (B,0) else G.loc t,fun b=>if b=B then wh else G.who b⟩
section
variable {P:Program} {U:ad6} {N:Nat} {L0:Nat→Nat} {G0:ab7} {w0:World} {G:ab7} {σ:ac0 U} {a:Act} {w:World} {o:Oper} {adv:Adv}
theorem aH7 {w w':World} {x:Obj} (hh:w'.heap=w.heap.push x) (b:Nat):w'.heap[b]?=if b=w.heap.size then some x else w.heap[b]?:=by
 rw [hh,Array.getElem?_push]
theorem bz5 {w w':World} {x:Obj} (hh:w'.heap=w.heap.push x) (b o:Nat) (hb:b < w.heap.size):w'.cell? ⟨b,o,none⟩=w.cell? ⟨b,o,none⟩:=by
 simp only [World.cell?]
 rw [aH7 hh,if_neg (by omega)]
theorem aL0 {w w':World} {c:Array Value} {T:TypeId} {fz:Nat × Nat} (hh:w'.heap=w.heap.push (.cells c T fz)) (o:Nat):w'.cell? ⟨w.heap.size,o,none⟩=c[o]?:=by
 simp only [World.cell?]
 rw [aH7 hh,if_pos rfl]
 rfl
theorem cj8 {w:World} {b o:Nat} (h:(w.cell? ⟨b,o,none⟩).isSome=true):b < w.heap.size:=by
 obtain ⟨u,hu⟩:=Option.isSome_iff_exists.1 h
 exact World.block_lt_of_cell? _ _ hu
theorem R.notI (r:R P U N L0 G0 w0 G σ a w) (o:Nat):¬G.I w.heap.size o:=fun h=>Nat.lt_irrefl _ (cj8 (r.imm _ o h))
theorem R.fresh (r:R P U N L0 G0 w0 G σ a w) {w':World} {c:Array Value} {T:TypeId} {fz:Nat × Nat} (hh:w'.heap=w.heap.push (.cells c T fz)) (h1:w'.os=w.os) (h2:w'.tape=w.tape) (h3:w'.output=w.output)
  {d:Nat} {v:AV U.τ} {u:Value} {imm:Nat→Prop} {wh:Option (Nat × Option Nat)} (hd:d < N) (ho:(σ d).owner=false) (himm:∀ o,imm o→o < c.size)
  (hs:ac9 P U (bh2 G w.heap.size d imm wh) (upd σ d v) w' d v u) :
  R P U N L0 G0 w0 (bh2 G w.heap.size d imm wh) (upd σ d v) (a.put (some d) u) w':=by
 have hn:∀ s,(σ s).owner=true→s≠d:=fun s hso he=>by rw [he,ho] at hso; cases hso
 have hsz:w'.heap.size=w.heap.size+1:=by rw [hh]; simp
 have hI:∀ b o,G.I b o→(bh2 G w.heap.size d imm wh).I b o∧w'.cell? ⟨b,o,none⟩=w.cell? ⟨b,o,none⟩:=fun b o h=>⟨.inl h,bz5 hh b o (cj8 (r.imm b o h))⟩
 have hwho:∀ b L,G.who b=some L→(bh2 G w.heap.size d imm wh).who b=some L:=fun b L h=>by
  have:=r.who b L h
  show (if b=w.heap.size then wh else G.who b)=some L
  rw [if_neg (by omega),h]
 have x:Ext (fun _=>False) G (bh2 G w.heap.size d imm wh) σ (upd σ d v) w w':=by
  refine ⟨hI,fun b L h _=>⟨hwho b L h,?_,fun o h'=>?_⟩,fun s hs=>?_,fun s cs hs=>?_,fun s e y q hs=>?_⟩
  ·have:=r.who b L h
   rw [aH7 hh,if_neg (by omega)]
  ·rcases h' with h' | ⟨h',_⟩
   ·exact h'
   ·have:=r.who b L h; omega
  ·show (if s=d then (w.heap.size,0) else G.loc s)=G.loc s
   rw [if_neg (hn s hs)]
  ·exact ⟨cs,by simp [upd,hn s (by rw [hs]; rfl),hs]⟩
  ·exact ⟨e,y,by simp [upd,hn s (by rw [hs]; rfl),hs],rfl⟩
 have st:aF1 G w (bh2 G w.heap.size d imm wh) w':=by
  refine ⟨h1,h2,h3,by omega,fun b hb _=>by rw [aH7 hh,if_neg (by omega)],hI,fun b o h=>?_,fun b L h=>?_⟩
  ·rcases h with h | ⟨h,_⟩
   ·exact .inl h
   ·exact .inr (.inl (by omega))
  ·have h':(if b=w.heap.size then wh else G.who b)=some L:=h
   split at h'
   ·exact .inl (by omega)
   ·exact .inr (by rw [h']; rfl)
 refine r.go x st rfl (by simp [Act.put]) (fun t ht=>?_) (fun b o h=>?_) (fun b L h=>?_) (fun t cs' ht hσ=>?_) (fun t=>?_)
 ·show (if t=d then (w.heap.size,0) else G.loc t)=G.loc t
  rw [if_neg (by have:=r.small; omega)]
 ·rcases h with h | ⟨rfl,h⟩
  ·exact .inl h
  ·right
   rw [aL0 hh]
   simp [himm o h]
 ·have h':(if b=w.heap.size then wh else G.who b)=some L:=h
  split at h'
  ·exact .inr (by omega)
  ·exact .inl ⟨L,h'⟩
 ·have htd:t≠d:=fun he=>by have:=r.small; omega
  simp only [upd,htd,if_false] at hσ
  refine ⟨cs',hσ,rfl,fun o _=>bz5 hh _ _ ?_⟩
  have:=r.slots t
  rw [hσ] at this
  exact r.who _ _ this.2.hwho
 ·rw [bs4 (Nat.lt_of_lt_of_le hd r.size)]
  by_cases ht:t=d
  ·subst ht
   right
   rw [if_pos rfl]
   have:upd σ t v t=v:=by simp [upd]
   rw [this]; exact hs
  ·left
   simp [upd,ht]
theorem R.newBox (r:R P U N L0 G0 w0 G σ a w) {d:Nat} (hd:d < N) (hu:σ d=.undef) {cs:List (CV U.τ)} {us:Array Value} (hc:ax3 P U w G.I cs us) (T:TypeId) :
  ∃ G',R P U N L0 G0 w0 G' (upd σ d (.box cs)) (a.put (some d) (.pointer (some ⟨w.heap.size,0,none⟩))) { w with heap:=w.heap.push (.cells us T) }:=by
 refine ⟨_,r.fresh (imm:=fun _=>False) (wh:=some (d,none)) (w':={ w with heap:=w.heap.push (.cells us T) }) rfl rfl rfl rfl hd (by rw [hu]; rfl) (fun _ h=>h.elim) ?_⟩
 have hloc:(bh2 G w.heap.size d (fun _=>False) (some (d,none))).loc d=(w.heap.size,0):=if_pos rfl
 refine ⟨fun _=>by rw [hloc],?_⟩
 rw [hloc]
 have hh:({ w with heap:=w.heap.push (.cells us T) }:World).heap=w.heap.push (.cells us T):=rfl
 refine ⟨if_pos rfl,fun o h=>?_,us,T,(0,0),by rw [aH7 hh,if_pos rfl],by rw [hc.size]; omega,fun o h1 h2=>by simp at h2,fun i x hi=>?_⟩
 ·rcases h with h | ⟨_,h⟩
  ·exact r.notI o h
  ·exact h
 ·obtain ⟨y,hy,hp⟩:=hc.cell i x hi
  exact ⟨y,by simpa using hy,.inl (hp.mono fun b o h=>⟨.inl h,bz5 hh b o (cj8 (r.imm b o h))⟩)⟩
theorem eA5 (r:R P U N L0 G0 w0 G σ a w) (hd:∀ d,o.dst=some d→d < N) {t:TypeId} (ho:o.op=.alloc t) {rd:List Nat} {ws:List (Nat × AV U.τ)} (h:aa5 P U σ (ac3 P adv o) rd ws) :
  ae5 P U N L0 G0 w0 σ o a w ws:=by
 simp only [ac3,ho] at h
 cases hdst:o.dst with
 | none=>rw [hdst] at h; exact h.of_fail.elim
 | some d=>
  rw [hdst] at h
  obtain ⟨_,h⟩:=h.of_read
  cases hσ:σ d <;> rw [hσ] at h <;> first | exact h.of_fail.elim | skip
  simp only at h
  split at h
  ·rename_i ag cs hz
   have:=h.of_done
   subst this
   obtain ⟨z,hzr,hzv⟩:=bf0 (w:=w) (I:=G.I) hz
   unfold ae5 az3
   have hrun:(execOp a.eval o).run P w=.ok (.value (.pointer (some ⟨w.heap.size,0,none⟩))) { w with heap:=w.heap.push (.cells z.cells t) }:=by
    simp [execOp,ho,Instr.alloc,hzr,newVar,newRow]
   rw [hrun,hdst]
   exact r.newBox (hd d hdst) hσ hzv.cells t
  ·exact h.of_fail.elim
theorem eS3 (r:R P U N L0 G0 w0 G σ a w) (hd:∀ d,o.dst=some d→d < N) {t:TypeId} {x:Operand} (ho:o.op=.box t x) {rd:List Nat} {ws:List (Nat × AV U.τ)} (h:aa5 P U σ (ac3 P adv o) rd ws) :
  ae5 P U N L0 G0 w0 σ o a w ws:=by
 simp only [ac3,ho] at h
 cases hdst:o.dst with
 | none=>rw [hdst] at h; exact h.of_fail.elim
 | some d=>
  rw [hdst] at h
  obtain ⟨_,h⟩:=h.of_read
  cases hσ:σ d <;> rw [hσ] at h <;> first | exact h.of_fail.elim | skip
  obtain ⟨ag,cs,_,hv,h⟩:=r.cells h
  have:=h.of_done
  subst this
  unfold ae5 az3
  have hrun:(execOp a.eval o).run P w=.ok (.value (.pointer (some ⟨w.heap.size,0,none⟩))) { w with heap:=w.heap.push (.cells (a.eval x).cells t) }:=by
   simp [execOp,ho,Instr.box,newVar,newRow]
  rw [hrun,hdst]
  exact r.newBox (hd d hdst) hσ hv.cells t
structure aF3 (P:Program) (U:ad6) (w:World) (I:Nat→Nat→Prop) (sz:Nat) (css:List (List (CV U.τ))) (us:List Value):Prop where
 size:us.length=css.length * sz
 len:∀ (i:Nat) cs,css[i]?=some cs→cs.length=sz
 cell:∀ (i:Nat) cs (j:Nat) x,css[i]?=some cs→cs[j]?=some x→∃ u,us[i * sz+j]?=some u∧PC P U w I x u
theorem ec2 {n sz q:Nat} (h:q < n * sz):∃ i j,i < n∧j < sz∧q=i * sz+j:=by
 have hz:0 < sz:=by
  rcases Nat.eq_zero_or_pos sz with h0 | h0
  ·subst h0; simp at h
  ·exact h0
 exact ⟨q / sz,q % sz,Nat.div_lt_of_lt_mul (by rwa [Nat.mul_comm] at h),Nat.mod_lt _ hz,by rw [Nat.mul_comm]; exact (Nat.div_add_mod q sz).symm⟩
theorem aF3.one1 {I:Nat→Nat→Prop} {sz:Nat} {css:List (List (CV U.τ))} {us:List Value} (h:aF3 P U w I sz css us):∀ v∈us,v.oneCell'=true:=by
 intro v hv
 obtain ⟨q,hq⟩:=List.mem_iff_getElem?.1 hv
 have hlt:q < css.length * sz:=by rw [← h.size]; exact (List.getElem?_eq_some_iff.1 hq).1
 obtain ⟨i,j,hi,hj,rfl⟩:=ec2 hlt
 obtain ⟨cs,hcs⟩:∃ cs,css[i]?=some cs:=⟨_,List.getElem?_eq_getElem hi⟩
 have hl:=h.len i cs hcs
 obtain ⟨x,hx⟩:∃ x,cs[j]?=some x:=⟨_,List.getElem?_eq_getElem (by omega)⟩
 obtain ⟨u,hu,hp⟩:=h.cell i cs j x hcs hx
 rw [hu] at hq
 injection hq with hq; subst hq
 have:=hp.one1
 cases u <;> first | rfl | exact this.elim
theorem eh4 {i j n sz:Nat} (hi:i < n) (hj:j < sz):i * sz+j < n * sz:=by
 have:(i+1) * sz≤n * sz:=Nat.mul_le_mul_right _ hi
 rw [Nat.add_mul,Nat.one_mul] at this
 omega
theorem aF3.cons {I:Nat→Nat→Prop} {sz:Nat} {css:List (List (CV U.τ))} {us:List Value} (h:aF3 P U w I sz css us) {ds:List (CV U.τ)} {vs:Array Value} (k:ax3 P U w I ds vs) (hl:ds.length=sz):aF3 P U w I sz (ds::css) (vs.toList++us):=by
 have hv:vs.toList.length=sz:=by rw [Array.length_toList,k.size,hl]
 refine ⟨by rw [List.length_append,hv,h.size,List.length_cons,Nat.add_mul,Nat.one_mul]; omega,fun i cs hi=>?_,fun i cs j x hi hj=>?_⟩
 ·cases i with
  | zero=>simp at hi; subst hi; exact hl
  | succ i=>exact h.len i cs (by simpa using hi)
 ·cases i with
  | zero=>
   simp at hi; subst hi
   obtain ⟨y,hy,hp⟩:=k.cell j x hj
   have hjl:j < sz:=by rw [← hl]; exact (List.getElem?_eq_some_iff.1 hj).1
   exact ⟨y,by rw [Nat.zero_mul,Nat.zero_add,List.getElem?_append_left (by omega)]; simpa using hy,hp⟩
  | succ i=>
   obtain ⟨y,hy,hp⟩:=h.cell i cs j x (by simpa using hi) hj
   refine ⟨y,?_,hp⟩
   rw [List.getElem?_append_right (by rw [hv,Nat.add_mul]; omega),hv]
   rw [show (i+1) * sz+j - sz=i * sz+j by rw [Nat.add_mul]; omega]
   exact hy
theorem aF3.cont {sz:Nat} {css:List (List (CV U.τ))} {us:List Value} (h:aF3 P U w G.I sz css us) {w':World} {b:Nat} {I':Nat→Nat→Prop} (hI:∀ b o,G.I b o→I' b o∧w'.cell? ⟨b,o,none⟩=w.cell? ⟨b,o,none⟩) {off:Nat}
  (hc:∀ (q:Nat) u,us[q]?=some u→I' b (off+q)∧w'.cell? ⟨b,off+q,none⟩=some u):bh0 P U w' I' b off sz css:=by
 refine ⟨h.len,fun i cs j x hi hj=>?_,fun i cs j x hi hj=>?_⟩
 ·obtain ⟨u,hu,hp⟩:=h.cell i cs j x hi hj
  rw [Nat.add_assoc]; exact (hc _ u hu).1
 ·obtain ⟨u,hu,hp⟩:=h.cell i cs j x hi hj
  exact ⟨u,by rw [Nat.add_assoc]; exact (hc _ u hu).2,hp.mono hI⟩
theorem dz9 (r:R P U N L0 G0 w0 G σ a w) {e:TypeId} {n:Nat} :
  ∀ (parts:List (Nat × Operand)) (i:Nat) {k:List (List (CV U.τ))→ac6 U} {rd:List Nat} {ws:List (Nat × AV U.τ)},aa5 P U σ (dh1 P e parts i k) rd ws→
  ∃ css rd',aa5 P U σ (k css) rd' ws∧css.length=parts.length∧((∀ cs∈css,cs.length=P.cellsOf e)→∃ us,aF3 P U w G.I (P.cellsOf e) css us∧
   ∀ cells:Array Value,(i+parts.length) * P.cellsOf e≤cells.size→∃ cells',Instr.fill (fun i=>some (i * P.cellsOf e,P.cellsOf e)) cells (parts.map fun p=>(p.1,a.eval p.2))=some cells'∧cells'.size=cells.size∧
    ∀ q,cells'[q]?=if i * P.cellsOf e≤q∧q < (i+parts.length) * P.cellsOf e then us[q - i * P.cellsOf e]? else cells[q]?)
 | [],i,k,rd,ws,h=>⟨[],rd,h,rfl,fun _=>⟨[],⟨by simp,fun _ _ h=>by simp at h,fun _ _ _ _ h=>by simp at h⟩,fun cells _=>⟨cells,rfl,rfl,fun q=>by rw [if_neg (by simp)]⟩⟩⟩
 | (j,x)::parts,i,k,rd,ws,h=>by
  simp only [dh1] at h
  obtain ⟨hj,h⟩:=aa5.of_cond h
  have hj:=Nat.eq_of_beq_eq_true hj
  subst hj
  obtain ⟨ag,ds,_,hv,h⟩:=r.cells h
  obtain ⟨css,rd',g1,g2,g3⟩:=dz9 r (e:=e) (n:=n) parts (j+1) h
  refine ⟨ds::css,rd',g1,by simp [g2],fun hall=>?_⟩
  have hl:=hall ds (List.mem_cons_self ..)
  obtain ⟨us,h1,h2⟩:=g3 fun cs hc=>hall cs (List.mem_cons_of_mem _ hc)
  have hu:=hv.cells
  refine ⟨_,h1.cons hu hl,fun cells hsz=>?_⟩
  simp only [List.length_cons] at hsz
  have e1:(j+(parts.length+1)) * P.cellsOf e=j * P.cellsOf e+P.cellsOf e+parts.length * P.cellsOf e:=by rw [Nat.add_mul,Nat.add_mul,Nat.one_mul]; omega
  have e2:(j+1+parts.length) * P.cellsOf e=j * P.cellsOf e+P.cellsOf e+parts.length * P.cellsOf e:=by rw [Nat.add_mul,Nat.add_mul,Nat.one_mul]
  have e3:(j+1) * P.cellsOf e=j * P.cellsOf e+P.cellsOf e:=by rw [Nat.add_mul,Nat.one_mul]
  have husz:(a.eval x).cells.size=P.cellsOf e:=by rw [hu.size,hl]
  have hulen:(a.eval x).cells.toList.length=P.cellsOf e:=by rw [Array.length_toList]; exact husz
  rw [List.map_cons,bY8 rfl husz (by show j * P.cellsOf e+_≤_; omega)]
  have e4:∀ cells:Array Value,(a.eval x).cells.zipIdx.foldl (fun cs (p:Value × Nat)=>cs.setIfInBounds (j * P.cellsOf e+p.2) p.1) cells=((a.eval x).cells.toList.zipIdx 0).foldl (fun cs (p:Value × Nat)=>cs.setIfInBounds (j * P.cellsOf e+p.2) p.1) cells:=by
   intro cells
   rw [← Array.foldl_toList,Array.toList_zipIdx]
  obtain ⟨k1,k2⟩:=dc4 (a.eval x).cells.toList 0 cells (j * P.cellsOf e) (by rw [hulen]; omega)
  obtain ⟨cells',m1,m2,m3⟩:=h2 _ (by rw [k1,e2]; omega)
  refine ⟨cells',?_,by rw [m2,k1],fun q=>?_⟩
  ·rw [← m1]
   exact congrArg (fun c=>Instr.fill _ c _) (e4 cells)
  rw [m3,k2,hulen,List.length_cons,e1,e2,e3,Nat.add_zero]
  by_cases c1:j * P.cellsOf e+P.cellsOf e≤q∧q < j * P.cellsOf e+P.cellsOf e+parts.length * P.cellsOf e
  ·rw [if_pos c1,if_pos (by omega),List.getElem?_append_right (by rw [hulen]; omega),hulen]
   congr 1
   omega
  ·rw [if_neg c1]
   by_cases c2:j * P.cellsOf e≤q∧q < j * P.cellsOf e+P.cellsOf e
   ·rw [if_pos c2,if_pos (by omega),List.getElem?_append_left (by rw [hulen]; omega)]
   ·rw [if_neg c2,if_neg (by omega)]
def di2 (G:ab7) (p:Nat × Nat):Value:=.pointer (some ⟨(G.loc p.1).1,(G.loc p.1).2+p.2,none⟩)
theorem dA0 (r:R P U N L0 G0 w0 G σ a w) {e:TypeId} (he:P.cellsOf e=1) :
  ∀ (parts:List (Nat × Operand)) (i:Nat) {k:List (Nat × Nat)→ac6 U} {rd:List Nat} {ws:List (Nat × AV U.τ)},aa5 P U σ (cF2 P e parts i k) rd ws→
  ∃ ps rd',aa5 P U σ (k ps) rd' ws∧ps.length=parts.length∧(∀ (m:Nat) p,ps[m]?=some p→∃ cs,σ p.1=.box cs)∧
   ∀ cells:Array Value,i+parts.length≤cells.size→∃ cells',Instr.fill (fun i=>some (i * P.cellsOf e,P.cellsOf e)) cells (parts.map fun p=>(p.1,a.eval p.2))=some cells'∧cells'.size=cells.size∧
    ∀ q,cells'[q]?=if i≤q∧q < i+parts.length then (ps[q - i]?).map (di2 G) else cells[q]?
 | [],i,k,rd,ws,h=>⟨[],rd,h,rfl,fun m p h=>by simp at h,fun cells _=>⟨cells,rfl,rfl,fun q=>by rw [if_neg (by simp)]⟩⟩
 | (j,x)::parts,i,k,rd,ws,h=>by
  simp only [cF2] at h
  obtain ⟨hj,h⟩:=aa5.of_cond h
  have hj:=Nat.eq_of_beq_eq_true hj
  subst hj
  obtain ⟨v,_,h1,h⟩:=r.opd h
  split at h
  ·rename_i s off
   obtain ⟨hb,hp⟩:=h1.ref
   obtain ⟨ps,rd',g1,g2,g3,g4⟩:=dA0 r he parts (j+1) h
   refine ⟨(s,off)::ps,rd',g1,by simp [g2],fun m p hm=>?_,fun cells hsz=>?_⟩
   ·cases m with
    | zero=>injection hm with hm; subst hm; exact hb
    | succ m=>exact g3 m p hm
   ·simp only [List.length_cons] at hsz
    have hc:(a.eval x).cells=#[di2 G (s,off)]:=by rw [hp]; rfl
    have husz:(a.eval x).cells.size=P.cellsOf e:=by rw [hc,he]; rfl
    rw [List.map_cons,bY8 rfl husz (by show j * P.cellsOf e+_≤_; rw [husz,he]; omega)]
    have e4:(a.eval x).cells.zipIdx.foldl (fun cs (p:Value × Nat)=>cs.setIfInBounds (j * P.cellsOf e+p.2) p.1) cells=(([di2 G (s,off)]:List Value).zipIdx 0).foldl (fun cs (p:Value × Nat)=>cs.setIfInBounds (j * P.cellsOf e+p.2) p.1) cells:=by
     rw [← Array.foldl_toList,Array.toList_zipIdx,hc]
    obtain ⟨k1,k2⟩:=dc4 [di2 G (s,off)] 0 cells (j * P.cellsOf e) (by simp [he]; omega)
    obtain ⟨cells',m1,m2,m3⟩:=g4 _ (by rw [k1]; omega)
    refine ⟨cells',?_,by rw [m2,k1],fun q=>?_⟩
    ·rw [← m1]
     exact congrArg (fun c=>Instr.fill _ c _) e4
    rw [m3,k2,he]
    simp only [List.length_cons,List.length_nil,Nat.mul_one,Nat.add_zero,Nat.zero_add]
    by_cases c1:j+1≤q∧q < j+1+parts.length
    ·rw [if_pos c1,if_pos (by omega),show q - j=(q - (j+1))+1 by omega,List.getElem?_cons_succ]
    ·rw [if_neg c1]
     by_cases c2:q=j
     ·subst c2
      rw [if_pos (by omega),if_pos (by omega),Nat.sub_self]; rfl
     ·rw [if_neg (by omega),if_neg (by omega)]
  ·exact h.of_fail.elim
end
end Go.VI
namespace Go.VI
open Go
section
variable {P:Program} {U:ad6} {N:Nat} {L0:Nat→Nat} {G0:ab7} {w0:World} {G:ab7} {σ:ac0 U} {a:Act} {w:World} {o:Oper} {adv:Adv}
def dc5 (P:Program) (U:ad6) (cs cs':List (CV U.τ)):Prop:=
 cs'.length=cs.length∧∀ (j:Nat) c c',cs[j]?=some c→cs'[j]?=some c'→∀ w I u,PC P U w I c u→PC P U w I c' u
structure aF4 (P:Program) (U:ad6):Prop where
 dec:∀ e cs x,U.dec e cs=some x→dc5 P U cs (U.enc e x)
theorem ec3 (hU:aF4 P U) {e:Nat}:∀ (css:List (List (CV U.τ))) (xs:List (U.τ e)),dM2 U e css=some xs→xs.length=css.length∧∀ (i:Nat) cs x,css[i]?=some cs→xs[i]?=some x→dc5 P U cs (U.enc e x)
 | [],xs,h=>by
  simp only [dM2,Option.some.injEq] at h
  subst h
  exact ⟨rfl,fun i cs x h=>by simp at h⟩
 | cs::css,xs,h=>by
  simp only [dM2] at h
  split at h
  ·rename_i x ys h1 h2
   injection h with h; subst h
   obtain ⟨k1,k2⟩:=ec3 hU css ys h2
   refine ⟨by simp [k1],fun i cs' x' hi hx=>?_⟩
   cases i with
   | zero=>simp at hi hx; subst hi; subst hx; exact hU.dec e cs x h1
   | succ i=>exact k2 i cs' x' (by simpa using hi) (by simpa using hx)
  ·cases h
theorem di3 {n:Int} (h:IntKind.u8.has n):((aa1 n).toNat:Int)=n:=by
 unfold IntKind.has IntKind.min IntKind.max at h
 simp [IntKind.bits,IntKind.signed] at h
 unfold aa1
 simp only [Nat.toUInt8,UInt8.toNat_ofNat']
 omega
theorem bY9:∀ (css:List (List (CV U.τ))) (s:List UInt8),aQ5 css=some s→s.length=css.length∧∀ (i:Nat) cs y,css[i]?=some cs→s[i]?=some y→dc5 P U cs [.int .u8 y.toNat]
 | [],s,h=>by
  simp only [aQ5,Option.some.injEq] at h
  subst h
  exact ⟨rfl,fun i cs x h=>by simp at h⟩
 | cs::css,s,h=>by
  unfold aQ5 at h
  split at h
  ·rename_i hn; cases hn
  ·rename_i n r hn
   injection hn with e1 e2
   subst e1; subst e2
   split at h
   ·rename_i s' h2
    injection h with h; subst h
    obtain ⟨k1,k2⟩:=bY9 css s' h2
    refine ⟨by simp [k1],fun i cs' y hi hy=>?_⟩
    cases i with
    | zero=>
     simp at hi hy; subst hi; subst hy
     refine ⟨rfl,fun j c c' hj hj' w I u hp=>?_⟩
     cases j with
     | zero=>
      simp at hj hj'; subst hj; subst hj'
      have h3:=hp.of_int
      rw [di3 h3.2]
      exact hp
     | succ j=>simp at hj
    | succ i=>exact k2 i cs' y (by simpa using hi) (by simpa using hy)
   ·cases h
  ·cases h
theorem aF3.weaken {I:Nat→Nat→Prop} {sz:Nat} {css css':List (List (CV U.τ))} {us:List Value} (h:aF3 P U w I sz css us) (hl:css'.length=css.length) (hw:∀ (i:Nat) cs cs',css[i]?=some cs→css'[i]?=some cs'→dc5 P U cs cs'):aF3 P U w I sz css' us:=by
 have get:∀ (i:Nat) cs',css'[i]?=some cs'→∃ cs,css[i]?=some cs:=fun i cs' hi=>by
  have:=(List.getElem?_eq_some_iff.1 hi).1
  exact ⟨_,List.getElem?_eq_getElem (by omega)⟩
 refine ⟨by rw [h.size,hl],fun i cs' hi=>?_,fun i cs' j x hi hj=>?_⟩
 ·obtain ⟨cs,hc⟩:=get i cs' hi
  rw [(hw i cs cs' hc hi).1]; exact h.len i cs hc
 ·obtain ⟨cs,hc⟩:=get i cs' hi
  have hle:=hw i cs cs' hc hi
  have hjl:=(List.getElem?_eq_some_iff.1 hj).1
  obtain ⟨c,hcj⟩:∃ c,cs[j]?=some c:=⟨_,List.getElem?_eq_getElem (by rw [← hle.1]; exact hjl)⟩
  obtain ⟨u,hu,hp⟩:=h.cell i cs j c hc hcj
  exact ⟨u,hu,hle.2 j c x hcj hj _ _ _ hp⟩
theorem R.newTight (r:R P U N L0 G0 w0 G σ a w) {d:Nat} (hd:d < N) (ho:(σ d).owner=false) {c:CV U.τ} {e:Nat} {css:List (List (CV U.τ))} (hc:cont c=some (e,css,.tight)) {cells:Array Value} {us:List Value} (hf:aF3 P U w G.I (P.cellsOf e) css us)
  (hcells:∀ (q:Nat),us[q]?=cells[q]?) (hm:(css.length:Int)≤ad0) (T:TypeId) :
  ∃ G',R P U N L0 G0 w0 G' (upd σ d (.one c)) (a.put (some d) (.slice (some ⟨w.heap.size,0,none⟩) css.length css.length)) { w with heap:=w.heap.push (.cells cells T) }:=by
 have hh:({ w with heap:=w.heap.push (.cells cells T) }:World).heap=w.heap.push (.cells cells T):=rfl
 refine ⟨_,r.fresh (imm:=fun o=>o < cells.size) (wh:=none) (w':={ w with heap:=w.heap.push (.cells cells T) }) rfl rfl rfl rfl hd ho (fun _ h=>h) ?_⟩
 refine ac9.of_pc (PC.of_cont hc (by simp) (Nat.le_refl _) (fun _=>rfl) hm ?_)
 refine hf.cont (fun b o h=>⟨.inl h,bz5 hh b o (cj8 (r.imm b o h))⟩) (fun q u hq=>?_)
 rw [hcells] at hq
 rw [Nat.zero_add]
 exact ⟨.inr ⟨rfl,(Array.getElem?_eq_some_iff.1 hq).1⟩,by rw [aL0 hh]; exact hq⟩
theorem R.newBytes (r:R P U N L0 G0 w0 G σ a w) {d:Nat} (hd:d < N) (hσ:σ d=.undef) {e:Nat} (hz:P.cellsOf e=1) {s:List UInt8} {q:Bool} {cells:Array Value} {cap:Nat} {T:TypeId} {fz:Nat × Nat} (hm:(s.length:Int)≤ad0)
  (hcells:∀ (i:Nat) b,s[i]?=some b→cells[i]?=some (.int .u8 b.toNat)) (hcap:s.length≤cap) (hsz:s.length≤cells.size) (hq:q=true→cap=s.length) (hfz:∀ o,fz.1≤o→o < fz.2→cells.size≤o)
  {w':World} (hh:w'.heap=w.heap.push (.cells cells T fz)) (h1:w'.os=w.os) (h2:w'.tape=w.tape) (h3:w'.output=w.output) :
  ∃ G',R P U N L0 G0 w0 G' (upd σ d (.bblk e s q)) (a.put (some d) (.slice (some ⟨w.heap.size,0,none⟩) s.length cap)) w':=by
 refine ⟨_,r.fresh (imm:=fun _=>False) (wh:=some (d,none)) hh h1 h2 h3 hd (by rw [hσ]; rfl) (fun _ h=>h.elim) ?_⟩
 have hloc:(bh2 G w.heap.size d (fun _=>False) (some (d,none))).loc d=(w.heap.size,0):=if_pos rfl
 refine ⟨fun _=>⟨cap,by rw [hloc],hcap,hq⟩,?_⟩
 rw [hloc]
 refine ⟨if_pos rfl,fun o h=>?_,hz,hm,cells,T,fz,by rw [aH7 hh,if_pos rfl],by simpa using hsz,hfz,fun i b hi=>by simpa using hcells i b hi⟩
 rcases h with h | ⟨_,h⟩
 ·exact r.notI o h
 ·exact h
theorem dN5 (r:R P U N L0 G0 w0 G σ a w) (hd:∀ d,o.dst=some d→d < N) {t:TypeId} {n:Nat} {parts:Array (Nat × Operand)} (ho:o.op=.buildSlice t n parts) {e:TypeId} (hu:P.underlying t=some (.slice e)) {rd:List Nat} {ws:List (Nat × AV U.τ)}
  (h:aa5 P U σ (cond (Nat.beq (P.cellsOf e) 1 && Nat.ble n 16777216 && Nat.ble 1 n && (bz1 (U:=U) P e).isSome) (cF2 P e parts.toList 0 fun ps=>match ps with
    | []=>.fail
    | (s,o1)::r=>cond (Nat.beq (r.length+1) n && r.all fun p=>Nat.beq p.1 s) (match o.dst with | some d=>wr (some d) (.one (.prow s (o1::r.map (·.2)))) | none=>.fail) .fail) .fail) rd ws) :
  ae5 P U N L0 G0 w0 σ o a w ws:=by
 obtain ⟨hb,h⟩:=aa5.of_cond h
 simp only [Bool.and_eq_true] at hb
 obtain ⟨⟨⟨hz,hn⟩,hn1⟩,hzero⟩:=hb
 have hz:=Nat.eq_of_beq_eq_true hz
 have hn:=Nat.le_of_ble_eq_true hn
 have hn1:=Nat.le_of_ble_eq_true hn1
 obtain ⟨ps,_,h,hlen,hbox,hfill⟩:=dA0 r hz parts.toList 0 h
 split at h
 ·exact h.of_fail.elim
 ·rename_i s o1 rs
  obtain ⟨hb,h⟩:=aa5.of_cond h
  simp only [Bool.and_eq_true] at hb
  have hcn:=Nat.eq_of_beq_eq_true hb.1
  have hsame:∀ (m:Nat) p,((s,o1)::rs)[m]?=some p→p.1=s∧(o1::rs.map (·.2))[m]?=some p.2:=by
   intro m p hm
   cases m with
   | zero=>injection hm with hm; subst hm; exact ⟨rfl,rfl⟩
   | succ m=>
    have hm:rs[m]?=some p:=hm
    refine ⟨Nat.eq_of_beq_eq_true (List.all_eq_true.1 hb.2 p (List.mem_of_getElem? hm)),?_⟩
    show (rs.map (·.2))[m]?=some p.2
    rw [List.getElem?_map,hm]; rfl
  obtain ⟨⟨ag,z⟩,hzc⟩:=Option.isSome_iff_exists.1 hzero
  obtain ⟨zv,hzr,_⟩:=bf0 (w:=w) (I:=G.I) hzc
  have hpl:parts.toList.length=n:=by rw [← hlen]; simpa using hcn
  obtain ⟨cells',k1,k2,k3⟩:=hfill ((Array.range (n * P.cellsOf e)).map (zv.cells[· % zv.cells.size]!)) (by simp [hpl,hz])
  have hsz:cells'.size=n:=by rw [k2]; simp [hz]
  have hrun:(execOp a.eval o).run P w=.ok (.value (.slice (some ⟨w.heap.size,0,none⟩) n n)) { w with heap:=w.heap.push (.cells cells' e) }:=by
   have g5:(parts.map fun (x:Nat × Operand)=>match x with | (i,x)=>(i,a.eval x))=parts.map fun p=>(p.1,a.eval p.2):=rfl
   have g6:(parts.map fun p=>(p.1,a.eval p.2)).toList=parts.toList.map fun p=>(p.1,a.eval p.2):=Array.toList_map
   have g7:¬(n * P.cellsOf e > 2 ^ 24):=by rw [hz]; omega
   have h0:¬(n * P.cellsOf e=0):=by rw [hz]; omega
   simp only [execOp,ho,Sem.run_bind,Instr.buildSlice,run_underlying hu,Result.andThen_ok,run_sizeOf (show 1≤P.cellsOf e by omega),if_neg g7,if_neg h0,hzr,Sem.run_pure,g5,g6,k1]
   simp [newRow]
  have hm:(n:Int)≤ad0:=by unfold ad0; omega
  have hl:(o1::rs.map (·.2)).length=n:=by simpa using hcn
  cases hdst:o.dst with
  | none=>rw [hdst] at h; exact h.of_fail.elim
  | some d0=>
  rw [hdst] at h
  unfold ae5 az3
  rw [hrun,hdst]
  rcases h.of_wr with ⟨h1,_⟩ | ⟨d,h1,h2,h3⟩
  ·cases h1
  ·injection h1 with h1; subst h1
   rw [h2]
   have hd':=hd d0 hdst
   have hh:({ w with heap:=w.heap.push (.cells cells' e) }:World).heap=w.heap.push (.cells cells' e):=rfl
   refine ⟨_,r.fresh (imm:=fun o=>o < cells'.size) (wh:=none) (w':={ w with heap:=w.heap.push (.cells cells' e) }) rfl rfl rfl rfl hd' h3 (fun _ h=>h) ?_⟩
   obtain ⟨cs,hs⟩:=hbox 0 (s,o1) rfl
   have hsd:s≠d0:=fun he=>by rw [← he,hs] at h3; cases h3
   have hloc:(bh2 G w.heap.size d0 (fun o=>o < cells'.size) none).loc s=G.loc s:=if_neg hsd
   refine ⟨⟨cs,by simp [upd,hsd,hs]⟩,by rw [hl]; exact hm,w.heap.size,0,by rw [hl],fun j q hj=>?_⟩
   have hjl:j < n:=by rw [← hl]; exact (List.getElem?_eq_some_iff.1 hj).1
   have hjp:j < ((s,o1)::rs).length:=by simp at hcn ⊢; omega
   obtain ⟨e1,e2⟩:=hsame j _ (List.getElem?_eq_getElem hjp)
   rw [hj] at e2
   injection e2 with e2
   rw [Nat.zero_add]
   refine ⟨.inr ⟨rfl,by rw [hsz]; exact hjl⟩,?_⟩
   rw [aL0 hh,k3,if_pos (by omega),Nat.sub_zero,List.getElem?_eq_getElem hjp,Option.map_some,di2,e1,← e2,hloc]
theorem dF0 (hU:aF4 P U) (r:R P U N L0 G0 w0 G σ a w) (hd:∀ d,o.dst=some d→d < N) {t:TypeId} {n:Nat} {parts:Array (Nat × Operand)} (ho:o.op=.buildSlice t n parts) {rd:List Nat} {ws:List (Nat × AV U.τ)} (h:aa5 P U σ (ac3 P adv o) rd ws) :
  ae5 P U N L0 G0 w0 σ o a w ws:=by
 simp only [ac3,ho] at h
 split at h
 ·rename_i e hu
  cases hptr:eJ0 P e with
  | true=>
   rw [hptr,cond_true] at h
   exact dN5 r hd ho hu h
  | false=>
  rw [hptr,cond_false] at h
  obtain ⟨hb,h⟩:=aa5.of_cond h
  simp only [Bool.and_eq_true] at hb
  obtain ⟨⟨hz,hn⟩,hzero⟩:=hb
  have hz:=Nat.le_of_ble_eq_true hz
  have hn:=Nat.le_of_ble_eq_true hn
  obtain ⟨css,_,h,hlen,hp⟩:=dz9 r (n:=n) parts.toList 0 h
  obtain ⟨hb,h⟩:=aa5.of_cond h
  simp only [Bool.and_eq_true] at hb
  have hcn:=Nat.eq_of_beq_eq_true hb.1
  obtain ⟨us,hf,hfill⟩:=hp (fun cs hcs=>Nat.eq_of_beq_eq_true (List.all_eq_true.1 hb.2 cs hcs))
  obtain ⟨⟨ag,z⟩,hzc⟩:=Option.isSome_iff_exists.1 hzero
  obtain ⟨zv,hzr,_⟩:=bf0 (w:=w) (I:=G.I) hzc
  have hpl:parts.toList.length=n:=by rw [← hlen,hcn]
  let zero:Array Value:=if n * P.cellsOf e=0 then #[] else zv.cells
  obtain ⟨cells',k1,k2,k3⟩:=hfill ((Array.range (n * P.cellsOf e)).map (zero[· % zero.size]!)) (by simp [hpl])
  have hsz:cells'.size=n * P.cellsOf e:=by rw [k2]; simp
  have hcells:∀ (q:Nat),us[q]?=cells'[q]?:=by
   intro q
   rw [k3,Nat.zero_mul,Nat.zero_add,hpl]
   by_cases hq:q < n * P.cellsOf e
   ·rw [if_pos ⟨Nat.zero_le _,hq⟩,Nat.sub_zero]
   ·rw [if_neg (fun hh=>hq hh.2),List.getElem?_eq_none (by rw [hf.size,hcn]; omega),Array.getElem?_eq_none (by simp; omega)]
  have hrun:(execOp a.eval o).run P w=.ok (.value (.slice (some ⟨w.heap.size,0,none⟩) n n)) { w with heap:=w.heap.push (.cells cells' e) }:=by
   have g5:(parts.map fun (x:Nat × Operand)=>match x with | (i,x)=>(i,a.eval x))=parts.map fun p=>(p.1,a.eval p.2):=rfl
   have g6:(parts.map fun p=>(p.1,a.eval p.2)).toList=parts.toList.map fun p=>(p.1,a.eval p.2):=Array.toList_map
   have g7:¬(n * P.cellsOf e > 2 ^ 24):=by omega
   by_cases h0:n * P.cellsOf e=0
   ·have hz0:zero=#[]:=if_pos h0
    rw [hz0] at k1
    simp only [execOp,ho,Sem.run_bind,Instr.buildSlice,run_underlying hu,Result.andThen_ok,run_sizeOf hz,if_neg g7,if_pos h0,Sem.run_pure,g5,g6,k1]
    simp [newRow]
   ·have hz0:zero=zv.cells:=if_neg h0
    rw [hz0] at k1
    simp only [execOp,ho,Sem.run_bind,Instr.buildSlice,run_underlying hu,Result.andThen_ok,run_sizeOf hz,if_neg g7,if_neg h0,hzr,Sem.run_pure,g5,g6,k1]
    simp [newRow]
  have hm:(n:Int)≤ad0:=by
   have:n * 1≤n * P.cellsOf e:=Nat.mul_le_mul_left _ hz
   unfold ad0; omega
  have tightCase:∀ (d:Nat) (c:CV U.τ) (css':List (List (CV U.τ))) (rd':List Nat),o.dst=some d→cont c=some (e,css',.tight)→css'.length=css.length→(∀ (i:Nat) cs cs',css[i]?=some cs→css'[i]?=some cs'→dc5 P U cs cs')→
    aa5 P U σ (wr (some d) (.one c)) rd' ws→ae5 P U N L0 G0 w0 σ o a w ws:=by
   intro d c css' rd' hdst hc hl hle hw
   have hf':=hf.weaken hl hle
   unfold ae5 az3
   rw [hrun,hdst]
   rcases hw.of_wr with ⟨h1,_⟩ | ⟨d',h1,h2,h3⟩
   ·cases h1
   ·injection h1 with h1; subst h1
    rw [h2]
    have:=r.newTight (hd d hdst) h3 hc hf' hcells (by rw [hl,hcn]; exact hm) e
    rw [hl,hcn] at this
    exact this
  cases hu8:bC9 P e with
  | true=>
   rw [hu8] at h
   simp only [cond_true] at h
   split at h
   ·rename_i s hs
    obtain ⟨k4,k5⟩:=bY9 (P:=P) css s hs
    cases hdst:o.dst with
    | none=>rw [hdst] at h; exact h.of_fail.elim
    | some d=>
     rw [hdst] at h
     cases hmut:ao2 d adv.mutb with
     | true=>
      simp only [hmut,cond_true] at h
      obtain ⟨_,h⟩:=h.of_read
      cases hσ:σ d <;> rw [hσ] at h <;> first | exact h.of_fail.elim | skip
      have:=h.of_done
      subst this
      unfold ae5 az3
      rw [hrun,hdst]
      have h1:=(be9 hu8).1
      have hfw:=hf.weaken (css':=s.map fun b=>[.int .u8 b.toNat]) (by simp [k4]) (fun i cs cs' hi hi'=>by
       rw [List.getElem?_map] at hi'
       cases hsi:s[i]? with
       | none=>rw [hsi] at hi'; cases hi'
       | some y=>rw [hsi] at hi'; injection hi' with hi'; subst hi'; exact k5 i cs y hi hsi)
      have:=r.newBytes (hd d hdst) hσ (q:=true) (s:=s) h1 (cells:=cells') (cap:=n) (T:=e) (fz:=(0,0)) (by rw [k4,hcn]; exact hm) (fun i b hi=>by
       obtain ⟨u,hu',hp'⟩:=hfw.cell i [.int .u8 b.toNat] 0 _ (by rw [List.getElem?_map,hi]; rfl) rfl
       rw [h1,Nat.mul_one,Nat.add_zero,hcells,hp'.of_int.1] at hu'
       exact hu') (by omega) (by rw [hsz,h1]; omega) (fun _=>by omega) (fun o h1 h2=>by simp at h2) (w':={ w with heap:=w.heap.push (.cells cells' e) }) rfl rfl rfl rfl
      rw [k4,hcn] at this
      exact this
     | false=>
      simp only [hmut,cond_false] at h
      refine tightCase d _ (s.map fun b=>[.int .u8 b.toNat]) _ hdst rfl (by simp [k4]) (fun i cs cs' hi hi'=>?_) h
      rw [List.getElem?_map] at hi'
      cases hsi:s[i]? with
      | none=>rw [hsi] at hi'; cases hi'
      | some y=>rw [hsi] at hi'; injection hi' with hi'; subst hi'; exact k5 i cs y hi hsi
   ·exact h.of_fail.elim
  | false=>
   rw [hu8] at h
   simp only [cond_false] at h
   split at h
   ·rename_i xs d hs hdst
    obtain ⟨k4,k5⟩:=ec3 hU css xs hs
    refine tightCase d _ (xs.map (U.enc e)) _ hdst rfl (by simp [k4]) (fun i cs cs' hi hi'=>?_) h
    rw [List.getElem?_map] at hi'
    cases hxi:xs[i]? with
    | none=>rw [hxi] at hi'; cases hi'
    | some y=>rw [hxi] at hi'; injection hi' with hi'; subst hi'; exact k5 i cs y hi hxi
   ·exact h.of_fail.elim
 ·exact h.of_fail.elim
theorem di4 {n:Int} (h0:0≤n) (h1:n≤ah8):IntKind.i64.wrap n=n:=by
 unfold ah8 at h1
 unfold IntKind.wrap
 simp [IntKind.bits,IntKind.signed]
 omega
end
end Go.VI
namespace Go.VI
open Go
section
variable {P:Program} {U:ad6} {N:Nat} {L0:Nat→Nat} {G0:ab7} {w0:World} {G:ab7} {σ:ac0 U} {a:Act} {w:World} {o:Oper} {adv:Adv}
theorem dY2 (xs:Array Obj) (x:Obj) (f:Obj→Obj):(xs.push x).modify xs.size f=xs.push (f x):=by
 apply Array.ext
 ·simp
 ·intro i h1 h2
  rw [Array.getElem_modify,Array.getElem_push,Array.getElem_push]
  by_cases hi:i < xs.size
  ·simp [hi]; omega
  ·have:i=xs.size:=by simp at h2; omega
   simp [this]
theorem cU4 (s:List UInt8) (e:TypeId) (hm:(s.length:Int)≤ad0):∃ (cap:Nat) (w':World),s.length≤cap∧
  (Conv.stringToBytes e ⟨⟨s⟩⟩).run P w=.ok (.slice (some ⟨w.heap.size,0,none⟩) s.length cap) w'∧w'.os=w.os∧w'.tape=w.tape∧w'.output=w.output∧
  ∃ cells:Array Value,w'.heap=w.heap.push (.cells cells e (cells.size,cells.size+1))∧cells.size=cap∧∀ (i:Nat) b,s[i]?=some b→cells[i]?=some (.int .u8 b.toNat):=by
 have hs:(⟨⟨s⟩⟩:ByteArray).size=s.length:=rfl
 let cap:=(Question.appendCap s.length 0 e).cut (w.tape w.drawn (Question.appendCap s.length 0 e))
 have hcap:s.length≤cap:=Nat.le_add_right _ _
 let cells:Array Value:=(⟨s⟩:Array UInt8).map (fun b=>Value.int .u8 b.toNat)++Array.replicate (cap - s.length) (.int .u8 0)
 have hcs:cells.size=cap:=by simp [cells]; omega
 refine ⟨cap,{ w with drawn:=w.drawn+1,heap:=w.heap.push (.cells cells e (cells.size,cells.size+1)) },hcap,?_,rfl,rfl,rfl,cells,rfl,hcs,fun i b hi=>?_⟩
 ·have hsh:∀ w2:World,w2.heap=w.heap.push (.cells cells e (0,0))→w2.shape? w.heap.size=some (e,cells.size):=fun w2 h2=>by simp [World.shape?,h2]
  have hfr:({ w with drawn:=w.drawn+1,heap:=w.heap.push (.cells cells e (0,0)) }:World).freeze { block:=w.heap.size,off:=cells.size } 1={ w with drawn:=w.drawn+1,heap:=w.heap.push (.cells cells e (cells.size,cells.size+1)) }:=by
   simp only [World.freeze]
   rw [if_neg (by omega),dY2]
   simp
  simp only [Conv.stringToBytes,Sem.run_bind,run_choose,Question.forced,hs,Bool.false_eq_true,if_false,Result.andThen_ok,newRow,run_newObj,Sem.run_pure,markStringish,run_shape]
  rw [hsh _ rfl]
  simp only [run_freeze,Result.andThen_ok]
  rw [← hfr]
 ·have hlt:=(List.getElem?_eq_some_iff.1 hi).1
  rw [Array.getElem?_append_left (by simpa using hlt)]
  simp [hi]
theorem eh5 (r:R P U N L0 G0 w0 G σ a w) (hd:∀ d,o.dst=some d→d < N) {s d:TypeId} {x:Operand} (ho:o.op=.convert s d x) {rd:List Nat} {ws:List (Nat × AV U.τ)} (h:aa5 P U σ (ac3 P adv o) rd ws) :
  ae5 P U N L0 G0 w0 σ o a w ws:=by
 simp only [ac3,ho] at h
 obtain ⟨v,_,h1,h⟩:=r.opd h
 split at h
 ·rename_i k j n hs hdd
  refine r.valuePC hd ?_ h (.int _ _ (IntKind.has_wrap _ _))
  simp [execOp,ho,Go.convert,h1.int.1,run_underlying hs,run_underlying hdd,Conv.intToInt]
 ·rename_i t hs hdd
  refine r.valuePC hd ?_ h (.str _ h1.str.2)
  simp [execOp,ho,Go.convert,h1.str.1,run_underlying hs,run_underlying hdd]
 ·rename_i e t hs hdd
  obtain ⟨hu8,h⟩:=aa5.of_cond h
  obtain ⟨g1,g2,g3,_⟩:=be9 hu8
  obtain ⟨cap,w',k1,k2,k3,k4,k5,cells,k6,k7,k8⟩:=cU4 (P:=P) (w:=w) t e h1.str.2
  have hrun:(execOp a.eval o).run P w=.ok (.value (.slice (some ⟨w.heap.size,0,none⟩) t.length cap)) w':=by
   simp [execOp,ho,Go.convert,h1.str.1,run_underlying hs,run_underlying hdd,run_underlying g3,k2]
  cases hdst:o.dst with
  | none=>rw [hdst] at h; exact h.of_fail.elim
  | some dd=>
   rw [hdst] at h
   unfold ae5 az3
   rw [hrun,hdst]
   cases hmut:ao2 dd adv.mutb with
   | true=>
    simp only [hmut,cond_true] at h
    obtain ⟨_,h⟩:=h.of_read
    cases hσ:σ dd <;> rw [hσ] at h <;> first | exact h.of_fail.elim | skip
    have:=h.of_done
    subst this
    exact r.newBytes (hd dd hdst) hσ g1 h1.str.2 k8 k1 (by omega) (fun hq=>by cases hq) (fun o h1 h2=>h1) k6 k3 k4 k5
   | false=>
    simp only [hmut,cond_false] at h
    rcases h.of_wr with ⟨h2,_⟩ | ⟨d',h2,h3,h4⟩
    ·cases h2
    ·injection h2 with h2; subst h2
     rw [h3]
     have hh:=k6
     refine ⟨_,r.fresh (imm:=fun o=>o < t.length) (wh:=some (dd,none)) k6 k3 k4 k5 (hd dd hdst) h4 (fun o ho=>by omega) (.inr ?_)⟩
     have hlen:(t.map fun b=>([.int .u8 b.toNat]:List (CV U.τ))).length=t.length:=List.length_map _
     refine ⟨e,t.map fun b=>[.int .u8 b.toNat],rfl,by rw [hlen]; exact h1.str.2,.inr ⟨w.heap.size,0,cap,by rw [hlen],by rw [hlen]; exact k1,?_,.inr ⟨if_pos rfl,cells,e,_,by rw [aH7 k6,if_pos rfl],by rw [g1]; omega,fun o h1 h2=>h1,fun o h1 h2 hI=>?_⟩⟩⟩
     ·have get:∀ (i:Nat) (cs:List (CV U.τ)),(t.map fun b=>([.int .u8 b.toNat]:List (CV U.τ)))[i]?=some cs→∃ b,t[i]?=some b∧cs=[.int .u8 b.toNat]:=fun i cs hi=>by
       rw [List.getElem?_map] at hi
       cases hti:t[i]? with
       | none=>rw [hti] at hi; cases hi
       | some b=>rw [hti] at hi; injection hi with hi; exact ⟨b,rfl,hi.symm⟩
      rw [g1]
      refine ⟨fun i cs hi=>by obtain ⟨b,_,rfl⟩:=get i cs hi; rfl,fun i cs j y hi hj=>?_,fun i cs j y hi hj=>?_⟩
      ·obtain ⟨b,hb,rfl⟩:=get i cs hi
       have:=(List.getElem?_eq_some_iff.1 hb).1
       cases j with
       | zero=>exact .inr ⟨rfl,by omega⟩
       | succ j=>simp at hj
      ·obtain ⟨b,hb,rfl⟩:=get i cs hi
       cases j with
       | zero=>
        simp at hj; subst hj
        exact ⟨_,by rw [Nat.zero_add,Nat.mul_one,Nat.add_zero,aL0 k6]; exact k8 i b hb,.int _ _ (dh7 b)⟩
       | succ j=>simp at hj
     ·rw [hlen,g1] at h1
      rcases hI with hI | ⟨_,hI⟩
      ·exact r.notI o hI
      ·omega
 ·rename_i v2 e hs hdd
  obtain ⟨hu8,h⟩:=aa5.of_cond h
  obtain ⟨g1,g2,g3,_⟩:=be9 hu8
  have main:∀ v' rd',Opd (P:=P) G σ w x v' (a.eval x)→aa5 P U σ (bM6 v' fun s=>wr o.dst (.one (.str s))) rd' ws→(∀ s,v'≠.one (.str s))→ae5 P U N L0 G0 w0 σ o a w ws:=by
   intro v' rd' h1 h hne
   obtain ⟨s',_,hw,hm,⟨h2,_⟩ | ⟨h2,q,cap,h3⟩ | ⟨b,off,cap,h2,h3⟩⟩:=di0 r h1 h
   ·exact absurd h2 (hne _)
   ·refine r.valuePC hd ?_ hw (.str _ hm)
    subst h2
    cases q with
    | none=>
     simp [execOp,ho,Go.convert,h3,run_underlying hs,run_underlying hdd,run_underlying g3,Conv.bytesToString]
     rfl
    | some p=>
     have hld:(loadCells p 0).run P w=.ok #[] w:=rfl
     simp [execOp,ho,Go.convert,h3,run_underlying hs,run_underlying hdd,run_underlying g3,Conv.bytesToString,hld]
     rfl
   ·refine r.valuePC hd ?_ hw (.str _ hm)
    simp [execOp,ho,Go.convert,h2,run_underlying hs,run_underlying hdd,run_underlying g3,dN3 s' b off cap h3]
  split at h
  ·exact h.of_fail.elim
  ·rename_i hne
   exact main _ _ h1 h (fun s he=>hne s he)
 ·exact h.of_fail.elim
theorem as1.cells {I:Nat→Nat→Prop} {who:Nat→Option (Nat × Option Nat)} {s:Nat} {p:Nat × Nat} {cs:List (CV U.τ)} (h:as1 P U w I who s p cs):∀ (j:Nat) c,cs[j]?=some c→∃ y,w.cell? ⟨p.1,p.2+j,none⟩=some y∧ae3 P U w I who (s,some j) c y:=by
 obtain ⟨c,T,fz,h1,h2,h3,h4⟩:=h.row
 intro j x hj
 obtain ⟨u,hu,hk⟩:=h4 j x hj
 exact ⟨u,by rw [ag3 h1]; exact hu,hk⟩
theorem R.loadApp (r:R P U N L0 G0 w0 G σ a w) {s off d:Nat} {cs:List (CV U.τ)} {c:CV U.τ} {e:Nat} {css:List (List (CV U.τ))} {u:Value} (hs:σ s=.box cs) (hx:cs[off]?=some c) (hu:w.cell? ⟨(G.loc s).1,(G.loc s).2+off,none⟩=some u) (hc:cont c=some (e,css,.app)) (hd:d < N) (ho:(σ d).owner=false) :
  ∃ G',R P U N L0 G0 w0 G' (upd (upd σ d (.one c)) s (.box (cs.set off c.plain))) (a.put (some d) u) w:=by
 have hsd:s≠d:=fun he=>by subst he; rw [hs] at ho; cases ho
 have hbox:=r.slots s
 rw [hs] at hbox
 obtain ⟨hb1,hb2⟩:=hbox
 have happ:aU3 P U w G.I G.who (s,some off) c u:=by
  obtain ⟨y,hy,hk⟩:=hb2.cells off c hx
  rw [hu] at hy; injection hy with hy; subst hy
  rcases hk with hk | hk
  ·exact absurd rfl (hk.slice hc).1
  ·exact hk
 have hp:=happ.plain
 have hn:∀ t,(σ t).owner=true→t≠d:=fun t ht he=>by rw [he,ho] at ht; cases ht
 let G':ab7:=⟨G.I,G.loc,fun b=>if G.who b=some (s,some off) then some (d,none) else G.who b⟩
 have same:∀ t,t≠d→t≠s→(upd (upd σ d (.one c)) s (.box (cs.set off c.plain))) t=σ t:=fun t h1 h2=>by simp [upd,h1,h2]
 have at_s:(upd (upd σ d (.one c)) s (.box (cs.set off c.plain))) s=.box (cs.set off c.plain):=by simp [upd]
 have x:Ext (fun L=>L=(s,some off)) G G' σ (upd (upd σ d (.one c)) s (.box (cs.set off c.plain))) w w:=by
  refine ⟨fun _ _ h=>⟨h,rfl⟩,fun b L h hL=>⟨?_,rfl,fun _ h=>h⟩,fun _ _=>rfl,fun t cs' ht=>?_,fun t e y q ht=>?_⟩
  ·show (if G.who b=some (s,some off) then some (d,none) else G.who b)=some L
   rw [if_neg (fun he=>hL (by rw [h] at he; injection he)),h]
  ·by_cases hts:t=s
   ·rw [hts]; exact ⟨_,at_s⟩
   ·exact ⟨cs',by rw [same t (hn t (by rw [ht]; rfl)) hts,ht]⟩
  ·have hts:t≠s:=fun he=>by rw [he,hs] at ht; cases ht
   exact ⟨e,y,by rw [same t (hn t (by rw [ht]; rfl)) hts,ht],rfl⟩
 have st:aF1 G w G' w:=by
  refine ⟨rfl,rfl,rfl,Nat.le_refl _,fun _ _ _=>rfl,fun _ _ h=>⟨h,rfl⟩,fun _ _ h=>.inl h,fun b L h=>.inr ?_⟩
  have h':(if G.who b=some (s,some off) then some (d,none) else G.who b)=some L:=h
  split at h'
  ·rename_i hh; simp [hh]
  ·simp [h']
 refine ⟨G',r.go x st rfl (by simp [Act.put]) (fun _ _=>rfl) (fun b o h=>.inl h) (fun b L h=>.inl ?_) (fun t cs' ht hσ=>?_) (fun t=>?_)⟩
 ·have h':(if G.who b=some (s,some off) then some (d,none) else G.who b)=some L:=h
  split at h'
  ·rename_i hh; exact ⟨_,hh⟩
  ·exact ⟨_,h'⟩
 ·have h1:t≠d:=fun he=>by have:=r.small; omega
  by_cases hts:t=s
  ·rw [hts] at hσ ht ⊢
   rw [at_s] at hσ
   injection hσ with hσ
   exact ⟨cs,hs,by rw [← hσ,List.length_set],fun _ _=>rfl⟩
  ·rw [same t h1 hts] at hσ
   exact ⟨cs',hσ,rfl,fun _ _=>rfl⟩
 ·rw [bs4 (Nat.lt_of_lt_of_le hd r.size)]
  by_cases hts:t=s
  ·right
   rw [hts,at_s,if_neg hsd]
   refine ⟨hb1,?_⟩
   obtain ⟨k1,k2,k3⟩:=x.own (G.loc s).1 (s,none) hb2.hwho (by simp)
   obtain ⟨cc,T,fz,h1,h2,h3,h4⟩:=hb2.row
   refine ⟨k1,hb2.himm,cc,T,fz,h1,by rw [List.length_set]; exact h2,h3,fun i y hi=>?_⟩
   by_cases hio:i=off
   ·subst hio
    have hlt:=(List.getElem?_eq_some_iff.1 hx).1
    rw [List.getElem?_set_self hlt] at hi
    injection hi with hi; subst hi
    refine ⟨u,?_,.inl hp⟩
    rw [← ag3 h1]; exact hu
   ·rw [List.getElem?_set_ne (Ne.symm hio)] at hi
    obtain ⟨y',hy',hk⟩:=h4 i y hi
    exact ⟨y',hy',hk.mono x (fun he=>hio (by injection he with _ h2; injection h2))⟩
  ·by_cases htd:t=d
   ·right
    have h1:(upd (upd σ d (.one c)) s (.box (cs.set off c.plain))) t=.one c:=by rw [htd]; simp [upd,Ne.symm hsd]
    rw [h1,if_pos htd]
    have h3:aU3 P U w G'.I G'.who (t,none) c u:=by
     obtain ⟨e',css',k1,k2,k3⟩:=happ
     refine ⟨e',css',k1,k2,?_⟩
     rcases k3 with k3 | ⟨b,off',cap,k4,k5,k6,k7⟩
     ·exact .inl k3
     ·refine .inr ⟨b,off',cap,k4,k5,k6,?_⟩
      rcases k7 with k7 | ⟨k7,k8⟩
      ·exact .inl k7
      ·exact .inr ⟨by show (if G.who b=some (s,some off) then some (d,none) else G.who b)=_; rw [if_pos k7,htd],k8⟩
    cases c <;> first | (simp [cont] at hc; done) | exact .inr h3
   ·left
    refine ⟨same t htd hts,by rw [if_neg htd],(fun he=>by injection he with h1 h2; cases h2),(fun i he=>hts (by injection he))⟩
theorem ce2 {t:TypeId} (h:aI3 P t=true):∃ d,P.underlying t=some d∧ce0 d=false:=by
 unfold aI3 at h
 split at h
 ·cases h
 ·cases h
 ·rename_i d h1 h2 hu
  exact ⟨d,hu,by cases d <;> first | rfl | exact absurd hu (by simp_all)⟩
 ·cases h
theorem eL1 (r:R P U N L0 G0 w0 G σ a w) (hd:∀ d,o.dst=some d→d < N) {t:TypeId} {x:Operand} (ho:o.op=.load t x) {rd:List Nat} {ws:List (Nat × AV U.τ)} (h:aa5 P U σ (ac3 P adv o) rd ws) :
  ae5 P U N L0 G0 w0 σ o a w ws:=by
 simp only [ac3,ho] at h
 obtain ⟨hz,h⟩:=aa5.of_cond h
 have hz:=Nat.le_of_ble_eq_true hz
 obtain ⟨v,_,h1,h⟩:=r.opd h
 cases v with
 | one c=>
  cases c with
  | ref s off=>
   obtain ⟨⟨cs,hs⟩,hp⟩:=h1.ref
   obtain ⟨_,h⟩:=h.of_read
   rw [hs] at h
   simp only at h
   have hbox:=r.slots s
   rw [hs] at hbox
   cases hpart:al8 P t cs off with
   | none=>rw [hpart] at h; exact h.of_fail.elim
   | some v=>
    rw [hpart] at h
    simp only at h
    obtain ⟨k1,u,k2,k3,k4⟩:=cr2 (σ:=σ) (G:=G) (w:=w) hpart hz (b:=(G.loc s).1) (base:=(G.loc s).2) (fun j c hj=>by
     obtain ⟨y,hy,hk⟩:=hbox.2.cells j c hj
     exact ⟨y,hy,hk.plain⟩)
    have hrun:(execOp a.eval o).run P w=.ok (.value u) w:=by simp [execOp,ho,Instr.loadAt,hp,Instr.sureAddr,k2]
    cases hg:bx0 adv o.dst v with
    | true=>
     rw [hg] at h
     obtain ⟨d,c,e,css,g1,g2,g3⟩:=dN4 hg
     obtain ⟨g4,g5⟩:=k4 c g2
     simp only [cond_true] at h
     rcases h.of_wr with ⟨m1,_⟩ | ⟨d',m1,m2,m3⟩
     ·rw [g1] at m1; cases m1
     ·unfold ae5 az3
      rw [hrun,m1,m2,g2]
      exact r.loadApp hs g4 g5 g3 (hd d' m1) m3
    | false=>
     rw [hg] at h
     exact r.value hd hrun h k1 k3
  | eref s i=>
   obtain ⟨⟨e,y,q,hs⟩,hp⟩:=h1.eref
   obtain ⟨_,h⟩:=h.of_read
   rw [hs] at h
   obtain ⟨u,hu,h⟩:=h.of_opt
   have hblk:=r.slots s
   rw [hs] at hblk
   obtain ⟨c,T,fz,k1,k2,k3,k4⟩:=hblk.2.row
   obtain ⟨hz1,h⟩:=aa5.of_cond h
   obtain ⟨dsc,hu',hr⟩:=ce2 hz1
   refine r.valuePC hd (u:=.int .u8 u.toNat) ?_ h (.int _ _ (dh7 u))
   have hcell:w.cell? ⟨(G.loc s).1,(G.loc s).2+i,none⟩=some (.int .u8 u.toNat):=by rw [ag3 k1]; exact k4 i u hu
   simp [execOp,ho,Instr.loadAt,hp,Instr.sureAddr,loadVar,aB3 hu',hr,hcell]
  | pcell s q=>
   obtain ⟨hb,b,off,hp,_,hcell⟩:=h1.pcell
   obtain ⟨hz1,h⟩:=aa5.of_cond h
   obtain ⟨dsc,hu',hr⟩:=ce2 hz1
   refine r.value hd (u:=.pointer (some ⟨(G.loc s).1,(G.loc s).2+q,none⟩)) ?_ h rfl fun _=>⟨hb,rfl⟩
   simp [execOp,ho,Instr.loadAt,hp,Instr.sureAddr,loadVar,aB3 hu',hr,hcell]
  | aref s off m i=>
   obtain ⟨⟨cs,hs⟩,hi,hp⟩:=h1.aref
   obtain ⟨_,h⟩:=h.of_read
   rw [hs] at h
   simp only at h
   have hbox:=r.slots s
   rw [hs] at hbox
   split at h
   ·rename_i l hl
    split at h
    ·rename_i c hc
     obtain ⟨hz1,h⟩:=aa5.of_cond h
     obtain ⟨dsc,hu',hr⟩:=ce2 hz1
     obtain ⟨g1,g2⟩:=aF2 hl
     have hll:l.length=m:=by rw [g2]; simp; omega
     have g3:=dh8 hc hi.1 (by rw [hll]; exact hi.2)
     have g4:cs[off+i.toNat]?=some c:=by
      rw [g2,List.getElem?_take,if_pos (by omega),List.getElem?_drop] at g3
      exact g3
     obtain ⟨y,hy,hk⟩:=hbox.2.cells _ c g4
     have hpc:PC P U w G.I c y:=by
      have hk:=hk.plain
      have:c.plain=c:=by
       unfold cF1 at hc
       split at hc
       ·split at hc
        ·injection hc with hc; subst hc; rfl
        ·cases hc
       ·split at hc
        ·injection hc with hc; subst hc; rfl
        ·cases hc
       ·cases hc
      rwa [this] at hk
     refine r.valuePC hd ?_ h hpc
     simp [execOp,ho,Instr.loadAt,hp,Instr.sureAddr,loadVar,aB3 hu',hr,hy]
    ·exact h.of_fail.elim
   ·exact h.of_fail.elim
  | _=>exact h.of_fail.elim
 | im cs=>
  obtain ⟨b,off,hp,hc⟩:=h1.im
  simp only at h
  cases hpart:al8 P t cs 0 with
  | none=>rw [hpart] at h; exact h.of_fail.elim
  | some v=>
   rw [hpart] at h
   obtain ⟨k1,u,k2,k3,k4⟩:=cr2 (σ:=σ) (G:=G) (w:=w) hpart hz (b:=b) (base:=off) (fun j c hj=>by
    obtain ⟨_,y,hy,hk⟩:=hc j c hj
    exact ⟨y,hy,hk.plain⟩)
   rw [Nat.add_zero] at k2
   exact r.value hd (by simp [execOp,ho,Instr.loadAt,hp,Instr.sureAddr,k2]) h k1 k3
 | _=>exact h.of_fail.elim
end
end Go.VI
namespace Go.VI
open Go
theorem bD0 (b:Nat):∀ (vs:List Value) (o:Nat) (w:World),(w.setCells b o vs).heap.size=w.heap.size
 | [],_,_=>rfl
 | v::r,o,w=>by rw [World.setCells,bD0 b r]; simp
theorem ce3 (b:Nat):∀ (vs:List Value) (o:Nat) (w:World),(w.setCells b o vs).os=w.os∧(w.setCells b o vs).tape=w.tape∧(w.setCells b o vs).output=w.output
 | [],_,_=>⟨rfl,rfl,rfl⟩
 | v::r,o,w=>by rw [World.setCells]; exact ce3 b r (o+1) (w.setCell ⟨b,o,none⟩ v)
theorem aX8 {b b':Nat} (h:b'≠b):∀ (vs:List Value) (o:Nat) (w:World),(w.setCells b o vs).heap[b']?=w.heap[b']?
 | [],_,_=>rfl
 | v::r,o,w=>by
  rw [World.setCells,aX8 h r]
  simp only [World.setCell,Array.getElem?_modify]
  rw [if_neg (Ne.symm h)]
theorem bh3 {b:Nat}:∀ (vs:List Value) (o:Nat) (w:World) {c:Array Value} {T:TypeId} {fz:Nat × Nat},w.heap[b]?=some (.cells c T fz)→∃ c',(w.setCells b o vs).heap[b]?=some (.cells c' T fz)∧c'.size=c.size
 | [],_,w,c,_,_,h=>⟨c,h,rfl⟩
 | v::r,o,w,c,T,fz,h=>by
  rw [World.setCells]
  have h1:(w.setCell ⟨b,o,none⟩ v).heap[b]?=some (.cells (c.setIfInBounds o v) T fz):=by
   simp [World.setCell,Array.getElem?_modify,h]
  obtain ⟨c',h2,h3⟩:=bh3 r (o+1) _ h1
  exact ⟨c',h2,by rw [h3]; simp⟩
section
variable {P:Program} {U:ad6} {N:Nat} {L0:Nat→Nat} {G0:ab7} {w0:World} {G:ab7} {σ:ac0 U} {a:Act} {w:World} {o:Oper} {adv:Adv}
theorem ec4 (r:R P U N L0 G0 w0 G σ a w) {s b:Nat} (hb:G.who b=some (s,none)) (hI:∀ o,¬G.I b o) {v:AV U.τ} (lo:Nat) (vs:List Value)
  (hbox:∀ cs,σ s=.box cs→∃ cs',v=.box cs') (hblk:∀ e x q,σ s=.bblk e x q→∃ e' x',v=.bblk e' x' q∧x'.length=x.length) :
  Ext (fun L=>L=(s,none)) G G σ (upd σ s v) w (w.setCells b lo vs)∧aF1 G w G (w.setCells b lo vs):=by
 have imm:∀ b' o,G.I b' o→G.I b' o∧(w.setCells b lo vs).cell? ⟨b',o,none⟩=w.cell? ⟨b',o,none⟩:=fun b' o h=>by
  refine ⟨h,World.cell?_setCells_out b vs lo w _ (fun hbb=>?_)⟩
  subst hbb
  exact absurd h (hI o)
 obtain ⟨o1,o2,o3⟩:=ce3 b vs lo w
 refine ⟨⟨imm,fun b' L h hL=>⟨h,aX8 (fun he=>hL (by rw [he,hb] at h; injection h with h; exact h.symm)) vs lo w,fun o h=>h⟩,fun _ _=>rfl,fun t cs ht=>?_,fun t e y q ht=>?_⟩,
  ⟨o1,o2,o3,by rw [bD0]; exact Nat.le_refl _,fun b' _ hw=>aX8 (fun he=>by rw [he,hb] at hw; cases hw) vs lo w,imm,fun b o h=>.inl h,fun b L h=>.inr (by rw [h]; rfl)⟩⟩
 ·by_cases hts:t=s
  ·subst hts
   obtain ⟨cs',h⟩:=hbox cs ht
   exact ⟨cs',by simp [upd,h]⟩
  ·exact ⟨cs,by simp [upd,hts,ht]⟩
 ·by_cases hts:t=s
  ·subst hts
   obtain ⟨e',x',h,hl⟩:=hblk e y q ht
   exact ⟨e',x',by simp [upd,h],hl⟩
  ·exact ⟨e,y,by simp [upd,hts,ht],rfl⟩
theorem di5 {ds:List (CV U.τ)} {vs:List Value} {cs:List (CV U.τ)} {off b base:Nat} (hl:vs.length=ds.length) (hle:off+ds.length≤cs.length) (hc:∀ (j:Nat) c,cs[j]?=some c→∃ y,w.cell? ⟨b,base+j,none⟩=some y) :
  (∀ (j:Nat),j < vs.length→(w.cell? ⟨b,base+off+j,none⟩).isSome=true):=by
 intro j hj
 obtain ⟨c,hcj⟩:∃ c,cs[off+j]?=some c:=⟨_,List.getElem?_eq_getElem (by omega)⟩
 obtain ⟨y,hy⟩:=hc _ c hcj
 rw [Nat.add_assoc,hy]; rfl
theorem bD1 {b:Nat} {c:Array Value} {T:TypeId} {fz:Nat × Nat} (h:w.heap[b]?=some (.cells c T fz)) (hf:∀ o,fz.1≤o→o < fz.2→c.size≤o) (o:Nat) (ho:o < c.size):w.frozen? ⟨b,o,none⟩=false:=by
 obtain ⟨lo,hi⟩:=fz
 simp only [World.frozen?,h]
 rw [Bool.and_eq_false_iff]
 by_cases h1:lo≤o
 ·right
  simp only [decide_eq_false_iff_not]
  intro h2
  exact absurd (hf o h1 h2) (by omega)
 ·left; simpa using h1
theorem eA6 {v:Value} (h:one1 v):v.oneCell'=true:=by cases v <;> first | rfl | exact h.elim
theorem R.storeBox (r:R P U N L0 G0 w0 G σ a w) {s:Nat} {cs:List (CV U.τ)} (hs:σ s=.box cs) {off:Nat} {ds:List (CV U.τ)} {vs:List Value} (hl:vs.length=ds.length) (hle:off+ds.length≤cs.length)
  (hok:∀ (j:Nat) d v,ds[j]?=some d→vs[j]?=some v→ae3 P U w G.I G.who (s,some (off+j)) d v) :
  R P U N L0 G0 w0 G (upd σ s (.box (setCells cs off ds))) a (w.setCells (G.loc s).1 ((G.loc s).2+off) vs)∧
  (storeCells ⟨(G.loc s).1,(G.loc s).2+off,none⟩ vs).run P w=.ok () (w.setCells (G.loc s).1 ((G.loc s).2+off) vs):=by
 have hbox:=r.slots s
 rw [hs] at hbox
 obtain ⟨hb1,hb2⟩:=hbox
 obtain ⟨x,st⟩:=ec4 r hb2.hwho hb2.himm (v:=.box (setCells cs off ds)) ((G.loc s).2+off) vs (fun _ _=>⟨_,rfl⟩) (fun e y q h=>by rw [hs] at h; cases h)
 obtain ⟨c,T,fz,h1,h2,h3,h4⟩:=hb2.row
 have hcell:∀ (j:Nat) c,cs[j]?=some c→∃ y,w.cell? ⟨(G.loc s).1,(G.loc s).2+j,none⟩=some y:=fun j c hj=>let ⟨y,hy,_⟩:=hb2.cells j c hj; ⟨y,hy⟩
 have hin:=di5 (w:=w) hl hle hcell
 have hone:∀ v∈vs,v.oneCell'=true:=fun v hv=>by
  obtain ⟨j,hj⟩:=List.mem_iff_getElem?.1 hv
  have hjl:=(List.getElem?_eq_some_iff.1 hj).1
  obtain ⟨d,hdj⟩:∃ d,ds[j]?=some d:=⟨_,List.getElem?_eq_getElem (by omega)⟩
  exact eA6 (hok j d v hdj hj).one1
 have hat:upd σ s (.box (setCells cs off ds)) s=.box (setCells cs off ds):=by simp [upd]
 refine ⟨r.go x st rfl rfl (fun _ _=>rfl) (fun b o h=>.inl h) (fun b L h=>.inl ⟨L,h⟩) (fun t cs' ht hσ=>?_) (fun t=>?_),?_⟩
 ·by_cases hts:t=s
  ·rw [hts] at hσ ht ⊢
   rw [hat] at hσ
   injection hσ with hσ
   refine ⟨cs,hs,by rw [← hσ,aB4],fun o ho=>World.cell?_setCells_out _ vs _ w _ (fun _ _=>?_)⟩
   rcases ho with ho | ho
   ·exact .inl (by simp only; omega)
   ·exact .inr (by simp only; omega)
  ·simp only [upd,hts,if_false] at hσ
   refine ⟨cs',hσ,rfl,fun o _=>World.cell?_setCells_out _ vs _ w _ (fun hb=>?_)⟩
   simp only at hb
   have:=r.slots t
   rw [hσ] at this
   have h5:=this.2.hwho
   rw [hb,hb2.hwho] at h5
   injection h5 with h5; injection h5 with h5
   exact absurd h5.symm hts
 ·by_cases hts:t=s
  ·right
   rw [hts,hat]
   refine ⟨hb1,hb2.hwho,hb2.himm,?_⟩
   obtain ⟨c',k1,k2⟩:=bh3 vs ((G.loc s).2+off) w h1
   refine ⟨c',T,fz,k1,by rw [aB4,k2]; exact h2,by rw [k2]; exact h3,fun i y hi=>?_⟩
   rw [aQ8 _ _ _ _ hle] at hi
   rw [← ag3 k1]
   split at hi
   ·rename_i hc
    have hlt:i - off < vs.length:=by rw [hl]; omega
    have hv:=List.getElem?_eq_getElem hlt
    have h5:=hok (i - off) y _ hi hv
    refine ⟨vs[i - off],?_,?_⟩
    ·have:=World.cell?_setCells_in _ vs ((G.loc s).2+off) w hin (i - off) hlt
     rw [← this]
     congr 2
     omega
    ·rw [show off+(i - off)=i by omega] at h5
     exact h5.mono x (by simp)
   ·rename_i hc
    obtain ⟨u,hu,hk⟩:=h4 i y hi
    refine ⟨u,?_,hk.mono x (by simp)⟩
    rw [World.cell?_setCells_out _ vs _ w _ (fun _ _=>by simp only; omega),ag3 h1]
    exact hu
  ·left
   exact ⟨by simp [upd,hts],rfl,fun he=>hts (by injection he),fun i he=>by injection he with _ h; cases h⟩
 ·have:=run_storeCells_cells (P:=P) (G.loc s).1 ((G.loc s).2+off) vs 0 w (fun j hj=>by simpa using hin j hj) (fun j hj=>by
   rw [Nat.add_zero]
   refine bD1 h1 h3 _ ?_
   omega) hone
  simpa using this
theorem R.giveTo (r:R P U N L0 G0 w0 G σ a w) {y:Nat} {c:CV U.τ} {e:Nat} {css:List (List (CV U.τ))} (hy:σ y=.one c) (hyv:y < aa9) (hc:cont c=some (e,css,.app)) (L:Nat × Option Nat) (hL:L≠(y,none)) :
  ∃ G',R P U N L0 G0 w0 G' (upd σ y (.one c.plain)) a w∧aU3 P U w G'.I G'.who L c (a.tmps.getD y undef)∧G'.loc=G.loc∧G'.I=G.I:=by
 have hso:ac9 P U G σ w y (.one c) (a.tmps.getD y undef):=by have:=r.slots y; rwa [hy] at this
 have happ:aU3 P U w G.I G.who (y,none) c (a.tmps.getD y undef):=by
  have h2:ae3 P U w G.I G.who (y,none) c (a.tmps.getD y undef):=by
   cases c <;> first | (simp [cont] at hc; done) | exact hso
  rcases h2 with h2 | h2
  ·exact absurd rfl (h2.slice hc).1
  ·exact h2
 have hn:∀ t,(σ t).owner=true→t≠y:=fun t ht he=>by rw [he,hy] at ht; cases ht
 let G':ab7:=⟨G.I,G.loc,fun b=>if G.who b=some (y,none) then some L else G.who b⟩
 have x:Ext (fun L=>L=(y,none)) G G' σ (upd σ y (.one c.plain)) w w:=by
  refine ⟨fun _ _ h=>⟨h,rfl⟩,fun b L' h hL'=>⟨?_,rfl,fun _ h=>h⟩,fun _ _=>rfl,fun t cs ht=>⟨cs,by simp [upd,hn t (by rw [ht]; rfl),ht]⟩,fun t e z q ht=>⟨e,z,by simp [upd,hn t (by rw [ht]; rfl),ht],rfl⟩⟩
  show (if G.who b=some (y,none) then some L else G.who b)=some L'
  rw [if_neg (fun he=>hL' (by rw [h] at he; injection he)),h]
 have hw:∀ b L',G'.who b=some L'→∃ L'',G.who b=some L'':=fun b L' h=>by
  have h':(if G.who b=some (y,none) then some L else G.who b)=some L':=h
  split at h'
  ·rename_i hh; exact ⟨_,hh⟩
  ·exact ⟨_,h'⟩
 have st:aF1 G w G' w:=⟨rfl,rfl,rfl,Nat.le_refl _,fun _ _ _=>rfl,fun _ _ h=>⟨h,rfl⟩,fun _ _ h=>.inl h,fun b L' h=>.inr (by obtain ⟨L'',h2⟩:=hw b L' h; rw [h2]; rfl)⟩
 refine ⟨G',r.go x st rfl rfl (fun _ _=>rfl) (fun b o h=>.inl h) (fun b L' h=>.inl (hw b L' h)) (fun t cs' ht hσ=>?_) (fun t=>?_),?_⟩
 ·have h2:t≠y:=fun he=>by omega
  simp only [upd,h2,if_false] at hσ
  exact ⟨cs',hσ,rfl,fun _ _=>rfl⟩
 ·by_cases hty:t=y
  ·right
   rw [hty]
   have h1:upd σ y (.one c.plain) y=.one c.plain:=by simp [upd]
   rw [h1]
   exact ac9.of_pc happ.plain
  ·left
   exact ⟨by simp [upd,hty],rfl,fun he=>hty (by injection he),fun i he=>by injection he with _ h; cases h⟩
 ·refine ⟨?_,rfl,rfl⟩
  obtain ⟨e',css',k1,k2,k3⟩:=happ
  refine ⟨e',css',k1,k2,?_⟩
  rcases k3 with k3 | ⟨b,off,cap,k4,k5,k6,k7⟩
  ·exact .inl k3
  ·refine .inr ⟨b,off,cap,k4,k5,k6,?_⟩
   rcases k7 with k7 | ⟨k7,k8⟩
   ·exact .inl k7
   ·exact .inr ⟨by show (if G.who b=some (y,none) then some L else G.who b)=_; rw [if_pos k7],k8⟩
theorem R.storeBlk (r:R P U N L0 G0 w0 G σ a w) {s e:Nat} {x x':List UInt8} {q:Bool} (hs:σ s=.bblk e x q) {i:Nat} {ys:List UInt8} (hle:i+ys.length≤x.length) (hx':x'.length=x.length) (hget:∀ j,x'[j]?=if i≤j∧j < i+ys.length then ys[j - i]? else x[j]?) :
  R P U N L0 G0 w0 G (upd σ s (.bblk e x' q)) a (w.setCells (G.loc s).1 ((G.loc s).2+i) (ys.map fun b=>.int .u8 b.toNat))∧
  (storeCells ⟨(G.loc s).1,(G.loc s).2+i,none⟩ (ys.map fun b=>.int .u8 b.toNat)).run P w=.ok () (w.setCells (G.loc s).1 ((G.loc s).2+i) (ys.map fun b=>.int .u8 b.toNat)):=by
 have hblk:=r.slots s
 rw [hs] at hblk
 obtain ⟨hb1,hb2⟩:=hblk
 obtain ⟨xx,st⟩:=ec4 r hb2.hwho hb2.himm (v:=.bblk e x' q) ((G.loc s).2+i) (ys.map fun b=>.int .u8 b.toNat) (fun cs h=>by rw [hs] at h; cases h) (fun e1 x1 q1 h=>by rw [hs] at h; cases h; exact ⟨e,x',rfl,hx'⟩)
 obtain ⟨c,T,fz,h1,h2,h3,h4⟩:=hb2.row
 have hlen:(ys.map fun b=>(Value.int .u8 b.toNat)).length=ys.length:=List.length_map _
 have hin:∀ j,j < (ys.map fun b=>(Value.int .u8 b.toNat)).length→(w.cell? ⟨(G.loc s).1,(G.loc s).2+i+j,none⟩).isSome=true:=fun j hj=>by
  rw [hlen] at hj
  obtain ⟨b,hb⟩:∃ b,x[i+j]?=some b:=⟨_,List.getElem?_eq_getElem (by omega)⟩
  rw [ag3 h1,Nat.add_assoc,h4 _ b hb]; rfl
 have hat:upd σ s (.bblk e x' q) s=.bblk e x' q:=by simp [upd]
 refine ⟨r.go xx st rfl rfl (fun _ _=>rfl) (fun b o h=>.inl h) (fun b L h=>.inl ⟨L,h⟩) (fun t cs' ht hσ=>?_) (fun t=>?_),?_⟩
 ·have hts:t≠s:=fun he=>by rw [he,hat] at hσ; cases hσ
  simp only [upd,hts,if_false] at hσ
  refine ⟨cs',hσ,rfl,fun o _=>World.cell?_setCells_out _ _ _ w _ (fun hb=>?_)⟩
  simp only at hb
  have:=r.slots t
  rw [hσ] at this
  have h5:=this.2.hwho
  rw [hb,hb2.hwho] at h5
  injection h5 with h5; injection h5 with h5
  exact absurd h5.symm hts
 ·by_cases hts:t=s
  ·right
   rw [hts,hat]
   obtain ⟨c',k1,k2⟩:=bh3 (ys.map fun b=>(Value.int .u8 b.toNat)) ((G.loc s).2+i) w h1
   refine ⟨fun ht=>by rw [hx']; exact hb1 ht,hb2.hwho,hb2.himm,hb2.sz,by rw [hx']; exact hb2.len,c',T,fz,k1,by rw [hx',k2]; exact h2,by rw [k2]; exact h3,fun j b hj=>?_⟩
   rw [hget] at hj
   rw [← ag3 k1]
   split at hj
   ·rename_i hc
    have hlt:j - i < (ys.map fun b=>(Value.int .u8 b.toNat)).length:=by rw [hlen]; omega
    have:=World.cell?_setCells_in _ (ys.map fun b=>(Value.int .u8 b.toNat)) ((G.loc s).2+i) w hin (j - i) hlt
    rw [show (G.loc s).2+i+(j - i)=(G.loc s).2+j by omega] at this
    rw [this,List.getElem_map]
    have h6:=(List.getElem?_eq_some_iff.1 hj).2
    rw [h6]
   ·rename_i hc
    rw [World.cell?_setCells_out _ _ _ w _ (fun _ _=>by rw [hlen]; simp only; omega),ag3 h1]
    exact h4 j b hj
  ·left
   exact ⟨by simp [upd,hts],rfl,fun he=>hts (by injection he),fun i he=>by injection he with _ h; cases h⟩
 ·have:=run_storeCells_cells (P:=P) (G.loc s).1 ((G.loc s).2+i) (ys.map fun b=>.int .u8 b.toNat) 0 w (fun j hj=>by simpa using hin j hj) (fun j hj=>by
   rw [Nat.add_zero]
   refine bD1 h1 h3 _ ?_
   rw [hlen] at hj
   omega) (fun v hv=>by
    obtain ⟨b,_,rfl⟩:=List.mem_map.1 hv; rfl)
  simpa using this
theorem bh4 {t:TypeId} (hz:P.cellsOf t=1) {b off:Nat} {v:Value} (h1:one1 v) {w':World} (h:(storeCells ⟨b,off,none⟩ [v]).run P w=.ok () w'):(storeVar t ⟨b,off,none⟩ v).run P w=.ok () w':=by
 have hc:v.cells=#[v]:=by cases v <;> first | rfl | exact h1.elim
 have hs:=run_sizeOf (P:=P) (t:=t) (by omega) w
 simp only [storeVar,Sem.run_bind,hs,Result.andThen_ok,hc,hz]
 rw [if_neg (by simp)]
 exact h
theorem eA7 {i:Int} {j:Nat} {c d x:CV U.τ} (h:eg7 i j c d=some x):x=if i=(j:Int) then c else d:=by
 unfold eg7 at h
 split at h
 ·rename_i k a k' b
  cases hd:decide (k=k') with
  | false=>rw [hd] at h; cases h
  | true=>
   rw [hd,cond_true] at h
   have hd:=of_decide_eq_true hd
   subst hd
   injection h with h; subst h
   by_cases hi:i=(j:Int)
   ·rw [if_pos hi,if_pos hi]
   ·rw [if_neg hi,if_neg hi]
 ·rename_i a b
  injection h with h; subst h
  by_cases hi:i=(j:Int)
  ·rw [if_pos hi,if_pos hi]
  ·rw [if_neg hi,if_neg hi]
 ·cases h
theorem cV7 {i:Int} {c:CV U.τ}:∀ (l:List (CV U.τ)) (j:Nat) (l':List (CV U.τ)),bs1 i c l j=some l'→l'.length=l.length∧∀ q,q < l.length→l'[q]?=if i=((j+q:Nat):Int) then some c else l[q]?
 | [],j,l',h=>by injection h with h; subst h; exact ⟨rfl,fun q hq=>absurd hq (by simp)⟩
 | d::r,j,l',h=>by
  unfold bs1 at h
  split at h
  ·rename_i x l2 hx hl2
   injection h with h; subst h
   obtain ⟨h1,h2⟩:=cV7 r (j+1) l2 hl2
   refine ⟨by simp [h1],fun q hq=>?_⟩
   cases q with
   | zero=>
    rw [eA7 hx]
    simp only [List.getElem?_cons_zero,Nat.add_zero]
    split <;> rfl
   | succ q=>
    rw [List.getElem?_cons_succ,List.getElem?_cons_succ,h2 q (by simp at hq; omega),show j+1+q=j+(q+1) by omega]
  ·cases h
theorem dF1 {i:Int} {c:CV U.τ} {cs l l':List (CV U.τ)} {off m:Nat} (hl:aj2 cs off m=some l) (h:bs1 i c l 0=some l') (hi:0≤i∧i < m):setCells cs off l'=setCells cs (off+i.toNat) [c]∧off+m≤cs.length:=by
 obtain ⟨g1,g2⟩:=aF2 hl
 obtain ⟨k1,k2⟩:=cV7 l 0 l' h
 have hll:l.length=m:=by rw [g2]; simp; omega
 refine ⟨?_,g1⟩
 apply List.ext_getElem?
 intro j
 rw [aQ8 l' cs off j (by omega),aQ8 [c] cs (off+i.toNat) j (by simp; omega)]
 simp only [List.length_cons,List.length_nil]
 by_cases hj:off≤j∧j < off+l'.length
 ·rw [if_pos hj,k2 (j - off) (by omega),Nat.zero_add]
  by_cases he:i=((j - off:Nat):Int)
  ·rw [if_pos he,if_pos (by omega),show j - (off+i.toNat)=0 by omega]; rfl
  ·rw [if_neg he,if_neg (by omega),g2,List.getElem?_take,if_pos (by omega),List.getElem?_drop,show off+(j - off)=j by omega]
 ·rw [if_neg hj,if_neg (by omega)]
theorem eA8 (r:R P U N L0 G0 w0 G σ a w) (hd:∀ d,o.dst=some d→d < N) {t:TypeId} {x y:Operand} (ho:o.op=.store t x y) {rd:List Nat} {ws:List (Nat × AV U.τ)} (h:aa5 P U σ (ac3 P adv o) rd ws) :
  ae5 P U N L0 G0 w0 σ o a w ws:=by
 simp only [ac3,ho] at h
 obtain ⟨hnd,h⟩:=aa5.of_cond' h
 have hnd:o.dst=none:=by cases hx:o.dst with
  | none=>rfl
  | some d=>rw [hx] at hnd; cases hnd
 obtain ⟨v,_,h1,h⟩:=r.opd h
 have fin:∀ w',(Instr.storeAt t (a.eval x) (a.eval y)).run P w=.ok () w'→(∃ G',R P U N L0 G0 w0 G' (ad1 σ ws) a w')→ae5 P U N L0 G0 w0 σ o a w ws:=by
  intro w' hr hR
  unfold ae5 az3
  have:(execOp a.eval o).run P w=.ok .skip w':=by simp [execOp,ho,hr]
  rw [this,hnd]
  exact hR
 cases v with
 | one c=>
  cases c with
  | ref s off=>
   obtain ⟨⟨cs,hs⟩,hp⟩:=h1.ref
   obtain ⟨_,h⟩:=h.of_read
   rw [hs] at h
   obtain ⟨v2,_,h2,h⟩:=r.opd h
   have one:∀ (c:CV U.τ) rd',v2=.one c→c≠.any→(∀ s o,c≠.ref s o)→(∀ s,c≠.sref s)→(∀ s i,c≠.eref s i)→(∀ s o,c≠.prow s o)→(∀ s o,c≠.pcell s o)→(∀ s o m i,c≠.aref s o m i)→
     aa5 P U σ (cond (!(Nat.beq (P.cellsOf t) 1) || Nat.ble cs.length off) .fail
      (ep2 s off cs c (av2 y))) rd' ws→ae5 P U N L0 G0 w0 σ o a w ws:=by
    intro c rd' hv2 n1 n2 n3 n4 n5 n6 n7 hh
    subst hv2
    clear h
    obtain ⟨hb,h⟩:=aa5.of_cond' hh
    simp only [Bool.or_eq_false_iff,Bool.not_eq_eq_eq_not,Bool.not_false] at hb
    have hz:=Nat.eq_of_beq_eq_true hb.1
    have hlt:off < cs.length:=by
     rcases Nat.lt_or_ge off cs.length with g | g
     ·exact g
     ·rw [Nat.ble_eq_true_of_le g] at hb; simp at hb
    have hset:∀ d:CV U.τ,setCells cs off [d]=cs.set off d:=fun d=>rfl
    have plainCase:c.plain=c→ws=[(s,.box (cs.set off c))]→ae5 P U N L0 G0 w0 σ o a w ws:=by
     intro hpl hws
     obtain ⟨t',h3,_⟩:=h2.ok
     have hpc:=h3.plainOne n1 n2 n3 n4 n5 n6 n7
     rw [hpl] at hpc
     obtain ⟨R1,R2⟩:=r.storeBox hs (off:=off) (ds:=[c]) (vs:=[a.eval y]) rfl (by simp; omega) (fun j d v hj hv=>by
      cases j with
      | zero=>simp at hj hv; subst hj; subst hv; exact .inl hpc
      | succ j=>simp at hj)
     refine fin _ ?_ ⟨G,by rw [hws]; exact R1⟩
     simp only [Instr.storeAt,hp,Instr.sureAddr,Sem.run_bind,Sem.run_pure,Result.andThen_ok]
     exact bh4 hz hpc.one1 R2
    have appCase:∀ yt e css,av2 y=some yt→cont c=some (e,css,.app)→ws=[(s,.box (cs.set off c)),(yt,.one c.plain)]→ae5 P U N L0 G0 w0 σ o a w ws:=by
     intro yt e css hyt hc hws
     have hy:y=.tmp yt:=by cases y <;> simp [av2] at hyt; rw [hyt]
     subst hy
     obtain ⟨t',_,ht'⟩:=h2.ok
     have hσy:σ yt=.one c∧yt < aa9:=by
      rcases ht' with ⟨g2,g3,g4⟩ | ⟨g2,_⟩
      ·injection g2 with g2; subst g2
       refine ⟨?_,g3⟩
       cases hσ:σ yt with
       | box cs=>rw [hσ] at g4; simp only [av1] at g4; injection g4 with g4; subst g4; simp [cont] at hc
       | bblk e y q=>rw [hσ] at g4; simp only [av1] at g4; injection g4 with g4; subst g4; simp [cont] at hc
       | _=>rw [hσ] at g4; exact g4.symm
      ·cases g2
     have hsy:s≠yt:=fun he=>by rw [he,hσy.1] at hs; cases hs
     obtain ⟨G',r',happ,hloc,_⟩:=r.giveTo hσy.1 hσy.2 hc (s,some off) (by simp)
     have hs':(upd σ yt (.one c.plain)) s=.box cs:=by simp [upd,hsy,hs]
     obtain ⟨R1,R2⟩:=r'.storeBox hs' (off:=off) (ds:=[c]) (vs:=[a.eval (.tmp yt)]) rfl (by simp; omega) (fun j d v hj hv=>by
      cases j with
      | zero=>simp at hj hv; subst hj; subst hv; exact .inr happ
      | succ j=>simp at hj)
     rw [hloc] at R1 R2
     refine fin (w.setCells (G.loc s).1 ((G.loc s).2+off) [a.eval (.tmp yt)]) ?_ ⟨G',?_⟩
     ·simp only [Instr.storeAt,hp,Instr.sureAddr,Sem.run_bind,Sem.run_pure,Result.andThen_ok]
      exact bh4 hz (ae3.one1 (.inr happ)) R2
     ·rw [hws]
      have:ad1 σ [(s,.box (cs.set off c)),(yt,.one c.plain)]=upd (upd σ yt (.one c.plain)) s (.box (setCells cs off [c])):=by
       funext z
       simp only [ad1,upd,hset]
       by_cases z1:z=yt
       ·have:¬z=s:=fun he=>hsy (he ▸ z1)
        simp [z1,this,Ne.symm hsy]
       ·simp [z1]
      rw [this]
      exact R1
    cases c with
    | sl e xs f=>
     cases f with
     | app=>
      cases hyt:av2 y with
      | none=>rw [hyt] at h; exact h.of_fail.elim
      | some yt=>rw [hyt] at h; exact appCase yt _ _ hyt rfl (aa5.of_done h)
     | _=>exact plainCase rfl (aa5.of_done h)
    | bs e xs f=>
     cases f with
     | app=>
      cases hyt:av2 y with
      | none=>rw [hyt] at h; exact h.of_fail.elim
      | some yt=>rw [hyt] at h; exact appCase yt _ _ hyt rfl (aa5.of_done h)
     | _=>exact plainCase rfl (aa5.of_done h)
    | any=>exact absurd rfl n1
    | ref s o=>exact absurd rfl (n2 s o)
    | sref s=>exact absurd rfl (n3 s)
    | eref s i=>exact absurd rfl (n4 s i)
    | prow s i=>exact absurd rfl (n5 s i)
    | pcell s i=>exact absurd rfl (n6 s i)
    | aref s q m i=>exact absurd rfl (n7 s q m i)
    | _=>exact plainCase rfl (aa5.of_done h)
   cases v2 with
   | one c=>
    cases c with
    | any=>exact h.of_fail.elim
    | ref s o=>exact h.of_fail.elim
    | sref s=>exact h.of_fail.elim
    | eref s i=>exact h.of_fail.elim
    | prow s i=>exact h.of_fail.elim
    | pcell s i=>exact h.of_fail.elim
    | aref s q m i=>exact h.of_fail.elim
    | _=>exact one _ _ rfl (by simp) (by simp) (by simp) (by simp) (by simp) (by simp) (by simp) h
   | agg ds=>
    obtain ⟨hb,h⟩:=aa5.of_cond h
    simp only [Bool.and_eq_true] at hb
    obtain ⟨⟨hz,hz1⟩,hle⟩:=hb
    have hz:=Nat.eq_of_beq_eq_true hz
    have hz1:=Nat.le_of_ble_eq_true hz1
    have hle:=Nat.le_of_ble_eq_true hle
    obtain ⟨us,hu,hsz,hc⟩:=h2.agg
    obtain ⟨R1,R2⟩:=r.storeBox hs (off:=off) (ds:=ds) (vs:=us.toList) (by simpa using hsz) hle (fun j d v hj hv=>by
     obtain ⟨u,g1,g2⟩:=hc j d hj
     rw [Array.getElem?_toList,g1] at hv
     injection hv with hv; subst hv
     exact .inl g2)
    have hws:=h.of_done
    refine fin _ ?_ ⟨G,by rw [hws]; exact R1⟩
    have hs:=run_sizeOf (P:=P) (t:=t) (by omega) w
    simp only [Instr.storeAt,hp,Instr.sureAddr,Sem.run_bind,Sem.run_pure,Result.andThen_ok,hu,storeVar,hs,Value.cells]
    rw [if_neg (by rw [hsz,hz]; simp)]
    exact R2
   | _=>exact h.of_fail.elim
  | aref s off m i=>
   obtain ⟨⟨cs,hs⟩,hi,hp⟩:=h1.aref
   obtain ⟨_,h⟩:=h.of_read
   rw [hs] at h
   obtain ⟨v2,_,h2,h⟩:=r.opd h
   have one:∀ (c:CV U.τ) rd',c.plain=c→PC P U w G.I c (a.eval y)→aa5 P U σ (match aj2 cs off m with
     | some l=>(match bs1 i c l 0 with | some l'=>cond (Nat.beq (P.cellsOf t) 1) (.done [(s,.box (setCells cs off l'))]) .fail | none=>.fail)
     | none=>.fail) rd' ws→ae5 P U N L0 G0 w0 σ o a w ws:=by
    intro c rd' _ hpc h
    split at h
    ·rename_i l hl
     split at h
     ·rename_i l' hl'
      obtain ⟨hb,h⟩:=aa5.of_cond h
      have hz:=Nat.eq_of_beq_eq_true hb
      obtain ⟨hset,hle⟩:=dF1 hl hl' hi
      obtain ⟨R1,R2⟩:=r.storeBox hs (off:=off+i.toNat) (ds:=[c]) (vs:=[a.eval y]) rfl (by simp; omega) (fun j d v hj hv=>by
       cases j with
       | zero=>simp at hj hv; subst hj; subst hv; exact .inl hpc
       | succ j=>simp at hj)
      have hws:=h.of_done
      rw [hset] at hws
      refine fin _ ?_ ⟨G,by rw [hws]; exact R1⟩
      simp only [Instr.storeAt,hp,Instr.sureAddr,Sem.run_bind,Sem.run_pure,Result.andThen_ok]
      exact bh4 hz hpc.one1 R2
     ·exact h.of_fail.elim
    ·exact h.of_fail.elim
   have pc:∀ c:CV U.τ,v2=.one c→c.plain=c→c≠.any→(∀ s o,c≠.ref s o)→(∀ s,c≠.sref s)→(∀ s i,c≠.eref s i)→(∀ s o,c≠.prow s o)→(∀ s o,c≠.pcell s o)→(∀ s o m i,c≠.aref s o m i)→PC P U w G.I c (a.eval y):=by
    intro c hv hpl n1 n2 n3 n4 n5 n6 n7
    subst hv
    obtain ⟨t',h3,_⟩:=h2.ok
    have hpc:=h3.plainOne n1 n2 n3 n4 n5 n6 n7
    rwa [hpl] at hpc
   cases v2 with
   | one c=>
    cases c with
    | str z=>exact one _ _ rfl (pc _ rfl rfl (by simp) (by simp) (by simp) (by simp) (by simp) (by simp) (by simp)) h
    | int k n=>exact one _ _ rfl (pc _ rfl rfl (by simp) (by simp) (by simp) (by simp) (by simp) (by simp) (by simp)) h
    | _=>exact h.of_fail.elim
   | _=>exact h.of_fail.elim
  | eref s i=>
   obtain ⟨⟨e,z,q,hs⟩,hp⟩:=h1.eref
   obtain ⟨_,h⟩:=h.of_read
   rw [hs] at h
   obtain ⟨k,n,_,he,hk,h⟩:=r.int h
   obtain ⟨hb,h2⟩:=aa5.of_cond h
   obtain ⟨hi,h3⟩:=h2.of_guard
   simp only [Bool.and_eq_true,decide_eq_true_eq] at hb
   obtain ⟨hk8,hz⟩:=hb
   have hz:=Nat.eq_of_beq_eq_true hz
   subst hk8
   obtain ⟨R1,R2⟩:=r.storeBlk hs (i:=i) (ys:=[aa1 n]) (x':=z.set i (aa1 n)) (by simp; omega) (by simp) (fun j=>by
    by_cases hj:j=i
    ·subst hj
     rw [List.getElem?_set_self hi,if_pos (by simp)]
     simp
    ·rw [List.getElem?_set_ne (Ne.symm hj),if_neg (by simp; omega)])
   simp only [List.map_cons,List.map_nil,di3 hk] at R1 R2
   have hws:=h3.of_done
   refine fin _ ?_ ⟨G,by rw [hws]; exact R1⟩
   simp only [Instr.storeAt,hp,he,Instr.sureAddr,Sem.run_bind,Sem.run_pure,Result.andThen_ok]
   exact bh4 (v:=.int .u8 n) hz trivial R2
  | _=>exact h.of_fail.elim
 | _=>exact h.of_fail.elim
end
end Go.VI
namespace Go.VI
open Go
section
variable {P:Program} {U:ad6} {N:Nat} {L0:Nat→Nat} {G0:ab7} {w0:World} {G:ab7} {σ:ac0 U} {a:Act} {w:World} {o:Oper} {adv:Adv}
theorem ec5 (y:List UInt8) (n:Nat) (hn:n≤y.length):(((⟨⟨y⟩⟩:ByteArray).extract 0 n).data.map fun b=>Value.int .u8 b.toNat).toList=(y.take n).map fun b=>.int .u8 b.toNat:=by
 rw [cw9]
 simp
theorem eL2 (r:R P U N L0 G0 w0 G σ a w) (hd:∀ d,o.dst=some d→d < N) {c:Call} (ho:o.op=.call c) (hb:c.callee=.builtin .copy) {rd:List Nat} {ws:List (Nat × AV U.τ)} (h:aa5 P U σ (ac3 P adv o) rd ws) :
  ae5 P U N L0 G0 w0 σ o a w ws:=by
 obtain ⟨callee,args,argTypes⟩:=c
 simp only at hb
 subst hb
 simp only [ac3,ho] at h
 split at h
 ·rename_i s x t u ha ht
  have ha':args=#[s,x]:=by cases args; simp_all
  have ht':argTypes=#[t,u]:=by cases argTypes; simp_all
  subst ha'; subst ht'
  obtain ⟨v,_,h1,h⟩:=r.opd h
  cases v with
  | one c=>
   cases c with
   | sref q=>
    obtain ⟨e,b,tq,cap,hs,hu',hl,_⟩:=h1.sref
    obtain ⟨_,h⟩:=h.of_read
    rw [hs] at h
    obtain ⟨hu,hz,h⟩:=aU4 h
    obtain ⟨v2,_,h2,h⟩:=r.opd h
    cases v2 with
    | one c2=>
     cases c2 with
     | str y=>
      have hn:min y.length b.length≤y.length:=Nat.min_le_left ..
      obtain ⟨R1,R2⟩:=r.storeBlk hs (i:=0) (ys:=y.take (min y.length b.length)) (x':=y.take b.length++b.drop y.length) (by simp; omega) (by simp; omega) (fun j=>by
       rw [Nat.zero_add,List.length_take,Nat.sub_zero,List.getElem?_append,List.length_take]
       by_cases hj:j < min b.length y.length
       ·rw [if_pos hj,if_pos (by omega),List.getElem?_take,if_pos (by omega),List.getElem?_take,if_pos (by omega)]
       ·rw [if_neg hj,if_neg (by omega),List.getElem?_drop]
        by_cases hjb:j < b.length
        ·congr 1; omega
        ·rw [List.getElem?_eq_none (by omega),List.getElem?_eq_none (by omega)])
      rw [Nat.add_zero] at R1 R2
      have hsz:(⟨⟨y⟩⟩:ByteArray).size=y.length:=rfl
      have hrun:(execOp a.eval o).run P w=.ok (.value (.int .i64 (min y.length b.length:Nat))) (w.setCells (G.loc q).1 (G.loc q).2 ((y.take (min y.length b.length)).map fun b=>.int .u8 b.toNat)):=by
       have hmin:Nat.min y.length b.length=min y.length b.length:=rfl
       simp only [execOp,ho,resolve,invoke,builtin,Builtin.copy_,hu',h2.str.1,List.map_toArray,List.map_cons,List.map_nil,Sem.run_bind,Sem.run_pure,Result.andThen_ok,run_underlying hu,Builtin.lenOf,hsz,run_sizeOf hz,Builtin.firstCells,hmin]
       simp only [List.getElem?_toArray,List.getElem?_cons_zero,List.getElem?_cons_succ,ec5 y _ hn,Sem.run_bind,Sem.run_pure,Result.andThen_ok,run_underlying hu,Builtin.lenOf,hsz,run_sizeOf hz,Builtin.firstCells,hmin,R2]
       rfl
      unfold ae5 az3
      rw [hrun]
      simp only
      have hlt:((min y.length b.length:Nat):Int)≤ad0:=by have:=h2.str.2; omega
      have hok:∀ t',ac9 P U G (upd σ q (.bblk e (y.take b.length++b.drop y.length) tq)) (w.setCells (G.loc q).1 (G.loc q).2 ((y.take (min y.length b.length)).map fun b=>.int .u8 b.toNat)) t' (.one (.int .i64 (min y.length b.length:Nat))) (.int .i64 (min y.length b.length:Nat)):=fun t'=>ac9.of_pc (.int _ _ (by
       unfold IntKind.has IntKind.min IntKind.max; unfold ad0 at hlt; simp [IntKind.bits,IntKind.signed]; omega))
      rcases h.of_wr with ⟨k1,k2⟩ | ⟨d,k1,k2,k3⟩
      ·rw [k1,k2]; exact ⟨G,R1⟩
      ·rw [k1,k2]
       have hdq:d≠q:=fun he=>by rw [he,hs] at k3; cases k3
       have:=R1.put (hd d k1) (by simp only [upd,hdq,if_false]; exact k3) rfl hok
       refine ⟨G,?_⟩
       have e1:ad1 σ [(d,.one (.int .i64 (min y.length b.length:Nat))),(q,.bblk e (y.take b.length++b.drop y.length) tq)]=upd (upd σ q (.bblk e (y.take b.length++b.drop y.length) tq)) d (.one (.int .i64 (min y.length b.length:Nat))):=by
        funext z
        simp only [ad1,upd]
        by_cases z1:z=q
        ·simp [z1,Ne.symm hdq]
        ·simp [z1]
       rw [e1]; exact this
     | _=>exact h.of_fail.elim
    | _=>exact h.of_fail.elim
   | _=>exact h.of_fail.elim
  | _=>exact h.of_fail.elim
 ·exact h.of_fail.elim
theorem dA1 (newLen:Nat):∀ (rounds c:Nat),c≤2 * newLen+1000→Builtin.growBy newLen rounds c≤2 * newLen+1000
 | 0,c,h=>h
 | n+1,c,h=>by
  simp only [Builtin.growBy]
  split
  ·exact h
  ·exact dA1 newLen n _ (by omega)
theorem di6 {need cap:Nat} (h:cap < need):Builtin.nextslicecap need cap≤2 * need+1000:=by
 unfold Builtin.nextslicecap
 split
 ·omega
 ·split
  ·omega
  ·exact dA1 _ _ _ (by omega)
structure Src (P:Program) (U:ad6) (w:World) (I:Nat→Nat→Prop) (sz:Nat) (v:Value) (css:List (List (CV U.τ))) (us:List Value):Prop where
 len:(Builtin.lenOf v).run P w=.ok css.length w
 cells:∀ w':World,w'.heap=w.heap→(Builtin.firstCells sz css.length v).run P w'=.ok us.toArray w'
 flat:aF3 P U w I sz css us
theorem Src.of_slice {I:Nat→Nat→Prop} {sz b off cap:Nat} {css:List (List (CV U.τ))} (h:bh0 P U w I b off sz css):∃ us,Src P U w I sz (.slice (some ⟨b,off,none⟩) css.length cap) css us:=by
 have hget:∀ q,q < css.length * sz→∃ u,w.cell? ⟨b,off+q,none⟩=some u:=fun q hq=>by
  obtain ⟨i,j,hi,hj,rfl⟩:=ec2 hq
  obtain ⟨cs,hcs⟩:∃ cs,css[i]?=some cs:=⟨_,List.getElem?_eq_getElem hi⟩
  have hl:=h.len i cs hcs
  obtain ⟨x,hx⟩:∃ x,cs[j]?=some x:=⟨_,List.getElem?_eq_getElem (by omega)⟩
  obtain ⟨u,hu,_⟩:=h.cell i cs j x hcs hx
  exact ⟨u,by rw [← Nat.add_assoc]; exact hu⟩
 refine ⟨(List.range (css.length * sz)).map fun q=>(w.cell? ⟨b,off+q,none⟩).getD undef,rfl,?_,?_⟩
 ·intro w' hw'
  have hcell:∀ x,w'.cell? x=w.cell? x:=fun x=>by simp only [World.cell?,hw']
  simp only [Builtin.firstCells]
  exact run_loadCells (P:=P) w' ⟨b,off,none⟩ (css.length * sz) (fun q=>(w.cell? ⟨b,off+q,none⟩).getD undef) (fun q hq=>by
   obtain ⟨u,hu⟩:=hget q hq
   rw [Addr.add_none,hcell,hu]; rfl)
 ·refine ⟨by simp,h.len,fun i cs j x hi hj=>?_⟩
  obtain ⟨u,hu,hp⟩:=h.cell i cs j x hi hj
  have hl:=h.len i cs hi
  have hjl:j < sz:=by rw [← hl]; exact (List.getElem?_eq_some_iff.1 hj).1
  have hil:=(List.getElem?_eq_some_iff.1 hi).1
  refine ⟨u,?_,hp⟩
  rw [List.getElem?_map,List.getElem?_range (eh4 hil hjl)]
  simp [← Nat.add_assoc,hu]
theorem Src.of_nil {I:Nat→Nat→Prop} {sz:Nat} {q:Option Addr} {cap:Nat}:Src P U w I sz (.slice q 0 cap) [] []:=
 ⟨rfl,fun _ _=>by cases q with | none=>rfl | some p=>simp [Builtin.firstCells,loadCells,loadCellsFrom],by simp,fun _ _ h=>by simp at h,fun _ _ _ _ h=>by simp at h⟩
theorem di7 {I:Nat→Nat→Prop} (s:List UInt8):aF3 P U w I 1 (s.map fun b=>[.int .u8 b.toNat]) (s.map fun b=>.int .u8 b.toNat):=by
 refine ⟨by simp,fun i cs hi=>?_,fun i cs j x hi hj=>?_⟩
 all_goals
  rw [List.getElem?_map] at hi
  cases hsi:s[i]? with
  | none=>rw [hsi] at hi; cases hi
  | some b=>
   rw [hsi] at hi; injection hi with hi; subst hi
   first
   | rfl
   | (cases j with
     | zero=>simp at hj; subst hj; exact ⟨_,by simp [hsi],.int _ _ (dh7 b)⟩
     | succ j=>simp at hj)
theorem Src.of_string {I:Nat→Nat→Prop} (s:List UInt8):Src P U w I 1 (.string ⟨⟨s⟩⟩) (s.map fun b=>[.int .u8 b.toNat]) (s.map fun b=>.int .u8 b.toNat):=by
 have hs:(⟨⟨s⟩⟩:ByteArray).size=s.length:=rfl
 refine ⟨by simp [Builtin.lenOf,hs],fun w' _=>?_,di7 s⟩
 simp only [Builtin.firstCells,List.length_map]
 have:=ec5 s s.length (Nat.le_refl _)
 rw [List.take_length] at this
 simp only [Sem.run_pure]
 congr 1
 apply Array.ext'
 rw [this]
theorem Src.of_bytes {I:Nat→Nat→Prop} {b off cap:Nat} (s:List UInt8) (h:∀ (i:Nat) y,s[i]?=some y→w.cell? ⟨b,off+i,none⟩=some (.int .u8 y.toNat)):Src P U w I 1 (.slice (some ⟨b,off,none⟩) s.length cap) (s.map fun b=>[.int .u8 b.toNat]) (s.map fun b=>.int .u8 b.toNat):=by
 refine ⟨by simp [Builtin.lenOf],fun w' hw'=>?_,di7 s⟩
 have hcell:∀ x,w'.cell? x=w.cell? x:=fun x=>by simp only [World.cell?,hw']
 simp only [Builtin.firstCells,List.length_map,Nat.mul_one]
 have:=run_loadCells_list (P:=P) w' ⟨b,off,none⟩ (s.map fun b=>.int .u8 b.toNat) (fun j v hj=>by
  rw [List.getElem?_map] at hj
  cases hsj:s[j]? with
  | none=>rw [hsj] at hj; cases hj
  | some y=>rw [hsj] at hj; injection hj with hj; subst hj; rw [Addr.add_none,hcell]; exact h j y hsj)
 rwa [List.length_map] at this
theorem cV8 (r:R P U N L0 G0 w0 G σ a w) {x:Operand} {v:AV U.τ} (h1:Opd (P:=P) G σ w x v (a.eval x)) {k:List UInt8→ac6 U} {rd:List Nat} {ws:List (Nat × AV U.τ)} (h:aa5 P U σ (bM6 v k) rd ws) :
  ∃ s rd',aa5 P U σ (k s) rd' ws∧(s.length:Int)≤ad0∧Src P U w G.I 1 (a.eval x) (s.map fun b=>[.int .u8 b.toNat]) (s.map fun b=>.int .u8 b.toNat):=by
 obtain ⟨s,rd',h2,h3,⟨_,h4⟩ | ⟨h4,_,_,h5⟩ | ⟨b,off,cap,h4,h5⟩⟩:=di0 r h1 h
 ·exact ⟨s,rd',h2,h3,by rw [h4]; exact Src.of_string s⟩
 ·exact ⟨s,rd',h2,h3,by rw [h4,h5]; exact Src.of_nil⟩
 ·exact ⟨s,rd',h2,h3,by rw [h4]; exact Src.of_bytes s h5⟩
theorem aF3.append {I:Nat→Nat→Prop} {sz:Nat} {css dss:List (List (CV U.τ))} {us vs:List Value} (h:aF3 P U w I sz css us) (k:aF3 P U w I sz dss vs):aF3 P U w I sz (css++dss) (us++vs):=by
 refine ⟨by rw [List.length_append,h.size,k.size,List.length_append,Nat.add_mul],fun i cs hi=>?_,fun i cs j x hi hj=>?_⟩
 ·rw [List.getElem?_append] at hi
  split at hi
  ·exact h.len i cs hi
  ·exact k.len _ cs hi
 ·rw [List.getElem?_append] at hi
  split at hi
  ·rename_i hlt
   obtain ⟨u,hu,hp⟩:=h.cell i cs j x hi hj
   exact ⟨u,by rw [List.getElem?_append_left (List.getElem?_eq_some_iff.1 hu).1]; exact hu,hp⟩
  ·rename_i hge
   obtain ⟨u,hu,hp⟩:=k.cell _ cs j x hi hj
   have e1:i * sz+j=us.length+((i - css.length) * sz+j):=by
    rw [h.size,Nat.sub_mul]
    have:css.length * sz≤i * sz:=Nat.mul_le_mul_right _ (by omega)
    omega
   refine ⟨u,?_,hp⟩
   rw [e1,List.getElem?_append_right (by omega)]
   rw [show us.length+((i - css.length) * sz+j) - us.length=(i - css.length) * sz+j by omega]
   exact hu
theorem dA2 {e:TypeId} (h:dh3 U P e=true):∃ z,(zeroValue e).run P w=.ok z w∧z.cells.size=P.cellsOf e:=by
 unfold dh3 at h
 split at h
 ·rename_i ag cs hz
  obtain ⟨z,h1,h2⟩:=bf0 (w:=w) (I:=fun _ _=>False) hz
  exact ⟨z,h1,by rw [h2.cells.size]; exact Nat.eq_of_beq_eq_true h⟩
 ·cases h
theorem dc6 {u:TypeId} (h:cR7 P u=true):(∃ e',P.underlying u=some (.slice e'))∨P.underlying u=some .string:=by
 unfold cR7 at h
 split at h
 ·rename_i e hu; exact .inl ⟨_,hu⟩
 ·rename_i hu; exact .inr hu
 ·cases h
theorem eL3:IntKind.i64.max=9223372036854775807:=by decide
def dt0 (base:Option Addr) (k:Nat) (us:List Value):Sem Unit:=
 match base with
 | some ad=>storeCells (ad.add k) us
 | none=>pure ()
theorem dF2 {t u ty e:TypeId} (hu:P.underlying t=some (.slice e)) (hs:cR7 P u=true) (hz:1≤P.cellsOf e) {base:Option Addr} {n cap:Nat} {x:Value} {css:List (List (CV U.τ))} {us:List Value} {I:Nat→Nat→Prop} (hx:Src P U w I (P.cellsOf e) x css us) (hn:n+css.length≤cap)
  {w':World} (hst:(dt0 base (n * P.cellsOf e) us).run P w=.ok () w') :
  (Builtin.append_ #[t,u] ty #[.slice base n cap,x]).run P w=.ok (.slice base (n+css.length) cap) w':=by
 cases base with
 | none=>
  have hw:w=w':=by simpa [dt0] using hst
  subst hw
  rcases dc6 hs with ⟨e',hd⟩ | hd
  all_goals
   simp only [Builtin.append_,List.getElem?_toArray,List.getElem?_cons_zero,List.getElem?_cons_succ,Sem.run_bind,Sem.run_pure,Result.andThen_ok,run_underlying hu,run_underlying hd,run_sizeOf hz]
   simp [hx.len,hn,hx.cells w rfl]
 | some ad=>
  simp only [dt0] at hst
  rcases dc6 hs with ⟨e',hd⟩ | hd
  all_goals
   simp only [Builtin.append_,List.getElem?_toArray,List.getElem?_cons_zero,List.getElem?_cons_succ,Sem.run_bind,Sem.run_pure,Result.andThen_ok,run_underlying hu,run_underlying hd,run_sizeOf hz]
   simp [hx.len,hn,hx.cells w rfl,hst]
theorem cj9 {t u ty e:TypeId} (hu:P.underlying t=some (.slice e)) (hs:cR7 P u=true) (hz:1≤P.cellsOf e) (hbytes:P.bytesOf e≤1000000) {v x:Value} {css dss:List (List (CV U.τ))} {us vs:List Value} {I:Nat→Nat→Prop} {base:Option Addr} {cap:Nat}
  (hv:v=.slice base css.length cap) (h1:Src P U w I (P.cellsOf e) v css us) (hx:Src P U w I (P.cellsOf e) x dss vs) (hn:cap < css.length+dss.length) (hroom:((css.length+dss.length:Nat):Int) * P.bytesOf e≤ah8) (hroom':((css.length+dss.length:Nat):Int)≤ah8)
  {z:Value} (hzr:∀ w:World,(zeroValue e).run P w=.ok z w) (hzs:z.cells.size=P.cellsOf e) :
  ∃ newCap w',css.length+dss.length≤newCap∧(Builtin.append_ #[t,u] ty #[v,x]).run P w=.ok (.slice (some ⟨w.heap.size,0,none⟩) (css.length+dss.length) newCap) w'∧
   w'.os=w.os∧w'.tape=w.tape∧w'.output=w.output∧∃ cells:Array Value,w'.heap=w.heap.push (.cells cells e)∧cells.size=newCap * P.cellsOf e∧∀ (q:Nat) u,(us++vs)[q]?=some u→cells[q]?=some u:=by
 subst hv
 obtain ⟨i,hi,_⟩:=dX7 hz
 have hib:i.bytes=P.bytesOf e:=by simp [Program.bytesOf,hi]
 let need:=css.length+dss.length
 let newCap:=(Question.appendCap need cap e).cut (w.tape w.drawn (Question.appendCap need cap e))
 have hcap:need≤newCap:=Nat.le_add_right _ _
 have hus:us.toArray.size=css.length * P.cellsOf e:=by simpa using h1.flat.size
 have hvs:vs.toArray.size=dss.length * P.cellsOf e:=by simpa using hx.flat.size
 let cells:Array Value:=us.toArray++vs.toArray++Builtin.zeroCells z.cells (newCap - need)
 refine ⟨newCap,{ w with drawn:=w.drawn+1,heap:=w.heap.push (.cells cells e) },hcap,?_,rfl,rfl,rfl,cells,rfl,?_,fun q u hq=>?_⟩
 ·have hn1:¬(css.length+dss.length≤cap):=by omega
  have hle:css.length+dss.length≤35184372088832:=by unfold ah8 at hroom'; omega
  have hnc:=di6 hn
  have hmul:Builtin.nextslicecap (css.length+dss.length) cap * i.bytes≤2 ^ 48:=by
   rw [hib]
   have h3:Builtin.nextslicecap (css.length+dss.length) cap * P.bytesOf e≤(2 * (css.length+dss.length)+1000) * P.bytesOf e:=Nat.mul_le_mul_right _ hnc
   have h4:(2 * (css.length+dss.length)+1000) * P.bytesOf e=2 * ((css.length+dss.length) * P.bytesOf e)+1000 * P.bytesOf e:=by rw [Nat.add_mul,Nat.mul_assoc]
   have h5:(css.length+dss.length) * P.bytesOf e≤35184372088832:=by
    have h:=hroom
    unfold ah8 at h
    rw [← Int.natCast_mul] at h
    omega
   omega
  have hmul':¬(Builtin.nextslicecap (css.length+dss.length) cap * i.bytes > 2 ^ 48):=by omega
  have f1:=h1.cells { w with drawn:=w.drawn+1 } rfl
  have f2:=hx.cells { w with drawn:=w.drawn+1 } rfl
  have hz':∀ w:World,(zeroValue e).run P w=.ok z w:=hzr
  rcases dc6 hs with ⟨e',hd⟩ | hd
  all_goals
   simp only [Builtin.append_,List.getElem?_toArray,List.getElem?_cons_zero,List.getElem?_cons_succ,Sem.run_bind,Sem.run_pure,Result.andThen_ok,run_underlying hu,run_underlying hd,run_sizeOf hz]
   simp only [Bool.false_eq_true,if_false,hx.len,Sem.run_bind,Sem.run_pure,Result.andThen_ok,if_neg hn1,typeInfo,run_program,hi,eL3]
   rw [if_neg (by intro h; omega)]
   simp only [Sem.run_bind,Sem.run_pure,Result.andThen_ok,run_program,hi,if_neg hmul',run_choose,Question.forced,Bool.false_eq_true,if_false,run_askRoom]
   simp only [f1,f2,Result.andThen_ok,Bool.not_false,if_true,hz',newRow,Sem.run_bind,run_newObj,Sem.run_pure]
   rfl
 ·have h6:(Builtin.zeroCells z.cells (newCap - need)).size=(newCap - need) * P.cellsOf e:=by simp [Builtin.zeroCells,hzs]
  show (us.toArray++vs.toArray++Builtin.zeroCells z.cells (newCap - need)).size=_
  rw [Array.size_append,Array.size_append,hus,hvs,h6,← Nat.add_mul,← Nat.add_mul]
  congr 1
  have:need=css.length+dss.length:=rfl
  omega
 ·have hlt:=(List.getElem?_eq_some_iff.1 hq).1
  show (us.toArray++vs.toArray++Builtin.zeroCells z.cells (newCap - need))[q]?=some u
  rw [Array.getElem?_append_left (by simpa using hlt)]
  have:us.toArray++vs.toArray=(us++vs).toArray:=by simp
  rw [this]
  simpa using hq
end
end Go.VI
namespace Go.VI
open Go
section
variable {P:Program} {U:ad6} {N:Nat} {L0:Nat→Nat} {G0:ab7} {w0:World} {G:ab7} {σ:ac0 U} {a:Act} {w:World} {o:Oper} {adv:Adv}
theorem R.putAt (r:R P U N L0 G0 w0 G σ a w) {d:Nat} {v:AV U.τ} {u:Value} (hd:d < N) (ho:(σ d).owner=false) (hv:v.owner=false) (h:ac9 P U G σ w d v u) :
  R P U N L0 G0 w0 G (upd σ d v) (a.put (some d) u) w:=by
 have hn:∀ s,(σ s).owner=true→s≠d:=fun s hs he=>by rw [he,ho] at hs; cases hs
 have x:Ext (fun _=>False) G G σ (upd σ d v) w w:=
  ⟨fun _ _ h=>⟨h,rfl⟩,fun _ _ h _=>⟨h,rfl,fun _ h=>h⟩,fun _ _=>rfl,fun s cs hs=>⟨cs,by simp [upd,hn s (by rw [hs]; rfl),hs]⟩,
   fun s e y q hs=>⟨e,y,by simp [upd,hn s (by rw [hs]; rfl),hs],rfl⟩⟩
 refine r.go x (.refl G w) rfl (by simp [Act.put]) (fun _ _=>rfl) (fun b o h=>.inl h) (fun b L h=>.inl ⟨L,h⟩) (fun t cs' ht hσ=>?_) (fun t=>?_)
 ·have:t≠d:=fun he=>by have:=r.small; omega
  simp only [upd,this,if_false] at hσ
  exact ⟨cs',hσ,rfl,fun _ _=>rfl⟩
 ·rw [bs4 (Nat.lt_of_lt_of_le hd r.size)]
  by_cases ht:t=d
  ·subst ht
   right
   simp only [upd,if_true]
   exact h.mono x (fun h=>h) (fun _ h=>h) (fun hh=>by rw [hv] at hh; cases hh)
  ·left
   simp [upd,ht]
theorem cr3 {G:ab7} {σ:ac0 U} {w:World} {t:Nat} {c:CV U.τ} {u:Value} {e:Nat} {css:List (List (CV U.τ))} (hc:cont c=some (e,css,.app)) (h:aU3 P U w G.I G.who (t,none) c u):ac9 P U G σ w t (.one c) u:=by
 cases c <;> first | (simp [cont] at hc; done) | exact .inr h
theorem aU3.cont {I:Nat→Nat→Prop} {who:Nat→Option (Nat × Option Nat)} {L:Nat × Option Nat} {c c':CV U.τ} {u:Value} {e:Nat} {css:List (List (CV U.τ))} {f:Fl} (hc:cont c=some (e,css,f)) (hc':cont c'=some (e,css,.app)) (h:aU3 P U w I who L c u):aU3 P U w I who L c' u:=by
 obtain ⟨e1,css1,k1,k2,k3⟩:=h
 rw [hc] at k1
 simp only [Option.some.injEq,Prod.mk.injEq] at k1
 obtain ⟨rfl,rfl,rfl⟩:=k1
 exact ⟨_,_,hc',k2,k3⟩
theorem R.grow (r:R P U N L0 G0 w0 G σ a w) {d:Nat} (hd:d < N) (ho:(σ d).owner=false) {c':CV U.τ} {e:Nat} {css:List (List (CV U.τ))} (hc:cont c'=some (e,css,.app)) {us:List Value} (hf:aF3 P U w G.I (P.cellsOf e) css us) (hm:(css.length:Int)≤ad0)
  {cap:Nat} (hcap:css.length≤cap) {w':World} (h1:w'.os=w.os) (h2:w'.tape=w.tape) (h3:w'.output=w.output) {cells:Array Value} (hh:w'.heap=w.heap.push (.cells cells e)) (hsz:cells.size=cap * P.cellsOf e) (hcells:∀ (q:Nat) u,us[q]?=some u→cells[q]?=some u) :
  ∃ G',R P U N L0 G0 w0 G' (upd σ d (.one c')) (a.put (some d) (.slice (some ⟨w.heap.size,0,none⟩) css.length cap)) w':=by
 have hle:css.length * P.cellsOf e≤cap * P.cellsOf e:=Nat.mul_le_mul_right _ hcap
 refine ⟨_,r.fresh (imm:=fun o=>o < css.length * P.cellsOf e) (wh:=some (d,none)) hh h1 h2 h3 hd ho (fun o ho=>by omega) (cr3 hc ?_)⟩
 refine ⟨e,css,hc,hm,.inr ⟨w.heap.size,0,cap,rfl,hcap,?_,.inr ⟨if_pos rfl,cells,e,(0,0),by rw [aH7 hh,if_pos rfl],by omega,fun o h1 h2=>by simp at h2,fun o h1 h2 hI=>?_⟩⟩⟩
 ·refine hf.cont (fun b o h=>⟨.inl h,bz5 hh b o (cj8 (r.imm b o h))⟩) (fun q u hq=>?_)
  rw [Nat.zero_add]
  refine ⟨.inr ⟨rfl,?_⟩,by rw [aL0 hh]; exact hcells q u hq⟩
  rw [← hf.size]
  exact (List.getElem?_eq_some_iff.1 hq).1
 ·rcases hI with hI | ⟨_,hI⟩
  ·exact r.notI o hI
  ·omega
theorem R.push (r:R P U N L0 G0 w0 G σ a w) {d:Nat} (hd:d < N) (ho:(σ d).owner=false) {c':CV U.τ} {e:Nat} {css dss:List (List (CV U.τ))} (hc:cont c'=some (e,css++dss,.app)) {vs:List Value} {b off cap:Nat} (hco:bh0 P U w G.I b off (P.cellsOf e) css) (hf:aF3 P U w G.I (P.cellsOf e) dss vs)
  (hm:((css++dss).length:Int)≤ad0) (hcap:css.length+dss.length≤cap) (hw:G.who b=some (d,none)) (hsp:eh0 w G.I b (off+css.length * P.cellsOf e) (off+cap * P.cellsOf e)) :
  (∃ G',R P U N L0 G0 w0 G' (upd σ d (.one c')) (a.put (some d) (.slice (some ⟨b,off,none⟩) (css.length+dss.length) cap)) (w.setCells b (off+css.length * P.cellsOf e) vs))∧
  (storeCells ⟨b,off+css.length * P.cellsOf e,none⟩ vs).run P w=.ok () (w.setCells b (off+css.length * P.cellsOf e) vs):=by
 obtain ⟨c,T,fz,h1,h2,h3,h4⟩:=hsp
 have hvl:=hf.size
 have hmul:css.length * P.cellsOf e+dss.length * P.cellsOf e≤cap * P.cellsOf e:=by rw [← Nat.add_mul]; exact Nat.mul_le_mul_right _ hcap
 have hin:∀ j,j < vs.length→(w.cell? ⟨b,off+css.length * P.cellsOf e+j,none⟩).isSome=true:=fun j hj=>by
  rw [ag3 h1,Array.getElem?_eq_getElem (by omega)]; rfl
 have hn:∀ s,(σ s).owner=true→s≠d:=fun s hs he=>by rw [he,ho] at hs; cases hs
 have notI:∀ o,off+css.length * P.cellsOf e≤o→o < off+css.length * P.cellsOf e+vs.length→¬G.I b o:=fun o k1 k2=>h4 o k1 (by omega)
 let G':ab7:=⟨fun b' o=>G.I b' o∨(b'=b∧off+css.length * P.cellsOf e≤o∧o < off+css.length * P.cellsOf e+vs.length),G.loc,G.who⟩
 have imm:∀ b' o,G.I b' o→G'.I b' o∧(w.setCells b (off+css.length * P.cellsOf e) vs).cell? ⟨b',o,none⟩=w.cell? ⟨b',o,none⟩:=fun b' o h=>by
  refine ⟨.inl h,World.cell?_setCells_out _ _ _ _ _ (fun hb _=>?_)⟩
  simp only at hb
  subst hb
  rcases Nat.lt_or_ge o (off+css.length * P.cellsOf e) with k | k
  ·exact .inl k
  ·rcases Nat.lt_or_ge o (off+css.length * P.cellsOf e+vs.length) with k2 | k2
   ·exact absurd h (notI o k k2)
   ·exact .inr k2
 obtain ⟨o1,o2,o3⟩:=ce3 b vs (off+css.length * P.cellsOf e) w
 have x:Ext (fun L=>L=(d,none)) G G' σ (upd σ d (.one c')) w (w.setCells b (off+css.length * P.cellsOf e) vs):=by
  refine ⟨imm,fun b' L h hL=>?_,fun _ _=>rfl,fun s cs hs=>⟨cs,by simp [upd,hn s (by rw [hs]; rfl),hs]⟩,fun s e y q hs=>⟨e,y,by simp [upd,hn s (by rw [hs]; rfl),hs],rfl⟩⟩
  have hbb:b'≠b:=fun he=>hL (by rw [he,hw] at h; injection h with h; exact h.symm)
  refine ⟨h,aX8 hbb _ _ _,fun o ho=>?_⟩
  rcases ho with ho | ⟨ho,_⟩
  ·exact ho
  ·exact absurd ho hbb
 have st:aF1 G w G' (w.setCells b (off+css.length * P.cellsOf e) vs):=by
  refine ⟨o1,o2,o3,by rw [bD0]; exact Nat.le_refl _,fun b' _ hw'=>aX8 (fun he=>by rw [he,hw] at hw'; cases hw') _ _ _,imm,fun b' o h=>?_,fun b L h=>.inr (by show (G.who b).isSome=true; rw [show G.who b=some L from h]; rfl)⟩
  rcases h with h | ⟨h,_⟩
  ·exact .inl h
  ·exact .inr (.inr (by rw [h,hw]; rfl))
 refine ⟨⟨G',r.go x st rfl (by simp [Act.put]) (fun _ _=>rfl) (fun b' o h=>?_) (fun b L h=>.inl ⟨L,h⟩) (fun t cs' ht hσ=>?_) (fun t=>?_)⟩,?_⟩
 ·rcases h with h | ⟨rfl,h⟩
  ·exact .inl h
  ·right
   have:=World.cell?_setCells_in _ vs _ w hin (o - (off+css.length * P.cellsOf e)) (by omega)
   rw [show off+css.length * P.cellsOf e+(o - (off+css.length * P.cellsOf e))=o by omega] at this
   rw [this]; rfl
 ·have htd:t≠d:=fun he=>by have:=r.small; omega
  simp only [upd,htd,if_false] at hσ
  refine ⟨cs',hσ,rfl,fun o _=>World.cell?_setCells_out _ _ _ _ _ (fun hb=>?_)⟩
  simp only at hb
  have:=r.slots t
  rw [hσ] at this
  have h5:=this.2.hwho
  rw [hb,hw] at h5
  injection h5 with h5; injection h5 with h5
  exact absurd h5.symm htd
 ·rw [bs4 (Nat.lt_of_lt_of_le hd r.size)]
  by_cases ht:t=d
  ·right
   rw [if_pos ht,ht]
   have hat:upd σ d (.one c') d=.one c':=by simp [upd]
   rw [hat]
   have hlen:(css++dss).length=css.length+dss.length:=List.length_append
   refine cr3 hc ⟨e,css++dss,hc,hm,.inr ⟨b,off,cap,by rw [hlen],by rw [hlen]; exact hcap,?_,.inr ⟨hw,?_⟩⟩⟩
   ·have hco':=hco.mono imm
    refine ⟨fun i cs hi=>?_,fun i cs j y hi hj=>?_,fun i cs j y hi hj=>?_⟩
    all_goals
     rw [List.getElem?_append] at hi
     split at hi
    ·exact hco.len i cs hi
    ·exact hf.len _ cs hi
    ·exact hco'.imm i cs j y hi hj
    ·rename_i hge
     obtain ⟨u,hu,hp⟩:=hf.cell _ cs j y hi hj
     have hlt:=(List.getElem?_eq_some_iff.1 hu).1
     have e1:i * P.cellsOf e+j=css.length * P.cellsOf e+((i - css.length) * P.cellsOf e+j):=by
      rw [Nat.sub_mul]
      have:css.length * P.cellsOf e≤i * P.cellsOf e:=Nat.mul_le_mul_right _ (by omega)
      omega
     exact .inr ⟨rfl,by omega,by omega⟩
    ·exact hco'.cell i cs j y hi hj
    ·rename_i hge
     obtain ⟨u,hu,hp⟩:=hf.cell _ cs j y hi hj
     have hlt:=(List.getElem?_eq_some_iff.1 hu).1
     have e1:i * P.cellsOf e+j=css.length * P.cellsOf e+((i - css.length) * P.cellsOf e+j):=by
      rw [Nat.sub_mul]
      have:css.length * P.cellsOf e≤i * P.cellsOf e:=Nat.mul_le_mul_right _ (by omega)
      omega
     have:=World.cell?_setCells_in _ vs _ w hin ((i - css.length) * P.cellsOf e+j) hlt
     refine ⟨u,?_,hp.mono imm⟩
     rw [show off+i * P.cellsOf e+j=off+css.length * P.cellsOf e+((i - css.length) * P.cellsOf e+j) by omega,this]
     exact congrArg some (List.getElem?_eq_some_iff.1 hu).2
   ·obtain ⟨cc,k1,k2⟩:=bh3 vs (off+css.length * P.cellsOf e) w h1
    refine ⟨cc,T,fz,k1,by rw [k2]; exact h2,by rw [k2]; exact h3,fun o g1 g2 hI=>?_⟩
    rw [hlen,Nat.add_mul] at g1
    rcases hI with hI | ⟨_,_,hI⟩
    ·exact h4 o (by omega) g2 hI
    ·omega
  ·left
   exact ⟨by simp [upd,ht],by rw [if_neg ht],fun he=>ht (by injection he),fun i he=>by injection he with _ h; cases h⟩
 ·have hone:=hf.one1
  have:=run_storeCells_cells (P:=P) b (off+css.length * P.cellsOf e) vs 0 w (fun j hj=>by simpa using hin j hj) (fun j hj=>by
   rw [Nat.add_zero]
   exact bD1 h1 h3 _ (by omega)) hone
  simpa using this
theorem eJ2 (r:R P U N L0 G0 w0 G σ a w) {d:Nat} (hd:d < N) {t u:TypeId} {e:Nat} (hu:P.underlying t=some (.slice e)) (hs:cR7 P u=true) (hz:1≤P.cellsOf e) (hb1:1≤P.bytesOf e) (hbytes:P.bytesOf e≤1000000) (hzero:dh3 U P e=true)
  {x y:Operand} {c c' cold:CV U.τ} {css dss:List (List (CV U.τ))} {f:Fl} {vs:List Value} (h1:Opd (P:=P) G σ w x (.one c) (a.eval x)) (hc:cont c=some (e,css,f)) (hc':cont c'=some (e,css++dss,.app)) (hcold:f=.app→cold=c.plain) (hx:Src P U w G.I (P.cellsOf e) (a.eval y) dss vs)
  (hroom:((css.length+dss.length:Nat):Int) * P.bytesOf e≤ah8)
  (hdst:o.dst=some d) (hex:∀ v w',(∀ ty,(Builtin.append_ #[t,u] ty #[a.eval x,a.eval y]).run P w=.ok v w')→(execOp a.eval o).run P w=.ok (.value v) w') {rd:List Nat} {ws:List (Nat × AV U.τ)}
  (h:aa5 P U σ (eg9 d (av2 x) f (.one c') (.one cold)) rd ws):ae5 P U N L0 G0 w0 σ o a w ws:=by
 have hlen:(css++dss).length=css.length+dss.length:=List.length_append
 have hroom':((css.length+dss.length:Nat):Int)≤ah8:=by
  have:((css.length+dss.length:Nat):Int) * 1≤((css.length+dss.length:Nat):Int) * P.bytesOf e:=Int.mul_le_mul_of_nonneg_left (by omega) (by omega)
  omega
 have hm:((css++dss).length:Int)≤ad0:=by rw [hlen]; unfold ah8 at hroom'; unfold ad0; omega
 obtain ⟨z,hzr,hzs⟩:∃ z,(∀ w:World,(zeroValue e).run P w=.ok z w)∧z.cells.size=P.cellsOf e:=by
  obtain ⟨z,h2,h3⟩:=dA2 (w:=w) hzero
  refine ⟨z,fun w'=>?_,h3⟩
  obtain ⟨z',h4,_⟩:=dA2 (w:=w') hzero
  have:z'=z:=by
   have g:∀ w:World,(zeroValue e).run P w=(match P.info? e with | some i=>(match i.zero with | some v=>.ok v w | none=>.halt (.unsupported (.resourceLimit "a value of more than 2^22 cells")) w) | none=>.halt (.stuck "no such type") w):=fun w=>by
    cases hi:P.info? e with
    | none=>simp [zeroValue,typeInfo,hi]
    | some i=>cases hz:i.zero <;> simp [zeroValue,typeInfo,hi,hz]
   rw [g] at h2 h4
   cases hi:P.info? e with
   | none=>rw [hi] at h2; cases h2
   | some i=>
    rw [hi] at h2 h4
    cases hz:i.zero with
    | none=>simp only [hz] at h2; cases h2
    | some v=>simp only [hz] at h2 h4; injection h2 with h2; injection h4 with h4; rw [← h4,h2]
  rw [← this]; exact h4
 have goal:∀ v w',(∀ ty,(Builtin.append_ #[t,u] ty #[a.eval x,a.eval y]).run P w=.ok v w')→(∃ G',R P U N L0 G0 w0 G' (ad1 σ ws) (a.put (some d) v) w')→ae5 P U N L0 G0 w0 σ o a w ws:=by
  intro v w' hr hR
  unfold ae5 az3
  rw [hex v w' hr,hdst]
  exact hR
 have base:∃ us,Src P U w G.I (P.cellsOf e) (a.eval x) css us∧∃ bs cap,a.eval x=.slice bs css.length cap∧(bs=none→css=[]∧cap=0)∧css.length≤cap∧(f=.tight→cap=css.length):=by
  obtain ⟨_,⟨h2,h3⟩ | ⟨h2,h3,p,cap,h4⟩ | ⟨b,off,cap,h2,h3,h4,h5⟩⟩:=h1.slice hc
  ·subst h2
   exact ⟨[],by rw [h3]; exact Src.of_nil,none,0,h3,fun _=>⟨rfl,rfl⟩,by simp,fun _=>rfl⟩
  ·subst h2; exact h.of_fail.elim
  ·obtain ⟨us,h6⟩:=Src.of_slice (cap:=cap) h5
   exact ⟨us,by rw [h2]; exact h6,some ⟨b,off,none⟩,cap,h2,(fun hh=>by cases hh),h3,h4⟩
 obtain ⟨us,hsrc,bs,cap,hux,hnone,hcap,htight⟩:=base
 have growth:∀ {G1:ab7} {σ1:ac0 U},R P U N L0 G0 w0 G1 σ1 a w→G1.I=G.I→(σ1 d).owner=false→cap < css.length+dss.length→(upd σ1 d (.one c')=ad1 σ ws)→ae5 P U N L0 G0 w0 σ o a w ws:=by
  intro G1 σ1 r1 hI ho hlt hσ
  have hall:∃ newCap w',css.length+dss.length≤newCap∧(∀ ty,(Builtin.append_ #[t,u] ty #[a.eval x,a.eval y]).run P w=.ok (.slice (some ⟨w.heap.size,0,none⟩) (css.length+dss.length) newCap) w')∧
    w'.os=w.os∧w'.tape=w.tape∧w'.output=w.output∧∃ cells:Array Value,w'.heap=w.heap.push (.cells cells e)∧cells.size=newCap * P.cellsOf e∧∀ (q:Nat) u,(us++vs)[q]?=some u→cells[q]?=some u:=by
   obtain ⟨nc,w',g1,g2,g3⟩:=cj9 (ty:=0) hu hs hz hbytes hux hsrc hx hlt hroom hroom' hzr hzs
   exact ⟨nc,w',g1,fun ty=>g2,g3⟩
  obtain ⟨nc,w',g1,g2,g3,g4,g5,cells,g6,g7,g8⟩:=hall
  have hf:=hsrc.flat.append hx.flat
  rw [← hI] at hf
  have:=r1.grow hd ho hc' hf hm (by rw [hlen]; exact g1) g3 g4 g5 g6 g7 g8
  rw [hlen,hσ] at this
  exact goal _ _ g2 this
 have inPlace:∀ w',(dt0 bs (css.length * P.cellsOf e) vs).run P w=.ok () w'→css.length+dss.length≤cap→∀ ty,(Builtin.append_ #[t,u] ty #[a.eval x,a.eval y]).run P w=.ok (.slice bs (css.length+dss.length) cap) w':=by
  intro w' hst hle ty
  rw [hux]
  exact dF2 hu hs hz hx hle hst
 have nilCase:dss=[]→vs=[]:=fun hd=>List.length_eq_zero_iff.1 (by rw [hx.flat.size,hd]; simp)
 have nilRun:dss=[]→(dt0 bs (css.length * P.cellsOf e) vs).run P w=.ok () w:=fun hd=>by rw [nilCase hd]; cases bs <;> rfl
 cases f with
 | ro=>exact h.of_fail.elim
 | tight=>
  have hct:=htight rfl
  have h:aa5 P U σ (wr (some d) (.one c')) rd ws:=by cases hx0:av2 x <;> rw [hx0] at h <;> exact h
  rcases h.of_wr with ⟨k1,_⟩ | ⟨d',k1,k2,k3⟩
  ·cases k1
  ·injection k1 with k1; subst k1
   by_cases hds:dss=[]
   ·have hrun:=inPlace w (nilRun hds) (by rw [hds]; simpa using hcap)
    refine goal _ _ hrun ⟨G,?_⟩
    rw [k2]
    refine r.putAt hd k3 rfl (cr3 hc' ?_)
    have hcd:css++dss=css:=by rw [hds,List.append_nil]
    rw [hcd] at hc' hm
    refine ⟨e,css,hc',hm,?_⟩
    obtain ⟨_,⟨h2,h3⟩ | ⟨h2,_⟩ | ⟨b,off,cap',h2,h3,h4,h5⟩⟩:=h1.slice hc
    ·rw [hux] at h3
     injection h3 with e1 e2 e3
     exact .inl ⟨h2,by rw [e1,hds,e2,e3]; rfl⟩
    ·cases h2
    ·rw [hux] at h2
     injection h2 with e1 _ e3
     exact .inr ⟨b,off,cap,by rw [e1,hds]; rfl,hcap,h5,.inl hct⟩
   ·have hpos:0 < dss.length:=List.length_pos_iff.2 hds
    exact growth r rfl k3 (by omega) (by rw [k2]; rfl)
 | app=>
  cases hx0:av2 x with
  | none=>rw [hx0] at h; exact h.of_fail.elim
  | some y0=>
   rw [hx0] at h
   obtain ⟨hne,h⟩:=aa5.of_cond' h
   have hne:y0≠d:=fun he=>by rw [he,Nat.beq_refl] at hne; cases hne
   have hx1:x=.tmp y0:=by cases x <;> simp [av2] at hx0; rw [hx0]
   have hcold:=hcold rfl
   subst hcold
   obtain ⟨t',_,ht'⟩:=h1.ok
   have hσy:σ y0=.one c∧y0 < aa9:=by
    rcases ht' with ⟨g2,g3,g4⟩ | ⟨g2,_⟩
    ·rw [hx0] at g2; injection g2 with g2; subst g2
     refine ⟨?_,g3⟩
     cases hσ:σ y0 with
     | box cs=>rw [hσ] at g4; simp only [av1] at g4; injection g4 with g4; subst g4; simp [cont] at hc
     | bblk e y q=>rw [hσ] at g4; simp only [av1] at g4; injection g4 with g4; subst g4; simp [cont] at hc
     | _=>rw [hσ] at g4; exact g4.symm
    ·rw [hx0] at g2; cases g2
   rcases h.of_wr with ⟨k1,_⟩ | ⟨d',k1,k2,k3⟩
   ·cases k1
   ·injection k1 with k1; subst k1
    obtain ⟨G1,r1,happ,hloc,hI⟩:=r.giveTo hσy.1 hσy.2 hc (d,none) (fun he=>hne (by injection he with he _; exact he.symm))
    have ho1:((upd σ y0 (.one c.plain)) d).owner=false:=by simp only [upd,Ne.symm hne,if_false]; exact k3
    have hσ:upd (upd σ y0 (.one c.plain)) d (.one c')=ad1 σ ws:=by
     rw [k2]
     funext z
     simp only [ad1,upd]
     by_cases z1:z=y0
     ·simp [z1,hne]
     ·simp [z1]
    have hval:a.tmps.getD y0 undef=a.eval x:=by rw [hx1]; rfl
    rw [hval] at happ
    by_cases hds:dss=[]
    ·have hrun:=inPlace w (nilRun hds) (by rw [hds]; simpa using hcap)
     refine goal _ _ hrun ⟨G1,?_⟩
     have hcd:css++dss=css:=by rw [hds,List.append_nil]
     rw [hcd] at hc'
     have hv:(Value.slice bs (css.length+dss.length) cap)=a.eval x:=by rw [hux,hds]; rfl
     rw [← hσ,hv]
     exact r1.putAt hd ho1 rfl (cr3 hc' (happ.cont hc hc'))
    ·by_cases hlt:cap < css.length+dss.length
     ·exact growth r1 hI ho1 hlt hσ
     ·obtain ⟨e1,css1,m1,_,m3⟩:=happ
      rw [hc] at m1
      simp only [Option.some.injEq,Prod.mk.injEq] at m1
      obtain ⟨rfl,rfl,_⟩:=m1
      have hpos:0 < dss.length:=List.length_pos_iff.2 hds
      rcases m3 with ⟨m3,m4⟩ | ⟨b,off,cap',m3,m4,m5,m6⟩
      ·rw [hux] at m4; injection m4 with e1 e2 e3; omega
      ·rw [hux] at m3
       injection m3 with e1 _ e3
       subst e3
       rcases m6 with m6 | ⟨m6,m7⟩
       ·omega
       ·have hf:=hx.flat
        rw [← hI] at hf
        obtain ⟨R1,R2⟩:=r1.push hd ho1 hc' m5 hf hm (by omega) m6 m7
        rw [hσ] at R1
        refine goal _ _ (inPlace _ (by rw [e1]; simp only [dt0,Addr.add_none]; exact R2) (by omega)) ?_
        rw [e1]
        exact R1
end
end Go.VI
namespace Go.VI
open Go
section
variable {P:Program} {U:ad6} {N:Nat} {L0:Nat→Nat} {G0:ab7} {w0:World} {G:ab7} {σ:ac0 U} {a:Act} {w:World} {o:Oper} {adv:Adv}
theorem ep6 (r:R P U N L0 G0 w0 G σ a w) (hd:∀ d,o.dst=some d→d < N) {c:Call} (ho:o.op=.call c) (hb:c.callee=.builtin .append) {rd:List Nat} {ws:List (Nat × AV U.τ)} (h:aa5 P U σ (ac3 P adv o) rd ws) :
  ae5 P U N L0 G0 w0 σ o a w ws:=by
 obtain ⟨callee,args,argTypes⟩:=c
 simp only at hb
 subst hb
 simp only [ac3,ho] at h
 split at h
 ·rename_i s x t u ha ht
  have ha':args=#[s,x]:=by cases args; simp_all
  have ht':argTypes=#[t,u]:=by cases argTypes; simp_all
  subst ha'; subst ht'
  split at h
  ·rename_i e hu
   obtain ⟨hb,h⟩:=aa5.of_cond h
   simp only [Bool.and_eq_true] at hb
   obtain ⟨⟨⟨⟨hz,hb1⟩,hb2⟩,hzero⟩,hsrc⟩:=hb
   have hz:=Nat.le_of_ble_eq_true hz
   have hb1:=Nat.le_of_ble_eq_true hb1
   have hb2:=Nat.le_of_ble_eq_true hb2
   cases hdst:o.dst with
   | none=>rw [hdst] at h; exact h.of_fail.elim
   | some d=>
    rw [hdst] at h
    obtain ⟨v,_,h1,h⟩:=r.opd h
    obtain ⟨v2,_,h2,h⟩:=r.opd h
    have hex:∀ v w',(∀ ty,(Builtin.append_ #[t,u] ty #[a.eval s,a.eval x]).run P w=.ok v w')→(execOp a.eval o).run P w=.ok (.value v) w':=by
     intro v w' hr
     simp [execOp,ho,resolve,invoke,builtin,hr]
    have hdN:=hd d hdst
    cases v with
    | one c=>
     cases c with
     | sl e1 xs f=>
      cases v2 with
      | one c2=>
       cases c2 with
       | sl e2 ys f2=>
        simp only [cR8] at h
        cases hdec:Nat.decEq e2 e1 with
        | isFalse _=>rw [hdec] at h; exact h.of_fail.elim
        | isTrue he=>
         rw [hdec] at h
         subst he
         obtain ⟨hbe,h⟩:=aa5.of_cond h
         have hbe:=Nat.eq_of_beq_eq_true hbe
         obtain ⟨hroom,h⟩:=h.of_guard
         have hroom:=db9 hroom
         rw [Int.natCast_mul] at hroom
         have hsx:∃ us,Src P U w G.I (P.cellsOf e2) (a.eval x) (ys.map (U.enc e2)) us:=by
          obtain ⟨_,⟨g2,g3⟩ | ⟨_,g2,p,cap,g3⟩ | ⟨b,off,cap,g2,g3,g4,g5⟩⟩:=h2.slice (css:=ys.map (U.enc e2)) (e:=e2) (f:=f2) rfl
          ·rw [g2,g3]; exact ⟨[],Src.of_nil⟩
          ·rw [g2,g3]; exact ⟨[],Src.of_nil⟩
          ·obtain ⟨us,g6⟩:=Src.of_slice (cap:=cap) g5
           rw [← g2] at g6
           exact ⟨us,g6⟩
         obtain ⟨us,hsx⟩:=hsx
         rw [← hbe] at hu hz hb1 hb2 hzero hroom
         exact eJ2 r hdN hu hsrc hz hb1 hb2 hzero h1 (css:=xs.map (U.enc e2)) (dss:=ys.map (U.enc e2)) (f:=f) rfl (by simp [cont]) (fun hf=>by rw [hf]; rfl) hsx (by simpa using hroom) hdst hex h
       | _=>exact h.of_fail.elim
      | _=>exact h.of_fail.elim
     | bs e1 t1 f=>
      simp only [cR8] at h
      obtain ⟨hbe,h⟩:=aa5.of_cond h
      simp only [Bool.and_eq_true] at hbe
      have hbe1:=Nat.eq_of_beq_eq_true hbe.1
      obtain ⟨hsz,hbb,_⟩:=be9 hbe.2
      obtain ⟨y,_,h,_,hsx⟩:=cV8 r h2 h
      obtain ⟨hroom,h⟩:=h.of_guard
      have hroom:=db9 hroom
      rw [← hbe1] at hu hz hb1 hb2 hzero hsz hbb
      rw [← hsz] at hsx
      exact eJ2 r hdN hu hsrc hz hb1 hb2 hzero h1 (css:=t1.map fun b=>[.int .u8 b.toNat]) (dss:=y.map fun b=>[.int .u8 b.toNat]) (f:=f) rfl (by simp [cont]) (fun hf=>by rw [hf]; rfl) hsx (by rw [hbb]; simpa using hroom) hdst hex h
     | sref q=>
      simp only [cR8] at h
      obtain ⟨_,h⟩:=h.of_read
      obtain ⟨e0,y0,q0,cap,hs,hu',hl,hq⟩:=h1.sref
      rw [hs] at h
      cases q0 with
      | false=>exact h.of_fail.elim
      | true=>
       obtain ⟨hbe,h⟩:=aa5.of_cond h
       simp only [Bool.and_eq_true] at hbe
       have hbe1:=Nat.eq_of_beq_eq_true hbe.1
       obtain ⟨hsz,hbb,_⟩:=be9 hbe.2
       obtain ⟨y,_,h,_,hsx⟩:=cV8 r h2 h
       cases y with
       | nil=>exact h.of_fail.elim
       | cons b y=>
        obtain ⟨hroom,h⟩:=h.of_guard
        have hroom:=db9 hroom
        have hblk:=r.slots q
        rw [hs] at hblk
        obtain ⟨cc,T,fz,k1,k2,k3,k4⟩:=hblk.2.row
        have hsrc1:Src P U w G.I 1 (a.eval s) (y0.map fun b=>[.int .u8 b.toNat]) (y0.map fun b=>.int .u8 b.toNat):=by
         rw [hu']
         exact Src.of_bytes y0 (fun i z hz=>by rw [ag3 k1]; exact k4 i z hz)
        rw [← hbe1] at hu hz hb1 hb2 hzero hsz hbb
        obtain ⟨z,hzr,hzs⟩:∃ z,(∀ w:World,(zeroValue e0).run P w=.ok z w)∧z.cells.size=P.cellsOf e0:=by
         obtain ⟨_,_,_,i,hi,hz0,_⟩:=be9 (P:=P) (e:=e0) (by rw [hbe1]; exact hbe.2)
         exact ⟨.int .u8 0,fun w=>by simp [zeroValue,typeInfo,hi,hz0],by rw [hsz]; rfl⟩
        have hcap:=hq rfl
        have hl1:(y0.map fun b=>([.int .u8 b.toNat]:List (CV U.τ))).length=y0.length:=List.length_map _
        have hl2:((b::y).map fun b=>([.int .u8 b.toNat]:List (CV U.τ))).length=(b::y).length:=List.length_map _
        rw [← hsz] at hsrc1 hsx
        have hall:∃ newCap w',y0.length+(b::y).length≤newCap∧(∀ ty,(Builtin.append_ #[t,u] ty #[a.eval s,a.eval x]).run P w=.ok (.slice (some ⟨w.heap.size,0,none⟩) (y0.length+(b::y).length) newCap) w')∧
          w'.os=w.os∧w'.tape=w.tape∧w'.output=w.output∧∃ cells:Array Value,w'.heap=w.heap.push (.cells cells e0)∧cells.size=newCap * P.cellsOf e0∧∀ (q:Nat) u,((y0.map fun (b:UInt8)=>Value.int .u8 b.toNat)++((b::y).map fun (b:UInt8)=>Value.int .u8 b.toNat))[q]?=some u→cells[q]?=some u:=by
         have:=cj9 (ty:=0) hu hsrc hz hb2 (cap:=cap) (base:=some ⟨(G.loc q).1,(G.loc q).2,none⟩) (by rw [hl1]; exact hu') hsrc1 hsx (by rw [hl1,hl2]; simp; omega) (by rw [hl1,hl2,hbb]; simpa using hroom) (by rw [hl1,hl2]; simpa using hroom) hzr hzs
         rw [hl1,hl2] at this
         obtain ⟨nc,w',g1,g2,g3⟩:=this
         exact ⟨nc,w',g1,fun ty=>g2,g3⟩
        obtain ⟨nc,w',g1,g2,g3,g4,g5,cells,g6,g7,g8⟩:=hall
        unfold ae5 az3
        rw [hex _ w' g2,hdst]
        rcases h.of_wr with ⟨m1,_⟩ | ⟨d',m1,m2,m3⟩
        ·cases m1
        ·injection m1 with m1; subst m1
         rw [m2]
         have hf:=hsrc1.flat.append hsx.flat
         have hcc:cont (U:=U) (.bs e0 (y0++b::y) .app)=some (e0,(y0.map fun (b:UInt8)=>([.int .u8 b.toNat]:List (CV U.τ)))++((b::y).map fun (b:UInt8)=>([.int .u8 b.toNat]:List (CV U.τ))),.app):=by simp [cont]
         have hl3:((y0.map fun (b:UInt8)=>([.int .u8 b.toNat]:List (CV U.τ)))++((b::y).map fun (b:UInt8)=>([.int .u8 b.toNat]:List (CV U.τ)))).length=y0.length+(b::y).length:=by rw [List.length_append,hl1,hl2]
         have:=r.grow hdN m3 hcc hf (by rw [hl3]; unfold ah8 at hroom; unfold ad0; omega) (cap:=nc) (by rw [hl3]; exact g1) g3 g4 g5 g6 g7 g8
         rw [hl3] at this
         exact this
     | _=>exact h.of_fail.elim
    | _=>cases v2 <;> exact h.of_fail.elim
  ·exact h.of_fail.elim
 ·exact h.of_fail.elim
theorem dN6 (r:R P U N L0 G0 w0 G σ a w) (hd:∀ d,o.dst=some d→d < N) {t:TypeId} {l c:Operand} (ho:o.op=.makeSlice t l c) {rd:List Nat} {ws:List (Nat × AV U.τ)} (h:aa5 P U σ (ac3 P adv o) rd ws) :
  ae5 P U N L0 G0 w0 σ o a w ws:=by
 simp only [ac3,ho] at h
 have key:∀ e d n k rd',P.underlying t=some (.slice e)→o.dst=some d→bC9 P e=true→a.eval l=.int k n→(∃ k',a.eval c=.int k' n)→aa5 P U σ (.read d fun | .undef=>.guard (0≤n∧n≤ah8) (.done [(d,.bblk e (List.replicate n.toNat 0) true)]) | _=>.fail) rd' ws→
   ae5 P U N L0 G0 w0 σ o a w ws:=by
  intro e d n k rd' hu hdst hu8 hl hc h
  obtain ⟨k',hc⟩:=hc
  obtain ⟨_,h⟩:=h.of_read
  cases hσ:σ d <;> rw [hσ] at h <;> first | exact h.of_fail.elim | skip
  obtain ⟨hn,h⟩:=h.of_guard
  have:=h.of_done
  subst this
  obtain ⟨h1,h2,h3,i,hi,hz,hs,hbytes⟩:=be9 hu8
  have hw:=di4 hn.1 hn.2
  have hroom:n≤35184372088832:=hn.2
  have hrun:(execOp a.eval o).run P w=.ok (.value (.slice (some ⟨w.heap.size,0,none⟩) n.toNat n.toNat)) { w with heap:=w.heap.push (.cells (Array.replicate n.toNat (.int .u8 0)) e) }:=by
   have e3:n.toNat≠0→(Array.range n.toNat).map (fun q=>(#[.int .u8 0]:Array Value)[q % (#[.int .u8 0]:Array Value).size]!)=Array.replicate n.toNat (.int .u8 0):=by
    intro h0
    apply Array.ext
    ·simp
    ·intro q h1 h2
     simp [Nat.mod_one]
   have e4:zeroValue e=(zeroValue e):=rfl
   have e5:(zeroValue e).run P w=.ok (.int .u8 0) w:=by simp [zeroValue,typeInfo,hi,hz]
   simp only [execOp,ho,Sem.run_bind,Instr.makeSlice,run_underlying hu,Result.andThen_ok,hl,hc,asInt,asIntOf,Sem.run_pure,typeInfo,run_program,hi,hbytes,hw]
   rw [if_neg (by simp; omega)]
   by_cases h0:n.toNat=0
   ·simp only [Sem.run_bind,run_askRoom,Result.andThen_ok,sizeOf,typeInfo,run_program,hi,Sem.run_pure,hs,Nat.mul_one,if_pos h0,newRow,run_newObj]
    have h9:∀ f:Nat→Value,(Array.range 0).map f=#[]:=fun f=>by apply Array.eq_empty_of_size_eq_zero; simp
    simp only [h0,h9]
    simp
   ·simp only [Sem.run_bind,run_askRoom,Result.andThen_ok,sizeOf,typeInfo,run_program,hi,Sem.run_pure,hs,Nat.mul_one,if_neg h0,e5,newRow,run_newObj]
    have:=e3 h0
    simp only [Value.cells] at *
    rw [this]
  unfold ae5 az3
  rw [hrun,hdst]
  have hlen:(List.replicate n.toNat (0:UInt8)).length=n.toNat:=by simp
  have:=r.newBytes (hd d hdst) hσ (q:=true) (s:=List.replicate n.toNat 0) h1 (cells:=Array.replicate n.toNat (.int .u8 0)) (cap:=n.toNat) (T:=e) (fz:=(0,0)) (by rw [hlen]; unfold ad0; omega) (fun i b hi=>by
    rw [List.getElem?_replicate] at hi
    split at hi
    ·injection hi with hi; subst hi
     rename_i hlt
     rw [Array.getElem?_replicate,if_pos hlt]; rfl
    ·cases hi) (by rw [hlen]; exact Nat.le_refl _) (by simp) (fun _=>by simp) (fun o h1 h2=>by simp at h2) (w':={ w with heap:=w.heap.push (.cells (Array.replicate n.toNat (.int .u8 0)) e) }) rfl rfl rfl rfl
  rw [hlen] at this
  exact this
 split at h
 ·rename_i e d x y hu hdst
  obtain ⟨hb,h2⟩:=aa5.of_cond h
  simp only [Bool.and_eq_true] at hb
  have hxy:=Nat.eq_of_beq_eq_true hb.2
  obtain ⟨k,n,_,he,_,h3⟩:=r.int h2
  exact key e d n k _ hu hdst hb.1 he ⟨k,by rw [← hxy]; exact he⟩ h3
 ·rename_i e d k n k' m hu hdst
  obtain ⟨hb,h⟩:=aa5.of_cond h
  simp only [Bool.and_eq_true,beq_iff_eq] at hb
  exact key e d n k _ hu hdst hb.1 rfl ⟨k',by rw [hb.2]; rfl⟩ h
 ·rename_i e d k n x hu hdst
  obtain ⟨hb,h2⟩:=aa5.of_cond h
  simp only [Bool.and_eq_true,beq_iff_eq] at hb
  obtain ⟨hu8,rfl⟩:=hb
  obtain ⟨k',m,_,hc,_,h3⟩:=r.int h2
  obtain ⟨hn,h⟩:=h3.of_guard
  obtain ⟨h1,h2,h3,i,hi,hz,hs,hbytes⟩:=be9 hu8
  have hw:=di4 hn.1 hn.2
  have hw0:IntKind.i64.wrap 0=0:=rfl
  have hl:a.eval (.const (.int k 0))=.int k 0:=rfl
  have hroom:m≤35184372088832:=hn.2
  have hrun:(execOp a.eval o).run P w=.ok (.value (.slice (some ⟨w.heap.size,0,none⟩) 0 m.toNat)) { w with heap:=w.heap.push (.cells (Array.replicate m.toNat (.int .u8 0)) e) }:=by
   have e3:m.toNat≠0→(Array.range m.toNat).map (fun q=>(#[.int .u8 0]:Array Value)[q % (#[.int .u8 0]:Array Value).size]!)=Array.replicate m.toNat (.int .u8 0):=by
    intro h0
    apply Array.ext
    ·simp
    ·intro q h1 h2
     simp [Nat.mod_one]
   have e5:(zeroValue e).run P w=.ok (.int .u8 0) w:=by simp [zeroValue,typeInfo,hi,hz]
   simp only [execOp,ho,Sem.run_bind,Instr.makeSlice,run_underlying hu,Result.andThen_ok,hc,hl,asInt,asIntOf,Sem.run_pure,typeInfo,run_program,hi,hbytes,hw,hw0]
   rw [if_neg (by simp; omega)]
   by_cases h0:m.toNat=0
   ·simp only [Sem.run_bind,run_askRoom,Result.andThen_ok,sizeOf,typeInfo,run_program,hi,Sem.run_pure,hs,Nat.mul_one,if_pos h0,newRow,run_newObj]
    have h9:∀ f:Nat→Value,(Array.range 0).map f=#[]:=fun f=>by apply Array.eq_empty_of_size_eq_zero; simp
    simp only [h0,h9]
    simp
   ·simp only [Sem.run_bind,run_askRoom,Result.andThen_ok,sizeOf,typeInfo,run_program,hi,Sem.run_pure,hs,Nat.mul_one,if_neg h0,e5,newRow,run_newObj]
    have:=e3 h0
    simp only [Value.cells] at *
    rw [this]
    simp
  unfold ae5 az3
  rw [hrun,hdst]
  rcases h.of_wr with ⟨m1,_⟩ | ⟨d',m1,m2,m3⟩
  ·cases m1
  ·injection m1 with m1; subst m1
   rw [m2]
   exact r.grow (hd d hdst) m3 (c':=.bs e [] .app) (css:=[]) (us:=[]) (by simp [cont]) ⟨by simp,fun i cs h=>by simp at h,fun i cs j x h=>by simp at h⟩ (by unfold ad0; simp) (cap:=m.toNat) (by simp) (w':={ w with heap:=w.heap.push (.cells (Array.replicate m.toNat (.int .u8 0)) e) }) rfl rfl rfl (cells:=Array.replicate m.toNat (.int .u8 0)) rfl (by simp [h1]) (fun q u h=>by simp at h)
 ·exact h.of_fail.elim
end
end Go.VI
