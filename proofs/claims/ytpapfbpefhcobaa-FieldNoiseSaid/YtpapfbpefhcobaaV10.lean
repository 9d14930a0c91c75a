import Derived.Test.YtpapfbpefhcobaaV9
/-! What makes memory. -/
set_option linter.unusedVariables false
set_option linter.unusedSimpArgs false
namespace Go.VI
open Go

def freshG (G : Ghost) (B d : Nat) (imm : Nat → Prop) (wh : Option (Nat × Option Nat)) : Ghost :=
  ⟨fun b o => G.I b o ∨ (b = B ∧ imm o), fun t => if t = d then (B, 0) else G.loc t, fun b => if b = B then wh else G.who b⟩

section
variable {P : Program} {U : Univ} {N : Nat} {L0 : Nat → Nat} {G0 : Ghost} {w0 : World} {G : Ghost} {σ : Slots U} {a : Act} {w : World} {o : Oper} {adv : Adv}

theorem heap_push {w w' : World} {x : Obj} (hh : w'.heap = w.heap.push x) (b : Nat) : w'.heap[b]? = if b = w.heap.size then some x else w.heap[b]? := by
  rw [hh, Array.getElem?_push]

theorem cell_push {w w' : World} {x : Obj} (hh : w'.heap = w.heap.push x) (b o : Nat) (hb : b < w.heap.size) : w'.cell? ⟨b, o, none⟩ = w.cell? ⟨b, o, none⟩ := by
  simp only [World.cell?]
  rw [heap_push hh, if_neg (by omega)]

theorem cell_push_new {w w' : World} {c : Array Value} {T : TypeId} {fz : Nat × Nat} (hh : w'.heap = w.heap.push (.cells c T fz)) (o : Nat) : w'.cell? ⟨w.heap.size, o, none⟩ = c[o]? := by
  simp only [World.cell?]
  rw [heap_push hh, if_pos rfl]
  rfl

theorem cell_lt {w : World} {b o : Nat} (h : (w.cell? ⟨b, o, none⟩).isSome = true) : b < w.heap.size := by
  obtain ⟨u, hu⟩ := Option.isSome_iff_exists.1 h
  exact World.block_lt_of_cell? _ _ hu

theorem R.notI (r : R P U N L0 G0 w0 G σ a w) (o : Nat) : ¬ G.I w.heap.size o := fun h => Nat.lt_irrefl _ (cell_lt (r.imm _ o h))

theorem R.notW (r : R P U N L0 G0 w0 G σ a w) : G.who w.heap.size = none := by
  cases h : G.who w.heap.size with
  | none => rfl
  | some L => exact absurd (r.who _ L h) (Nat.lt_irrefl _)

/-- A new block, owned by slot d or read-only. -/
theorem R.fresh (r : R P U N L0 G0 w0 G σ a w) {w' : World} {c : Array Value} {T : TypeId} {fz : Nat × Nat} (hh : w'.heap = w.heap.push (.cells c T fz)) (h1 : w'.os = w.os) (h2 : w'.tape = w.tape) (h3 : w'.output = w.output)
    {d : Nat} {v : AV U.τ} {u : Value} {imm : Nat → Prop} {wh : Option (Nat × Option Nat)} (hd : d < N) (ho : (σ d).owner = false) (himm : ∀ o, imm o → o < c.size)
    (hs : SlotOk P U (freshG G w.heap.size d imm wh) (upd σ d v) w' d v u) :
    R P U N L0 G0 w0 (freshG G w.heap.size d imm wh) (upd σ d v) (a.put (some d) u) w' := by
  have hn : ∀ s, (σ s).owner = true → s ≠ d := fun s hso he => by rw [he, ho] at hso; cases hso
  have hsz : w'.heap.size = w.heap.size + 1 := by rw [hh]; simp
  have hI : ∀ b o, G.I b o → (freshG G w.heap.size d imm wh).I b o ∧ w'.cell? ⟨b, o, none⟩ = w.cell? ⟨b, o, none⟩ := fun b o h => ⟨.inl h, cell_push hh b o (cell_lt (r.imm b o h))⟩
  have hwho : ∀ b L, G.who b = some L → (freshG G w.heap.size d imm wh).who b = some L := fun b L h => by
    have := r.who b L h
    show (if b = w.heap.size then wh else G.who b) = some L
    rw [if_neg (by omega), h]
  have x : Ext (fun _ => False) G (freshG G w.heap.size d imm wh) σ (upd σ d v) w w' := by
    refine ⟨hI, fun b L h _ => ⟨hwho b L h, ?_, fun o h' => ?_⟩, fun s hs => ?_, fun s cs hs => ?_, fun s e y q hs => ?_⟩
    · have := r.who b L h
      rw [heap_push hh, if_neg (by omega)]
    · rcases h' with h' | ⟨h', _⟩
      · exact h'
      · have := r.who b L h; omega
    · show (if s = d then (w.heap.size, 0) else G.loc s) = G.loc s
      rw [if_neg (hn s hs)]
    · exact ⟨cs, by simp [upd, hn s (by rw [hs]; rfl), hs]⟩
    · exact ⟨e, y, by simp [upd, hn s (by rw [hs]; rfl), hs], rfl⟩
  have st : Step G w (freshG G w.heap.size d imm wh) w' := by
    refine ⟨h1, h2, h3, by omega, fun b hb _ => by rw [heap_push hh, if_neg (by omega)], hI, fun b o h => ?_, fun b L h => ?_⟩
    · rcases h with h | ⟨h, _⟩
      · exact .inl h
      · exact .inr (.inl (by omega))
    · have h' : (if b = w.heap.size then wh else G.who b) = some L := h
      split at h'
      · exact .inl (by omega)
      · exact .inr (by rw [h']; rfl)
  refine r.go x st rfl (by simp [Act.put]) (fun t ht => ?_) (fun b o h => ?_) (fun b L h => ?_) (fun t cs' ht hσ => ?_) (fun t => ?_)
  · show (if t = d then (w.heap.size, 0) else G.loc t) = G.loc t
    rw [if_neg (by have := r.small; omega)]
  · rcases h with h | ⟨rfl, h⟩
    · exact .inl h
    · right
      rw [cell_push_new hh]
      simp [himm o h]
  · have h' : (if b = w.heap.size then wh else G.who b) = some L := h
    split at h'
    · exact .inr (by omega)
    · exact .inl ⟨L, h'⟩
  · have htd : t ≠ d := fun he => by have := r.small; omega
    simp only [upd, htd, if_false] at hσ
    refine ⟨cs', hσ, rfl, fun o _ => cell_push hh _ _ ?_⟩
    have := r.slots t
    rw [hσ] at this
    exact r.who _ _ this.2.hwho
  · rw [getD_put (Nat.lt_of_lt_of_le hd r.size)]
    by_cases ht : t = d
    · subst ht
      right
      rw [if_pos rfl]
      have : upd σ t v t = v := by simp [upd]
      rw [this]; exact hs
    · left
      simp [upd, ht]

/-- A box is made. -/
theorem R.newBox (r : R P U N L0 G0 w0 G σ a w) {d : Nat} (hd : d < N) (hu : σ d = .undef) {cs : List (CV U.τ)} {us : Array Value} (hc : CellsRel P U w G.I cs us) (T : TypeId) :
    ∃ G', R P U N L0 G0 w0 G' (upd σ d (.box cs)) (a.put (some d) (.pointer (some ⟨w.heap.size, 0, none⟩))) { w with heap := w.heap.push (.cells us T) } := by
  refine ⟨_, r.fresh (imm := fun _ => False) (wh := some (d, none)) (w' := { w with heap := w.heap.push (.cells us T) }) rfl rfl rfl rfl hd (by rw [hu]; rfl) (fun _ h => h.elim) ?_⟩
  have hloc : (freshG G w.heap.size d (fun _ => False) (some (d, none))).loc d = (w.heap.size, 0) := if_pos rfl
  refine ⟨fun _ => by rw [hloc], ?_⟩
  rw [hloc]
  have hh : ({ w with heap := w.heap.push (.cells us T) } : World).heap = w.heap.push (.cells us T) := rfl
  refine ⟨if_pos rfl, fun o h => ?_, us, T, (0, 0), by rw [heap_push hh, if_pos rfl], by rw [hc.size]; omega, fun o h1 h2 => by simp at h2, fun i x hi => ?_⟩
  · rcases h with h | ⟨_, h⟩
    · exact r.notI o h
    · exact h
  · obtain ⟨y, hy, hp⟩ := hc.cell i x hi
    exact ⟨y, by simpa using hy, .inl (hp.mono fun b o h => ⟨.inl h, cell_push hh b o (cell_lt (r.imm b o h))⟩)⟩

theorem op_alloc (r : R P U N L0 G0 w0 G σ a w) (hd : ∀ d, o.dst = some d → d < N) {t : TypeId} (ho : o.op = .alloc t) {rd : List Nat} {ws : List (Nat × AV U.τ)} (h : Does P U σ (opTree P adv o) rd ws) :
    Goal P U N L0 G0 w0 σ o a w ws := by
  simp only [opTree, ho] at h
  cases hdst : o.dst with
  | none => rw [hdst] at h; exact h.of_fail.elim
  | some d =>
    rw [hdst] at h
    obtain ⟨_, h⟩ := h.of_read
    cases hσ : σ d <;> rw [hσ] at h <;> first | exact h.of_fail.elim | skip
    simp only at h
    split at h
    · rename_i ag cs hz
      have := h.of_done
      subst this
      obtain ⟨z, hzr, hzv⟩ := zeroCV_ok (w := w) (I := G.I) hz
      unfold Goal Goes
      have hrun : (execOp a.eval o).run P w = .ok (.value (.pointer (some ⟨w.heap.size, 0, none⟩))) { w with heap := w.heap.push (.cells z.cells t) } := by
        simp [execOp, ho, Instr.alloc, hzr, newVar, newRow]
      rw [hrun, hdst]
      exact r.newBox (hd d hdst) hσ hzv.cells t
    · exact h.of_fail.elim

theorem op_box (r : R P U N L0 G0 w0 G σ a w) (hd : ∀ d, o.dst = some d → d < N) {t : TypeId} {x : Operand} (ho : o.op = .box t x) {rd : List Nat} {ws : List (Nat × AV U.τ)} (h : Does P U σ (opTree P adv o) rd ws) :
    Goal P U N L0 G0 w0 σ o a w ws := by
  simp only [opTree, ho] at h
  cases hdst : o.dst with
  | none => rw [hdst] at h; exact h.of_fail.elim
  | some d =>
    rw [hdst] at h
    obtain ⟨_, h⟩ := h.of_read
    cases hσ : σ d <;> rw [hσ] at h <;> first | exact h.of_fail.elim | skip
    obtain ⟨ag, cs, _, hv, h⟩ := r.cells h
    have := h.of_done
    subst this
    unfold Goal Goes
    have hrun : (execOp a.eval o).run P w = .ok (.value (.pointer (some ⟨w.heap.size, 0, none⟩))) { w with heap := w.heap.push (.cells (a.eval x).cells t) } := by
      simp [execOp, ho, Instr.box, newVar, newRow]
    rw [hrun, hdst]
    exact r.newBox (hd d hdst) hσ hv.cells t

/-- The elements' cells, one behind the other. -/
structure Flat (P : Program) (U : Univ) (w : World) (I : Nat → Nat → Prop) (sz : Nat) (css : List (List (CV U.τ))) (us : List Value) : Prop where
  size : us.length = css.length * sz
  len : ∀ (i : Nat) cs, css[i]? = some cs → cs.length = sz
  cell : ∀ (i : Nat) cs (j : Nat) x, css[i]? = some cs → cs[j]? = some x → ∃ u, us[i * sz + j]? = some u ∧ PC P U w I x u

theorem flat_at {n sz q : Nat} (h : q < n * sz) : ∃ i j, i < n ∧ j < sz ∧ q = i * sz + j := by
  have hz : 0 < sz := by
    rcases Nat.eq_zero_or_pos sz with h0 | h0
    · subst h0; simp at h
    · exact h0
  exact ⟨q / sz, q % sz, Nat.div_lt_of_lt_mul (by rwa [Nat.mul_comm] at h), Nat.mod_lt _ hz, by rw [Nat.mul_comm]; exact (Nat.div_add_mod q sz).symm⟩

theorem Flat.one1 {I : Nat → Nat → Prop} {sz : Nat} {css : List (List (CV U.τ))} {us : List Value} (h : Flat P U w I sz css us) : ∀ v ∈ us, v.oneCell' = true := by
  intro v hv
  obtain ⟨q, hq⟩ := List.mem_iff_getElem?.1 hv
  have hlt : q < css.length * sz := by rw [← h.size]; exact (List.getElem?_eq_some_iff.1 hq).1
  obtain ⟨i, j, hi, hj, rfl⟩ := flat_at hlt
  obtain ⟨cs, hcs⟩ : ∃ cs, css[i]? = some cs := ⟨_, List.getElem?_eq_getElem hi⟩
  have hl := h.len i cs hcs
  obtain ⟨x, hx⟩ : ∃ x, cs[j]? = some x := ⟨_, List.getElem?_eq_getElem (by omega)⟩
  obtain ⟨u, hu, hp⟩ := h.cell i cs j x hcs hx
  rw [hu] at hq
  injection hq with hq; subst hq
  have := hp.one1
  cases u <;> first | rfl | exact this.elim

theorem mul_add_lt {i j n sz : Nat} (hi : i < n) (hj : j < sz) : i * sz + j < n * sz := by
  have : (i + 1) * sz ≤ n * sz := Nat.mul_le_mul_right _ hi
  rw [Nat.add_mul, Nat.one_mul] at this
  omega

theorem Flat.cons {I : Nat → Nat → Prop} {sz : Nat} {css : List (List (CV U.τ))} {us : List Value} (h : Flat P U w I sz css us) {ds : List (CV U.τ)} {vs : Array Value} (k : CellsRel P U w I ds vs) (hl : ds.length = sz) : Flat P U w I sz (ds :: css) (vs.toList ++ us) := by
  have hv : vs.toList.length = sz := by rw [Array.length_toList, k.size, hl]
  refine ⟨by rw [List.length_append, hv, h.size, List.length_cons, Nat.add_mul, Nat.one_mul]; omega, fun i cs hi => ?_, fun i cs j x hi hj => ?_⟩
  · cases i with
    | zero => simp at hi; subst hi; exact hl
    | succ i => exact h.len i cs (by simpa using hi)
  · cases i with
    | zero =>
      simp at hi; subst hi
      obtain ⟨y, hy, hp⟩ := k.cell j x hj
      have hjl : j < sz := by rw [← hl]; exact (List.getElem?_eq_some_iff.1 hj).1
      exact ⟨y, by rw [Nat.zero_mul, Nat.zero_add, List.getElem?_append_left (by omega)]; simpa using hy, hp⟩
    | succ i =>
      obtain ⟨y, hy, hp⟩ := h.cell i cs j x (by simpa using hi) hj
      refine ⟨y, ?_, hp⟩
      rw [List.getElem?_append_right (by rw [hv, Nat.add_mul]; omega), hv]
      rw [show (i + 1) * sz + j - sz = i * sz + j by rw [Nat.add_mul]; omega]
      exact hy

/-- The new block's row as a slice's elements. -/
theorem Flat.cont {sz : Nat} {css : List (List (CV U.τ))} {us : List Value} (h : Flat P U w G.I sz css us) {w' : World} {b : Nat} {I' : Nat → Nat → Prop} (hI : ∀ b o, G.I b o → I' b o ∧ w'.cell? ⟨b, o, none⟩ = w.cell? ⟨b, o, none⟩) {off : Nat}
    (hc : ∀ (q : Nat) u, us[q]? = some u → I' b (off + q) ∧ w'.cell? ⟨b, off + q, none⟩ = some u) : Cont P U w' I' b off sz css := by
  refine ⟨h.len, fun i cs j x hi hj => ?_, fun i cs j x hi hj => ?_⟩
  · obtain ⟨u, hu, hp⟩ := h.cell i cs j x hi hj
    rw [Nat.add_assoc]; exact (hc _ u hu).1
  · obtain ⟨u, hu, hp⟩ := h.cell i cs j x hi hj
    exact ⟨u, by rw [Nat.add_assoc]; exact (hc _ u hu).2, hp.mono hI⟩

theorem partsT_ok (r : R P U N L0 G0 w0 G σ a w) {e : TypeId} {n : Nat} :
    ∀ (parts : List (Nat × Operand)) (i : Nat) {k : List (List (CV U.τ)) → Tree U} {rd : List Nat} {ws : List (Nat × AV U.τ)}, Does P U σ (partsT P e parts i k) rd ws →
    ∃ css rd', Does P U σ (k css) rd' ws ∧ css.length = parts.length ∧ ((∀ cs ∈ css, cs.length = P.cellsOf e) → ∃ us, Flat P U w G.I (P.cellsOf e) css us ∧
      ∀ cells : Array Value, (i + parts.length) * P.cellsOf e ≤ cells.size → ∃ cells', Instr.fill (fun i => some (i * P.cellsOf e, P.cellsOf e)) cells (parts.map fun p => (p.1, a.eval p.2)) = some cells' ∧ cells'.size = cells.size ∧
        ∀ q, cells'[q]? = if i * P.cellsOf e ≤ q ∧ q < (i + parts.length) * P.cellsOf e then us[q - i * P.cellsOf e]? else cells[q]?)
  | [], i, k, rd, ws, h => ⟨[], rd, h, rfl, fun _ => ⟨[], ⟨by simp, fun _ _ h => by simp at h, fun _ _ _ _ h => by simp at h⟩, fun cells _ => ⟨cells, rfl, rfl, fun q => by rw [if_neg (by simp)]⟩⟩⟩
  | (j, x) :: parts, i, k, rd, ws, h => by
    simp only [partsT] at h
    obtain ⟨hj, h⟩ := Does.of_cond h
    have hj := Nat.eq_of_beq_eq_true hj
    subst hj
    obtain ⟨ag, ds, _, hv, h⟩ := r.cells h
    obtain ⟨css, rd', g1, g2, g3⟩ := partsT_ok r (e := e) (n := n) parts (j + 1) h
    refine ⟨ds :: css, rd', g1, by simp [g2], fun hall => ?_⟩
    have hl := hall ds (List.mem_cons_self ..)
    obtain ⟨us, h1, h2⟩ := g3 fun cs hc => hall cs (List.mem_cons_of_mem _ hc)
    have hu := hv.cells
    refine ⟨_, h1.cons hu hl, fun cells hsz => ?_⟩
    simp only [List.length_cons] at hsz
    have e1 : (j + (parts.length + 1)) * P.cellsOf e = j * P.cellsOf e + P.cellsOf e + parts.length * P.cellsOf e := by rw [Nat.add_mul, Nat.add_mul, Nat.one_mul]; omega
    have e2 : (j + 1 + parts.length) * P.cellsOf e = j * P.cellsOf e + P.cellsOf e + parts.length * P.cellsOf e := by rw [Nat.add_mul, Nat.add_mul, Nat.one_mul]
    have e3 : (j + 1) * P.cellsOf e = j * P.cellsOf e + P.cellsOf e := by rw [Nat.add_mul, Nat.one_mul]
    have husz : (a.eval x).cells.size = P.cellsOf e := by rw [hu.size, hl]
    have hulen : (a.eval x).cells.toList.length = P.cellsOf e := by rw [Array.length_toList]; exact husz
    rw [List.map_cons, fill_cons rfl husz (by show j * P.cellsOf e + _ ≤ _; omega)]
    have e4 : ∀ cells : Array Value, (a.eval x).cells.zipIdx.foldl (fun cs (p : Value × Nat) => cs.setIfInBounds (j * P.cellsOf e + p.2) p.1) cells = ((a.eval x).cells.toList.zipIdx 0).foldl (fun cs (p : Value × Nat) => cs.setIfInBounds (j * P.cellsOf e + p.2) p.1) cells := by
      intro cells
      rw [← Array.foldl_toList, Array.toList_zipIdx]
    obtain ⟨k1, k2⟩ := fold_set (a.eval x).cells.toList 0 cells (j * P.cellsOf e) (by rw [hulen]; omega)
    obtain ⟨cells', m1, m2, m3⟩ := h2 _ (by rw [k1, e2]; omega)
    refine ⟨cells', ?_, by rw [m2, k1], fun q => ?_⟩
    · rw [← m1]
      exact congrArg (fun c => Instr.fill _ c _) (e4 cells)
    rw [m3, k2, hulen, List.length_cons, e1, e2, e3, Nat.add_zero]
    by_cases c1 : j * P.cellsOf e + P.cellsOf e ≤ q ∧ q < j * P.cellsOf e + P.cellsOf e + parts.length * P.cellsOf e
    · rw [if_pos c1, if_pos (by omega), List.getElem?_append_right (by rw [hulen]; omega), hulen]
      congr 1
      omega
    · rw [if_neg c1]
      by_cases c2 : j * P.cellsOf e ≤ q ∧ q < j * P.cellsOf e + P.cellsOf e
      · rw [if_pos c2, if_pos (by omega), List.getElem?_append_left (by rw [hulen]; omega)]
      · rw [if_neg c2, if_neg (by omega)]

end
end Go.VI
