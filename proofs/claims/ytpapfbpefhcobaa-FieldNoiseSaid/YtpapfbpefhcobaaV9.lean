import Derived.Test.YtpapfbpefhcobaaV8
/-! Literals of structs and arrays; loads. -/
set_option linter.unusedVariables false
set_option linter.unusedSimpArgs false
namespace Go.VI
open Go

section
variable {P : Program} {U : Univ} {N : Nat} {L0 : Nat → Nat} {G0 : Ghost} {w0 : World} {G : Ghost} {σ : Slots U} {a : Act} {w : World} {o : Oper} {adv : Adv}

/-- Cells, one by one. -/
structure CellsRel (P : Program) (U : Univ) (w : World) (I : Nat → Nat → Prop) (cs : List (CV U.τ)) (us : Array Value) : Prop where
  size : us.size = cs.length
  cell : ∀ (j : Nat) c, cs[j]? = some c → ∃ y, us[j]? = some y ∧ PC P U w I c y

theorem ValOk.cells {I : Nat → Nat → Prop} {ag : Bool} {cs : List (CV U.τ)} {u : Value} (h : ValOk P U w I ag cs u) : CellsRel P U w I cs u.cells := by
  cases ag with
  | true =>
    obtain ⟨us, rfl, h1, h2⟩ := h
    exact ⟨h1, h2⟩
  | false =>
    obtain ⟨c, rfl, hc⟩ := h
    have : u.cells = #[u] := by
      have := hc.one1
      cases u <;> first | rfl | exact this.elim
    rw [this]
    refine ⟨rfl, fun j d hj => ?_⟩
    cases j with
    | zero => simp at hj; subst hj; exact ⟨u, rfl, hc⟩
    | succ j => simp at hj

theorem setCells_length (ds : List (CV U.τ)) : ∀ (cs : List (CV U.τ)) (off : Nat), (setCells cs off ds).length = cs.length := by
  induction ds with
  | nil => intro cs off; rfl
  | cons d ds ih => intro cs off; rw [setCells, ih, List.length_set]

/-- Cells set in a row, from a place on: the other cells stay. -/
theorem setCells_get (ds : List (CV U.τ)) : ∀ (cs : List (CV U.τ)) (off j : Nat), off + ds.length ≤ cs.length → (setCells cs off ds)[j]? = if off ≤ j ∧ j < off + ds.length then ds[j - off]? else cs[j]? := by
  induction ds with
  | nil => intro cs off j _; rw [setCells, if_neg (by simp)]
  | cons d ds ih =>
    intro cs off j h
    simp only [List.length_cons] at h
    rw [setCells, ih _ _ _ (by rw [List.length_set]; omega)]
    by_cases h1 : off + 1 ≤ j ∧ j < off + 1 + ds.length
    · rw [if_pos h1, if_pos (by simp; omega)]
      rw [show j - off = (j - (off + 1)) + 1 by omega, List.getElem?_cons_succ]
    · rw [if_neg h1]
      by_cases h2 : j = off
      · subst h2
        rw [if_pos (by simp), List.getElem?_set_self (by omega)]
        simp
      · rw [List.getElem?_set_ne (Ne.symm h2), if_neg (by simp; omega)]

theorem fold_set (us : List Value) : ∀ (k : Nat) (cells : Array Value) (off : Nat), off + k + us.length ≤ cells.size →
    ((us.zipIdx k).foldl (fun cs (p : Value × Nat) => cs.setIfInBounds (off + p.2) p.1) cells).size = cells.size ∧
    ∀ j, ((us.zipIdx k).foldl (fun cs (p : Value × Nat) => cs.setIfInBounds (off + p.2) p.1) cells)[j]? = if off + k ≤ j ∧ j < off + k + us.length then us[j - (off + k)]? else cells[j]? := by
  induction us with
  | nil => intro k cells off h; exact ⟨rfl, fun j => by rw [if_neg (by simp)]; rfl⟩
  | cons u us ih =>
    intro k cells off h
    simp only [List.length_cons] at h
    simp only [List.zipIdx_cons, List.foldl_cons]
    obtain ⟨h1, h2⟩ := ih (k + 1) (cells.setIfInBounds (off + k) u) off (by simp; omega)
    refine ⟨by rw [h1]; simp, fun j => ?_⟩
    rw [h2]
    by_cases c1 : off + (k + 1) ≤ j ∧ j < off + (k + 1) + us.length
    · rw [if_pos c1, if_pos (by simp; omega)]
      rw [show j - (off + k) = (j - (off + (k + 1))) + 1 by omega, List.getElem?_cons_succ]
    · rw [if_neg c1]
      by_cases c2 : j = off + k
      · subst c2
        rw [if_pos (by simp), Array.getElem?_setIfInBounds]
        simp; omega
      · rw [Array.getElem?_setIfInBounds_ne (Ne.symm c2), if_neg (by simp; omega)]

theorem CellsRel.set {I : Nat → Nat → Prop} {cs ds : List (CV U.τ)} {cells us : Array Value} (h : CellsRel P U w I cs cells) (k : CellsRel P U w I ds us) {off : Nat} (hl : off + ds.length ≤ cs.length) :
    CellsRel P U w I (setCells cs off ds) (us.zipIdx.foldl (fun cs (p : Value × Nat) => cs.setIfInBounds (off + p.2) p.1) cells) := by
  have hu : us.toList.length = ds.length := by simpa using k.size
  obtain ⟨h1, h2⟩ := fold_set us.toList 0 cells off (by rw [hu, h.size]; omega)
  have e : us.zipIdx.foldl (fun cs (p : Value × Nat) => cs.setIfInBounds (off + p.2) p.1) cells = (us.toList.zipIdx 0).foldl (fun cs (p : Value × Nat) => cs.setIfInBounds (off + p.2) p.1) cells := by
    rw [← Array.foldl_toList, Array.toList_zipIdx]
  rw [e]
  refine ⟨by rw [h1, setCells_length, h.size], fun j c hj => ?_⟩
  rw [setCells_get _ _ _ _ hl] at hj
  rw [h2, hu, Nat.add_zero]
  split at hj
  · rename_i hc
    rw [if_pos hc]
    obtain ⟨y, hy, hp⟩ := k.cell _ _ hj
    exact ⟨y, by simpa using hy, hp⟩
  · rename_i hc
    rw [if_neg hc]
    exact h.cell j c hj

theorem zeroCV_ok {I : Nat → Nat → Prop} {t : TypeId} {ag : Bool} {cs : List (CV U.τ)} (h : zeroCV P t = some (ag, cs)) : ∃ z, (zeroValue t).run P w = .ok z w ∧ ValOk P U w I ag cs z := by
  unfold zeroCV at h
  split at h
  · rename_i i hi
    split at h
    · rename_i zs hz
      cases hb : zs.toList.all one1B with
      | false => rw [hb] at h; cases h
      | true =>
        rw [hb] at h
        simp only [cond_true, Option.some.injEq, Prod.mk.injEq] at h
        obtain ⟨rfl, rfl⟩ := h
        obtain ⟨h1, h2⟩ := zipConst_ok (P := P) (U := U) (w := w) (I := I) zs.toList (flat P 6 t) hb
        refine ⟨.agg zs, by simp [zeroValue, typeInfo, hi, hz], zs, rfl, by rw [h1]; simp, fun j c hj => ?_⟩
        obtain ⟨v, g1, g2⟩ := h2 j c hj
        exact ⟨v, by simpa using g1, g2⟩
    · rename_i v hne hz
      cases hb : one1B v with
      | false => rw [hb] at h; cases h
      | true =>
        rw [hb] at h
        simp only [cond_true, Option.some.injEq, Prod.mk.injEq] at h
        obtain ⟨rfl, rfl⟩ := h
        exact ⟨v, by simp [zeroValue, typeInfo, hi, hz], _, rfl, constCV_ok hb⟩
    · cases h
  · cases h

theorem fill_cons {place : Nat → Option (Nat × Nat)} {cells : Array Value} {i : Nat} {v : Value} {rest : List (Nat × Value)} {off size : Nat} (hp : place i = some (off, size)) (h1 : v.cells.size = size) (h2 : off + v.cells.size ≤ cells.size) :
    Instr.fill place cells ((i, v) :: rest) = Instr.fill place (v.cells.zipIdx.foldl (fun cs (p : Value × Nat) => cs.setIfInBounds (off + p.2) p.1) cells) rest := by
  have : (v.cells.size ≠ size || off + v.cells.size > cells.size) = false := by simp [h1]; omega
  simp only [Instr.fill, hp, this]
  rfl

theorem fieldsT_ok (r : R P U N L0 G0 w0 G σ a w) {fs : Array Field} {place : Nat → Option (Nat × Nat)} (hpl : ∀ (i : Nat) (f : Field), fs[i]? = some f → place i = some (f.offset, P.cellsOf f.type)) :
    ∀ (parts : List (Nat × Operand)) (cs : List (CV U.τ)) (cells : Array Value) {k : List (CV U.τ) → Tree U} {rd : List Nat} {ws : List (Nat × AV U.τ)}, CellsRel P U w G.I cs cells → Does P U σ (fieldsT P fs parts cs k) rd ws →
    ∃ cs' cells' rd', Does P U σ (k cs') rd' ws ∧ CellsRel P U w G.I cs' cells' ∧ Instr.fill place cells (parts.map fun p => (p.1, a.eval p.2)) = some cells'
  | [], cs, cells, k, rd, ws, hc, h => ⟨cs, cells, rd, h, hc, rfl⟩
  | (j, x) :: parts, cs, cells, k, rd, ws, hc, h => by
    simp only [fieldsT] at h
    cases hj : fs[j]? with
    | none => rw [hj] at h; exact h.of_fail.elim
    | some f =>
      rw [hj] at h
      obtain ⟨ag, ds, _, hv, h⟩ := r.cells h
      obtain ⟨hb, h⟩ := Does.of_cond h
      simp only [Bool.and_eq_true] at hb
      have hl := Nat.eq_of_beq_eq_true hb.1
      have hle := Nat.le_of_ble_eq_true hb.2
      have hu := hv.cells
      obtain ⟨cs', cells', rd', g1, g2, g3⟩ := fieldsT_ok r hpl parts _ _ (hc.set hu hle) h
      refine ⟨cs', cells', rd', g1, g2, ?_⟩
      rw [List.map_cons, fill_cons (hpl j f hj) (by rw [hu.size, hl]) (by rw [hu.size, hc.size]; exact hle)]
      exact g3

theorem elemsT_ok (r : R P U N L0 G0 w0 G σ a w) {e : TypeId} :
    ∀ (parts : List (Nat × Operand)) (cs : List (CV U.τ)) (cells : Array Value) {k : List (CV U.τ) → Tree U} {rd : List Nat} {ws : List (Nat × AV U.τ)}, CellsRel P U w G.I cs cells → Does P U σ (elemsT P e parts cs k) rd ws →
    ∃ cs' cells' rd', Does P U σ (k cs') rd' ws ∧ CellsRel P U w G.I cs' cells' ∧ Instr.fill (fun i => some (i * P.cellsOf e, P.cellsOf e)) cells (parts.map fun p => (p.1, a.eval p.2)) = some cells'
  | [], cs, cells, k, rd, ws, hc, h => ⟨cs, cells, rd, h, hc, rfl⟩
  | (j, x) :: parts, cs, cells, k, rd, ws, hc, h => by
    simp only [elemsT] at h
    obtain ⟨ag, ds, _, hv, h⟩ := r.cells h
    obtain ⟨hb, h⟩ := Does.of_cond h
    simp only [Bool.and_eq_true] at hb
    have hl := Nat.eq_of_beq_eq_true hb.1
    have hle := Nat.le_of_ble_eq_true hb.2
    have hu := hv.cells
    obtain ⟨cs', cells', rd', g1, g2, g3⟩ := elemsT_ok r parts _ _ (hc.set hu hle) h
    refine ⟨cs', cells', rd', g1, g2, ?_⟩
    rw [List.map_cons, fill_cons rfl (by rw [hu.size, hl]) (by rw [hu.size, hc.size]; exact hle)]
    exact g3

theorem run_mapM_ok {α β : Type} (f : α → Sem β) (g : α → β) : ∀ (l : List α), (∀ x ∈ l, (f x).run P w = .ok (g x) w) → (l.mapM f).run P w = .ok (l.map g) w
  | [], _ => rfl
  | x :: l, h => by
    simp only [List.mapM_cons, Sem.run_bind, h x (List.mem_cons_self ..), Result.andThen_ok, run_mapM_ok f g l (fun y hy => h y (List.mem_cons_of_mem _ hy)), List.map_cons, Sem.run_pure]

theorem op_build (r : R P U N L0 G0 w0 G σ a w) (hd : ∀ d, o.dst = some d → d < N) {t : TypeId} {parts : Array (Nat × Operand)} (ho : o.op = .build t parts) {rd : List Nat} {ws : List (Nat × AV U.τ)} (h : Does P U σ (opTree P adv o) rd ws) :
    Goal P U N L0 G0 w0 σ o a w ws := by
  simp only [opTree, ho] at h
  split at h
  · rename_i fs z hu hz
    obtain ⟨hb, h⟩ := Does.of_cond h
    obtain ⟨zv, hzr, hzv⟩ := zeroCV_ok (w := w) (I := G.I) hz
    have hpl : ∀ (i : Nat) (f : Field), fs[i]? = some f → (fs.map fun (f : Field) => (f.offset, P.cellsOf f.type))[i]? = some (f.offset, P.cellsOf f.type) := fun i f hf => by simp [hf]
    obtain ⟨cs', cells', _, hw, g2, g3⟩ := fieldsT_ok r hpl parts.toList z _ hzv.cells h
    refine r.value hd (u := .agg cells') ?_ hw rfl fun _ => ⟨_, rfl, g2.size, g2.cell⟩
    have hm : (fs.mapM fun (f : Field) => do pure (f.offset, ← sizeOf f.type) : Sem _).run P w = .ok (fs.map fun (f : Field) => (f.offset, P.cellsOf f.type)) w := by
      rw [Array.mapM_eq_mapM_toList]
      simp only [Sem.run_map]
      rw [run_mapM_ok _ (fun (f : Field) => (f.offset, P.cellsOf f.type)) fs.toList (fun f hf => by
        have := List.all_eq_true.1 hb f hf
        simp [run_sizeOf (Nat.le_of_ble_eq_true this)])]
      simp only [Result.andThen_ok, ← Array.toList_map]
    have g4 : Instr.fill (fun x => (fs.map fun (f : Field) => (f.offset, P.cellsOf f.type))[x]?) zv.cells (parts.map fun p => (p.1, a.eval p.2)).toList = some cells' := by rw [Array.toList_map]; exact g3
    simp only [execOp, ho, Sem.run_bind, Instr.build, hzr, Result.andThen_ok, run_underlying hu, hm]
    have g5 : (parts.map fun (x : Nat × Operand) => match x with | (i, x) => (i, a.eval x)) = parts.map fun p => (p.1, a.eval p.2) := rfl
    rw [g5, g4]
    rfl
  · rename_i m e z hu hz
    obtain ⟨hb, h⟩ := Does.of_cond h
    obtain ⟨zv, hzr, hzv⟩ := zeroCV_ok (w := w) (I := G.I) hz
    obtain ⟨cs', cells', _, hw, g2, g3⟩ := elemsT_ok r parts.toList z _ hzv.cells h
    refine r.value hd (u := .agg cells') ?_ hw rfl fun _ => ⟨_, rfl, g2.size, g2.cell⟩
    have g4 : Instr.fill (fun i => some (i * P.cellsOf e, P.cellsOf e)) zv.cells (parts.map fun p => (p.1, a.eval p.2)).toList = some cells' := by rw [Array.toList_map]; exact g3
    simp only [execOp, ho, Sem.run_bind, Instr.build, hzr, Result.andThen_ok, run_underlying hu, run_sizeOf (Nat.le_of_ble_eq_true hb)]
    have g5 : (parts.map fun (x : Nat × Operand) => match x with | (i, x) => (i, a.eval x)) = parts.map fun p => (p.1, a.eval p.2) := rfl
    rw [g5, g4]
    rfl
  · exact h.of_fail.elim

/-- Cells in memory, from a place on. -/
theorem loadVar_ok {t : TypeId} {cs : List (CV U.τ)} {off : Nat} {v : AV U.τ} (h : partOf P t cs off = some v) (hz : 1 ≤ P.cellsOf t) {b base : Nat} (hc : ∀ (j : Nat) c, cs[j]? = some c → ∃ y, w.cell? ⟨b, base + j, none⟩ = some y ∧ PC P U w G.I c.plain y) :
    v.plain.owner = false ∧ ∃ u, (loadVar t ⟨b, base + off, none⟩).run P w = .ok u w ∧ (∀ t', SlotOk P U G σ w t' v.plain u) ∧ ∀ c, v = .one c → cs[off]? = some c ∧ w.cell? ⟨b, base + off, none⟩ = some u := by
  have ag : ∀ d, P.underlying t = some d → rowT d = true → (takeCells cs off (P.cellsOf t)).map (fun l => AV.agg (l.map CV.plain)) = some v →
      v.plain.owner = false ∧ ∃ u, (loadVar t ⟨b, base + off, none⟩).run P w = .ok u w ∧ (∀ t', SlotOk P U G σ w t' v.plain u) ∧ ∀ c, v = .one c → cs[off]? = some c ∧ w.cell? ⟨b, base + off, none⟩ = some u := by
    intro d hu hr h
    cases hl : takeCells cs off (P.cellsOf t) with
    | none => rw [hl] at h; cases h
    | some l =>
      rw [hl] at h
      injection h with h; subst h
      obtain ⟨h1, rfl⟩ := takeCells_some hl
      have hget : ∀ j, j < P.cellsOf t → ∃ c, cs[off + j]? = some c := fun j hj => ⟨cs[off + j]'(by omega), List.getElem?_eq_getElem (by omega)⟩
      have hrun := run_loadCells (P := P) w ⟨b, base + off, none⟩ (P.cellsOf t) (fun j => (w.cell? ⟨b, base + off + j, none⟩).getD undef) (fun j hj => by
        obtain ⟨c, hcj⟩ := hget j hj
        obtain ⟨y, hy, _⟩ := hc _ c hcj
        rw [Addr.add_none, Nat.add_assoc, hy]; rfl)
      refine ⟨rfl, _, by simp only [loadVar, Sem.run_bind, run_isAgg' hu, hr, Result.andThen_ok, if_true, run_sizeOf hz, hrun]; rfl, fun _ => ⟨_, rfl, ?_, fun j c hj => ?_⟩, fun c hv => by cases hv⟩
      · simp; omega
      · rw [List.getElem?_map] at hj
        cases hx : (List.take (P.cellsOf t) (List.drop off cs))[j]? with
        | none => rw [hx] at hj; cases hj
        | some c0 =>
          rw [hx] at hj
          injection hj with hj; subst hj
          rw [List.getElem?_take] at hx
          split at hx
          · rename_i hlt
            rw [getElem?_drop'] at hx
            obtain ⟨y, hy, hpc⟩ := hc _ _ hx
            refine ⟨y, ?_, hpc⟩
            simp [hlt, Nat.add_assoc, hy]
          · cases hx
  have one : ∀ d, P.underlying t = some d → rowT d = false → (match cs[off]? with | some c => some (AV.one c) | none => none) = some v →
      v.plain.owner = false ∧ ∃ u, (loadVar t ⟨b, base + off, none⟩).run P w = .ok u w ∧ (∀ t', SlotOk P U G σ w t' v.plain u) ∧ ∀ c, v = .one c → cs[off]? = some c ∧ w.cell? ⟨b, base + off, none⟩ = some u := by
    intro d hu hr h
    cases hx : cs[off]? with
    | none => rw [hx] at h; cases h
    | some c =>
      rw [hx] at h
      injection h with h; subst h
      obtain ⟨y, hy, hpc⟩ := hc _ _ hx
      refine ⟨rfl, y, by simp only [loadVar, Sem.run_bind, run_isAgg' hu, hr, Result.andThen_ok]; simp [hy], fun _ => SlotOk.of_pc hpc, fun c' hv => ?_⟩
      injection hv with hv; subst hv
      exact ⟨rfl, hy⟩
  unfold partOf at h
  split at h
  · rename_i hu; exact ag _ hu rfl h
  · rename_i hu; exact ag _ hu rfl h
  · rename_i d h1 h2 hu
    exact one d hu (by cases d <;> first | rfl | (exact absurd hu (by simp_all))) h
  · cases h

end
end Go.VI
