import Derived.Test.YtpapfbpefhcobaaV12
/-! Stores. -/
set_option linter.unusedVariables false
set_option linter.unusedSimpArgs false
namespace Go.VI
open Go

theorem setCells_size (b : Nat) : ∀ (vs : List Value) (o : Nat) (w : World), (w.setCells b o vs).heap.size = w.heap.size
  | [], _, _ => rfl
  | v :: r, o, w => by rw [World.setCells, setCells_size b r]; simp

theorem setCells_os (b : Nat) : ∀ (vs : List Value) (o : Nat) (w : World), (w.setCells b o vs).os = w.os ∧ (w.setCells b o vs).tape = w.tape ∧ (w.setCells b o vs).output = w.output
  | [], _, _ => ⟨rfl, rfl, rfl⟩
  | v :: r, o, w => by rw [World.setCells]; exact setCells_os b r (o + 1) (w.setCell ⟨b, o, none⟩ v)

theorem setCells_ne {b b' : Nat} (h : b' ≠ b) : ∀ (vs : List Value) (o : Nat) (w : World), (w.setCells b o vs).heap[b']? = w.heap[b']?
  | [], _, _ => rfl
  | v :: r, o, w => by
    rw [World.setCells, setCells_ne h r]
    simp only [World.setCell, Array.getElem?_modify]
    rw [if_neg (Ne.symm h)]

theorem setCells_row {b : Nat} : ∀ (vs : List Value) (o : Nat) (w : World) {c : Array Value} {T : TypeId} {fz : Nat × Nat}, w.heap[b]? = some (.cells c T fz) → ∃ c', (w.setCells b o vs).heap[b]? = some (.cells c' T fz) ∧ c'.size = c.size
  | [], _, w, c, _, _, h => ⟨c, h, rfl⟩
  | v :: r, o, w, c, T, fz, h => by
    rw [World.setCells]
    have h1 : (w.setCell ⟨b, o, none⟩ v).heap[b]? = some (.cells (c.setIfInBounds o v) T fz) := by
      simp [World.setCell, Array.getElem?_modify, h]
    obtain ⟨c', h2, h3⟩ := setCells_row r (o + 1) _ h1
    exact ⟨c', h2, by rw [h3]; simp⟩

section
variable {P : Program} {U : Univ} {N : Nat} {L0 : Nat → Nat} {G0 : Ghost} {w0 : World} {G : Ghost} {σ : Slots U} {a : Act} {w : World} {o : Oper} {adv : Adv}

/-- Cells of an owned block are written: what it does to the rest. -/
theorem own_ext (r : R P U N L0 G0 w0 G σ a w) {s b : Nat} (hb : G.who b = some (s, none)) (hI : ∀ o, ¬ G.I b o) {v : AV U.τ} (lo : Nat) (vs : List Value)
    (hbox : ∀ cs, σ s = .box cs → ∃ cs', v = .box cs') (hblk : ∀ e x q, σ s = .bblk e x q → ∃ e' x', v = .bblk e' x' q ∧ x'.length = x.length) :
    Ext (fun L => L = (s, none)) G G σ (upd σ s v) w (w.setCells b lo vs) ∧ Step G w G (w.setCells b lo vs) := by
  have imm : ∀ b' o, G.I b' o → G.I b' o ∧ (w.setCells b lo vs).cell? ⟨b', o, none⟩ = w.cell? ⟨b', o, none⟩ := fun b' o h => by
    refine ⟨h, World.cell?_setCells_out b vs lo w _ (fun hbb => ?_)⟩
    subst hbb
    exact absurd h (hI o)
  obtain ⟨o1, o2, o3⟩ := setCells_os b vs lo w
  refine ⟨⟨imm, fun b' L h hL => ⟨h, setCells_ne (fun he => hL (by rw [he, hb] at h; injection h with h; exact h.symm)) vs lo w, fun o h => h⟩, fun _ _ => rfl, fun t cs ht => ?_, fun t e y q ht => ?_⟩,
    ⟨o1, o2, o3, by rw [setCells_size]; exact Nat.le_refl _, fun b' _ hw => setCells_ne (fun he => by rw [he, hb] at hw; cases hw) vs lo w, imm, fun b o h => .inl h, fun b L h => .inr (by rw [h]; rfl)⟩⟩
  · by_cases hts : t = s
    · subst hts
      obtain ⟨cs', h⟩ := hbox cs ht
      exact ⟨cs', by simp [upd, h]⟩
    · exact ⟨cs, by simp [upd, hts, ht]⟩
  · by_cases hts : t = s
    · subst hts
      obtain ⟨e', x', h, hl⟩ := hblk e y q ht
      exact ⟨e', x', by simp [upd, h], hl⟩
    · exact ⟨e, y, by simp [upd, hts, ht], rfl⟩

theorem setCells_get_in {ds : List (CV U.τ)} {vs : List Value} {cs : List (CV U.τ)} {off b base : Nat} (hl : vs.length = ds.length) (hle : off + ds.length ≤ cs.length) (hc : ∀ (j : Nat) c, cs[j]? = some c → ∃ y, w.cell? ⟨b, base + j, none⟩ = some y) :
    (∀ (j : Nat), j < vs.length → (w.cell? ⟨b, base + off + j, none⟩).isSome = true) := by
  intro j hj
  obtain ⟨c, hcj⟩ : ∃ c, cs[off + j]? = some c := ⟨_, List.getElem?_eq_getElem (by omega)⟩
  obtain ⟨y, hy⟩ := hc _ c hcj
  rw [Nat.add_assoc, hy]; rfl

theorem frozen_of_row {b : Nat} {c : Array Value} {T : TypeId} {fz : Nat × Nat} (h : w.heap[b]? = some (.cells c T fz)) (hf : ∀ o, fz.1 ≤ o → o < fz.2 → c.size ≤ o) (o : Nat) (ho : o < c.size) : w.frozen? ⟨b, o, none⟩ = false := by
  obtain ⟨lo, hi⟩ := fz
  simp only [World.frozen?, h]
  rw [Bool.and_eq_false_iff]
  by_cases h1 : lo ≤ o
  · right
    simp only [decide_eq_false_iff_not]
    intro h2
    exact absurd (hf o h1 h2) (by omega)
  · left; simpa using h1

theorem one1_iff {v : Value} (h : one1 v) : v.oneCell' = true := by cases v <;> first | rfl | exact h.elim

/-- Cells of a box are written. -/
theorem R.storeBox (r : R P U N L0 G0 w0 G σ a w) {s : Nat} {cs : List (CV U.τ)} (hs : σ s = .box cs) {off : Nat} {ds : List (CV U.τ)} {vs : List Value} (hl : vs.length = ds.length) (hle : off + ds.length ≤ cs.length)
    (hok : ∀ (j : Nat) d v, ds[j]? = some d → vs[j]? = some v → CellOk P U w G.I G.who (s, some (off + j)) d v) :
    R P U N L0 G0 w0 G (upd σ s (.box (setCells cs off ds))) a (w.setCells (G.loc s).1 ((G.loc s).2 + off) vs) ∧
    (storeCells ⟨(G.loc s).1, (G.loc s).2 + off, none⟩ vs).run P w = .ok () (w.setCells (G.loc s).1 ((G.loc s).2 + off) vs) := by
  have hbox := r.slots s
  rw [hs] at hbox
  obtain ⟨hb1, hb2⟩ := hbox
  obtain ⟨x, st⟩ := own_ext r hb2.hwho hb2.himm (v := .box (setCells cs off ds)) ((G.loc s).2 + off) vs (fun _ _ => ⟨_, rfl⟩) (fun e y q h => by rw [hs] at h; cases h)
  obtain ⟨c, T, fz, h1, h2, h3, h4⟩ := hb2.row
  have hcell : ∀ (j : Nat) c, cs[j]? = some c → ∃ y, w.cell? ⟨(G.loc s).1, (G.loc s).2 + j, none⟩ = some y := fun j c hj => let ⟨y, hy, _⟩ := hb2.cells j c hj; ⟨y, hy⟩
  have hin := setCells_get_in (w := w) hl hle hcell
  have hone : ∀ v ∈ vs, v.oneCell' = true := fun v hv => by
    obtain ⟨j, hj⟩ := List.mem_iff_getElem?.1 hv
    have hjl := (List.getElem?_eq_some_iff.1 hj).1
    obtain ⟨d, hdj⟩ : ∃ d, ds[j]? = some d := ⟨_, List.getElem?_eq_getElem (by omega)⟩
    exact one1_iff (hok j d v hdj hj).one1
  have hat : upd σ s (.box (setCells cs off ds)) s = .box (setCells cs off ds) := by simp [upd]
  refine ⟨r.go x st rfl rfl (fun _ _ => rfl) (fun b o h => .inl h) (fun b L h => .inl ⟨L, h⟩) (fun t cs' ht hσ => ?_) (fun t => ?_), ?_⟩
  · by_cases hts : t = s
    · rw [hts] at hσ ht ⊢
      rw [hat] at hσ
      injection hσ with hσ
      refine ⟨cs, hs, by rw [← hσ, setCells_length], fun o ho => World.cell?_setCells_out _ vs _ w _ (fun _ _ => ?_)⟩
      rcases ho with ho | ho
      · exact .inl (by simp only; omega)
      · exact .inr (by simp only; omega)
    · simp only [upd, hts, if_false] at hσ
      refine ⟨cs', hσ, rfl, fun o _ => World.cell?_setCells_out _ vs _ w _ (fun hb => ?_)⟩
      simp only at hb
      have := r.slots t
      rw [hσ] at this
      have h5 := this.2.hwho
      rw [hb, hb2.hwho] at h5
      injection h5 with h5; injection h5 with h5
      exact absurd h5.symm hts
  · by_cases hts : t = s
    · right
      rw [hts, hat]
      refine ⟨hb1, hb2.hwho, hb2.himm, ?_⟩
      obtain ⟨c', k1, k2⟩ := setCells_row vs ((G.loc s).2 + off) w h1
      refine ⟨c', T, fz, k1, by rw [setCells_length, k2]; exact h2, by rw [k2]; exact h3, fun i y hi => ?_⟩
      rw [setCells_get _ _ _ _ hle] at hi
      rw [← cell_of_row k1]
      split at hi
      · rename_i hc
        have hlt : i - off < vs.length := by rw [hl]; omega
        have hv := List.getElem?_eq_getElem hlt
        have h5 := hok (i - off) y _ hi hv
        refine ⟨vs[i - off], ?_, ?_⟩
        · have := World.cell?_setCells_in _ vs ((G.loc s).2 + off) w hin (i - off) hlt
          rw [← this]
          congr 2
          omega
        · rw [show off + (i - off) = i by omega] at h5
          exact h5.mono x (by simp)
      · rename_i hc
        obtain ⟨u, hu, hk⟩ := h4 i y hi
        refine ⟨u, ?_, hk.mono x (by simp)⟩
        rw [World.cell?_setCells_out _ vs _ w _ (fun _ _ => by simp only; omega), cell_of_row h1]
        exact hu
    · left
      exact ⟨by simp [upd, hts], rfl, fun he => hts (by injection he), fun i he => by injection he with _ h; cases h⟩
  · have := run_storeCells_cells (P := P) (G.loc s).1 ((G.loc s).2 + off) vs 0 w (fun j hj => by simpa using hin j hj) (fun j hj => by
      rw [Nat.add_zero]
      refine frozen_of_row h1 h3 _ ?_
      omega) hone
    simpa using this

/-- The right to append goes from a slot to a box's cell (which is about to be written). -/
theorem R.giveTo (r : R P U N L0 G0 w0 G σ a w) {y : Nat} {c : CV U.τ} {e : Nat} {css : List (List (CV U.τ))} (hy : σ y = .one c) (hyv : y < vbase) (hc : cont c = some (e, css, .app)) (L : Nat × Option Nat) (hL : L ≠ (y, none)) :
    ∃ G', R P U N L0 G0 w0 G' (upd σ y (.one c.plain)) a w ∧ AppOk P U w G'.I G'.who L c (a.tmps.getD y undef) ∧ G'.loc = G.loc ∧ G'.I = G.I := by
  have hso : SlotOk P U G σ w y (.one c) (a.tmps.getD y undef) := by have := r.slots y; rwa [hy] at this
  have happ : AppOk P U w G.I G.who (y, none) c (a.tmps.getD y undef) := by
    have h2 : CellOk P U w G.I G.who (y, none) c (a.tmps.getD y undef) := by
      cases c <;> first | (simp [cont] at hc; done) | exact hso
    rcases h2 with h2 | h2
    · exact absurd rfl (h2.slice hc).1
    · exact h2
  have hn : ∀ t, (σ t).owner = true → t ≠ y := fun t ht he => by rw [he, hy] at ht; cases ht
  let G' : Ghost := ⟨G.I, G.loc, fun b => if G.who b = some (y, none) then some L else G.who b⟩
  have x : Ext (fun L => L = (y, none)) G G' σ (upd σ y (.one c.plain)) w w := by
    refine ⟨fun _ _ h => ⟨h, rfl⟩, fun b L' h hL' => ⟨?_, rfl, fun _ h => h⟩, fun _ _ => rfl, fun t cs ht => ⟨cs, by simp [upd, hn t (by rw [ht]; rfl), ht]⟩, fun t e z q ht => ⟨e, z, by simp [upd, hn t (by rw [ht]; rfl), ht], rfl⟩⟩
    show (if G.who b = some (y, none) then some L else G.who b) = some L'
    rw [if_neg (fun he => hL' (by rw [h] at he; injection he)), h]
  have hw : ∀ b L', G'.who b = some L' → ∃ L'', G.who b = some L'' := fun b L' h => by
    have h' : (if G.who b = some (y, none) then some L else G.who b) = some L' := h
    split at h'
    · rename_i hh; exact ⟨_, hh⟩
    · exact ⟨_, h'⟩
  have st : Step G w G' w := ⟨rfl, rfl, rfl, Nat.le_refl _, fun _ _ _ => rfl, fun _ _ h => ⟨h, rfl⟩, fun _ _ h => .inl h, fun b L' h => .inr (by obtain ⟨L'', h2⟩ := hw b L' h; rw [h2]; rfl)⟩
  refine ⟨G', r.go x st rfl rfl (fun _ _ => rfl) (fun b o h => .inl h) (fun b L' h => .inl (hw b L' h)) (fun t cs' ht hσ => ?_) (fun t => ?_), ?_⟩
  · have h2 : t ≠ y := fun he => by omega
    simp only [upd, h2, if_false] at hσ
    exact ⟨cs', hσ, rfl, fun _ _ => rfl⟩
  · by_cases hty : t = y
    · right
      rw [hty]
      have h1 : upd σ y (.one c.plain) y = .one c.plain := by simp [upd]
      rw [h1]
      exact SlotOk.of_pc happ.plain
    · left
      exact ⟨by simp [upd, hty], rfl, fun he => hty (by injection he), fun i he => by injection he with _ h; cases h⟩
  · refine ⟨?_, rfl, rfl⟩
    obtain ⟨e', css', k1, k2, k3⟩ := happ
    refine ⟨e', css', k1, k2, ?_⟩
    rcases k3 with k3 | ⟨b, off, cap, k4, k5, k6, k7⟩
    · exact .inl k3
    · refine .inr ⟨b, off, cap, k4, k5, k6, ?_⟩
      rcases k7 with k7 | ⟨k7, k8⟩
      · exact .inl k7
      · exact .inr ⟨by show (if G.who b = some (y, none) then some L else G.who b) = _; rw [if_pos k7], k8⟩

/-- Bytes of a row are written. -/
theorem R.storeBlk (r : R P U N L0 G0 w0 G σ a w) {s e : Nat} {x x' : List UInt8} {q : Bool} (hs : σ s = .bblk e x q) {i : Nat} {ys : List UInt8} (hle : i + ys.length ≤ x.length) (hx' : x'.length = x.length) (hget : ∀ j, x'[j]? = if i ≤ j ∧ j < i + ys.length then ys[j - i]? else x[j]?) :
    R P U N L0 G0 w0 G (upd σ s (.bblk e x' q)) a (w.setCells (G.loc s).1 ((G.loc s).2 + i) (ys.map fun b => .int .u8 b.toNat)) ∧
    (storeCells ⟨(G.loc s).1, (G.loc s).2 + i, none⟩ (ys.map fun b => .int .u8 b.toNat)).run P w = .ok () (w.setCells (G.loc s).1 ((G.loc s).2 + i) (ys.map fun b => .int .u8 b.toNat)) := by
  have hblk := r.slots s
  rw [hs] at hblk
  obtain ⟨hb1, hb2⟩ := hblk
  obtain ⟨xx, st⟩ := own_ext r hb2.hwho hb2.himm (v := .bblk e x' q) ((G.loc s).2 + i) (ys.map fun b => .int .u8 b.toNat) (fun cs h => by rw [hs] at h; cases h) (fun e1 x1 q1 h => by rw [hs] at h; cases h; exact ⟨e, x', rfl, hx'⟩)
  obtain ⟨c, T, fz, h1, h2, h3, h4⟩ := hb2.row
  have hlen : (ys.map fun b => (Value.int .u8 b.toNat)).length = ys.length := List.length_map _
  have hin : ∀ j, j < (ys.map fun b => (Value.int .u8 b.toNat)).length → (w.cell? ⟨(G.loc s).1, (G.loc s).2 + i + j, none⟩).isSome = true := fun j hj => by
    rw [hlen] at hj
    obtain ⟨b, hb⟩ : ∃ b, x[i + j]? = some b := ⟨_, List.getElem?_eq_getElem (by omega)⟩
    rw [cell_of_row h1, Nat.add_assoc, h4 _ b hb]; rfl
  have hat : upd σ s (.bblk e x' q) s = .bblk e x' q := by simp [upd]
  refine ⟨r.go xx st rfl rfl (fun _ _ => rfl) (fun b o h => .inl h) (fun b L h => .inl ⟨L, h⟩) (fun t cs' ht hσ => ?_) (fun t => ?_), ?_⟩
  · have hts : t ≠ s := fun he => by rw [he, hat] at hσ; cases hσ
    simp only [upd, hts, if_false] at hσ
    refine ⟨cs', hσ, rfl, fun o _ => World.cell?_setCells_out _ _ _ w _ (fun hb => ?_)⟩
    simp only at hb
    have := r.slots t
    rw [hσ] at this
    have h5 := this.2.hwho
    rw [hb, hb2.hwho] at h5
    injection h5 with h5; injection h5 with h5
    exact absurd h5.symm hts
  · by_cases hts : t = s
    · right
      rw [hts, hat]
      obtain ⟨c', k1, k2⟩ := setCells_row (ys.map fun b => (Value.int .u8 b.toNat)) ((G.loc s).2 + i) w h1
      refine ⟨fun ht => by rw [hx']; exact hb1 ht, hb2.hwho, hb2.himm, hb2.sz, by rw [hx']; exact hb2.len, c', T, fz, k1, by rw [hx', k2]; exact h2, by rw [k2]; exact h3, fun j b hj => ?_⟩
      rw [hget] at hj
      rw [← cell_of_row k1]
      split at hj
      · rename_i hc
        have hlt : j - i < (ys.map fun b => (Value.int .u8 b.toNat)).length := by rw [hlen]; omega
        have := World.cell?_setCells_in _ (ys.map fun b => (Value.int .u8 b.toNat)) ((G.loc s).2 + i) w hin (j - i) hlt
        rw [show (G.loc s).2 + i + (j - i) = (G.loc s).2 + j by omega] at this
        rw [this, List.getElem_map]
        have h6 := (List.getElem?_eq_some_iff.1 hj).2
        rw [h6]
      · rename_i hc
        rw [World.cell?_setCells_out _ _ _ w _ (fun _ _ => by rw [hlen]; simp only; omega), cell_of_row h1]
        exact h4 j b hj
    · left
      exact ⟨by simp [upd, hts], rfl, fun he => hts (by injection he), fun i he => by injection he with _ h; cases h⟩
  · have := run_storeCells_cells (P := P) (G.loc s).1 ((G.loc s).2 + i) (ys.map fun b => .int .u8 b.toNat) 0 w (fun j hj => by simpa using hin j hj) (fun j hj => by
      rw [Nat.add_zero]
      refine frozen_of_row h1 h3 _ ?_
      rw [hlen] at hj
      omega) (fun v hv => by
        obtain ⟨b, _, rfl⟩ := List.mem_map.1 hv; rfl)
    simpa using this

theorem storeVar_one {t : TypeId} (hz : P.cellsOf t = 1) {b off : Nat} {v : Value} (h1 : one1 v) {w' : World} (h : (storeCells ⟨b, off, none⟩ [v]).run P w = .ok () w') : (storeVar t ⟨b, off, none⟩ v).run P w = .ok () w' := by
  have hc : v.cells = #[v] := by cases v <;> first | rfl | exact h1.elim
  have hs := run_sizeOf (P := P) (t := t) (by omega) w
  simp only [storeVar, Sem.run_bind, hs, Result.andThen_ok, hc, hz]
  rw [if_neg (by simp)]
  exact h

theorem op_store (r : R P U N L0 G0 w0 G σ a w) (hd : ∀ d, o.dst = some d → d < N) {t : TypeId} {x y : Operand} (ho : o.op = .store t x y) {rd : List Nat} {ws : List (Nat × AV U.τ)} (h : Does P U σ (opTree P adv o) rd ws) :
    Goal P U N L0 G0 w0 σ o a w ws := by
  simp only [opTree, ho] at h
  obtain ⟨hnd, h⟩ := Does.of_cond' h
  have hnd : o.dst = none := by cases hx : o.dst with
    | none => rfl
    | some d => rw [hx] at hnd; cases hnd
  obtain ⟨v, _, h1, h⟩ := r.opd h
  have fin : ∀ w', (Instr.storeAt t (a.eval x) (a.eval y)).run P w = .ok () w' → (∃ G', R P U N L0 G0 w0 G' (updsσ σ ws) a w') → Goal P U N L0 G0 w0 σ o a w ws := by
    intro w' hr hR
    unfold Goal Goes
    have : (execOp a.eval o).run P w = .ok .skip w' := by simp [execOp, ho, hr]
    rw [this, hnd]
    exact hR
  cases v with
  | one c =>
    cases c with
    | ref s off =>
      obtain ⟨⟨cs, hs⟩, hp⟩ := h1.ref
      obtain ⟨_, h⟩ := h.of_read
      rw [hs] at h
      obtain ⟨v2, _, h2, h⟩ := r.opd h
      have one : ∀ (c : CV U.τ) rd', v2 = .one c → c ≠ .any → (∀ s o, c ≠ .ref s o) → (∀ s, c ≠ .sref s) → (∀ s i, c ≠ .eref s i) →
          Does P U σ (cond (!(Nat.beq (P.cellsOf t) 1) || Nat.ble cs.length off) .fail
            (storeT s off cs c (opTmp y))) rd' ws → Goal P U N L0 G0 w0 σ o a w ws := by
        intro c rd' hv2 n1 n2 n3 n4 hh
        subst hv2
        clear h
        obtain ⟨hb, h⟩ := Does.of_cond' hh
        simp only [Bool.or_eq_false_iff, Bool.not_eq_eq_eq_not, Bool.not_false] at hb
        have hz := Nat.eq_of_beq_eq_true hb.1
        have hlt : off < cs.length := by
          rcases Nat.lt_or_ge off cs.length with g | g
          · exact g
          · rw [Nat.ble_eq_true_of_le g] at hb; simp at hb
        have hset : ∀ d : CV U.τ, setCells cs off [d] = cs.set off d := fun d => rfl
        have plainCase : c.plain = c → ws = [(s, .box (cs.set off c))] → Goal P U N L0 G0 w0 σ o a w ws := by
          intro hpl hws
          obtain ⟨t', h3, _⟩ := h2.ok
          have hpc := h3.plainOne n1 n2 n3 n4
          rw [hpl] at hpc
          obtain ⟨R1, R2⟩ := r.storeBox hs (off := off) (ds := [c]) (vs := [a.eval y]) rfl (by simp; omega) (fun j d v hj hv => by
            cases j with
            | zero => simp at hj hv; subst hj; subst hv; exact .inl hpc
            | succ j => simp at hj)
          refine fin _ ?_ ⟨G, by rw [hws]; exact R1⟩
          simp only [Instr.storeAt, hp, Instr.sureAddr, Sem.run_bind, Sem.run_pure, Result.andThen_ok]
          exact storeVar_one hz hpc.one1 R2
        have appCase : ∀ yt e css, opTmp y = some yt → cont c = some (e, css, .app) → ws = [(s, .box (cs.set off c)), (yt, .one c.plain)] → Goal P U N L0 G0 w0 σ o a w ws := by
          intro yt e css hyt hc hws
          have hy : y = .tmp yt := by cases y <;> simp [opTmp] at hyt; rw [hyt]
          subst hy
          obtain ⟨t', _, ht'⟩ := h2.ok
          have hσy : σ yt = .one c ∧ yt < vbase := by
            rcases ht' with ⟨g2, g3, g4⟩ | ⟨g2, _⟩
            · injection g2 with g2; subst g2
              refine ⟨?_, g3⟩
              cases hσ : σ yt with
              | box cs => rw [hσ] at g4; simp only [asVal] at g4; injection g4 with g4; subst g4; simp [cont] at hc
              | bblk e y q => rw [hσ] at g4; simp only [asVal] at g4; injection g4 with g4; subst g4; simp [cont] at hc
              | _ => rw [hσ] at g4; exact g4.symm
            · cases g2
          have hsy : s ≠ yt := fun he => by rw [he, hσy.1] at hs; cases hs
          obtain ⟨G', r', happ, hloc, _⟩ := r.giveTo hσy.1 hσy.2 hc (s, some off) (by simp)
          have hs' : (upd σ yt (.one c.plain)) s = .box cs := by simp [upd, hsy, hs]
          obtain ⟨R1, R2⟩ := r'.storeBox hs' (off := off) (ds := [c]) (vs := [a.eval (.tmp yt)]) rfl (by simp; omega) (fun j d v hj hv => by
            cases j with
            | zero => simp at hj hv; subst hj; subst hv; exact .inr happ
            | succ j => simp at hj)
          rw [hloc] at R1 R2
          refine fin (w.setCells (G.loc s).1 ((G.loc s).2 + off) [a.eval (.tmp yt)]) ?_ ⟨G', ?_⟩
          · simp only [Instr.storeAt, hp, Instr.sureAddr, Sem.run_bind, Sem.run_pure, Result.andThen_ok]
            exact storeVar_one hz (CellOk.one1 (.inr happ)) R2
          · rw [hws]
            have : updsσ σ [(s, .box (cs.set off c)), (yt, .one c.plain)] = upd (upd σ yt (.one c.plain)) s (.box (setCells cs off [c])) := by
              funext z
              simp only [updsσ, upd, hset]
              by_cases z1 : z = yt
              · have : ¬ z = s := fun he => hsy (he ▸ z1)
                simp [z1, this, Ne.symm hsy]
              · simp [z1]
            rw [this]
            exact R1
        cases c with
        | sl e xs f =>
          cases f with
          | app =>
            cases hyt : opTmp y with
            | none => rw [hyt] at h; exact h.of_fail.elim
            | some yt => rw [hyt] at h; exact appCase yt _ _ hyt rfl (Does.of_done h)
          | _ => exact plainCase rfl (Does.of_done h)
        | bs e xs f =>
          cases f with
          | app =>
            cases hyt : opTmp y with
            | none => rw [hyt] at h; exact h.of_fail.elim
            | some yt => rw [hyt] at h; exact appCase yt _ _ hyt rfl (Does.of_done h)
          | _ => exact plainCase rfl (Does.of_done h)
        | any => exact absurd rfl n1
        | ref s o => exact absurd rfl (n2 s o)
        | sref s => exact absurd rfl (n3 s)
        | eref s i => exact absurd rfl (n4 s i)
        | _ => exact plainCase rfl (Does.of_done h)
      cases v2 with
      | one c =>
        cases c with
        | any => exact h.of_fail.elim
        | ref s o => exact h.of_fail.elim
        | sref s => exact h.of_fail.elim
        | eref s i => exact h.of_fail.elim
        | _ => exact one _ _ rfl (by simp) (by simp) (by simp) (by simp) h
      | agg ds =>
        obtain ⟨hb, h⟩ := Does.of_cond h
        simp only [Bool.and_eq_true] at hb
        obtain ⟨⟨hz, hz1⟩, hle⟩ := hb
        have hz := Nat.eq_of_beq_eq_true hz
        have hz1 := Nat.le_of_ble_eq_true hz1
        have hle := Nat.le_of_ble_eq_true hle
        obtain ⟨us, hu, hsz, hc⟩ := h2.agg
        obtain ⟨R1, R2⟩ := r.storeBox hs (off := off) (ds := ds) (vs := us.toList) (by simpa using hsz) hle (fun j d v hj hv => by
          obtain ⟨u, g1, g2⟩ := hc j d hj
          rw [Array.getElem?_toList, g1] at hv
          injection hv with hv; subst hv
          exact .inl g2)
        have hws := h.of_done
        refine fin _ ?_ ⟨G, by rw [hws]; exact R1⟩
        have hs := run_sizeOf (P := P) (t := t) (by omega) w
        simp only [Instr.storeAt, hp, Instr.sureAddr, Sem.run_bind, Sem.run_pure, Result.andThen_ok, hu, storeVar, hs, Value.cells]
        rw [if_neg (by rw [hsz, hz]; simp)]
        exact R2
      | _ => exact h.of_fail.elim
    | eref s i =>
      obtain ⟨⟨e, z, q, hs⟩, hp⟩ := h1.eref
      obtain ⟨_, h⟩ := h.of_read
      rw [hs] at h
      obtain ⟨k, n, _, he, hk, h⟩ := r.int h
      obtain ⟨hb, h2⟩ := Does.of_cond h
      obtain ⟨hi, h3⟩ := h2.of_guard
      simp only [Bool.and_eq_true, decide_eq_true_eq] at hb
      obtain ⟨hk8, hz⟩ := hb
      have hz := Nat.eq_of_beq_eq_true hz
      subst hk8
      obtain ⟨R1, R2⟩ := r.storeBlk hs (i := i) (ys := [u8of n]) (x' := z.set i (u8of n)) (by simp; omega) (by simp) (fun j => by
        by_cases hj : j = i
        · subst hj
          rw [List.getElem?_set_self hi, if_pos (by simp)]
          simp
        · rw [List.getElem?_set_ne (Ne.symm hj), if_neg (by simp; omega)])
      simp only [List.map_cons, List.map_nil, u8of_toNat hk] at R1 R2
      have hws := h3.of_done
      refine fin _ ?_ ⟨G, by rw [hws]; exact R1⟩
      simp only [Instr.storeAt, hp, he, Instr.sureAddr, Sem.run_bind, Sem.run_pure, Result.andThen_ok]
      exact storeVar_one (v := .int .u8 n) hz trivial R2
    | _ => exact h.of_fail.elim
  | _ => exact h.of_fail.elim

end
end Go.VI
