import Derived.Test.YtpapfbpefhcobaaV14
/-! append, whole. -/
set_option linter.unusedVariables false
set_option linter.unusedSimpArgs false
namespace Go.VI
open Go

section
variable {P : Program} {U : Univ} {N : Nat} {L0 : Nat → Nat} {G0 : Ghost} {w0 : World} {G : Ghost} {σ : Slots U} {a : Act} {w : World} {o : Oper} {adv : Adv}

theorem R.putAt (r : R P U N L0 G0 w0 G σ a w) {d : Nat} {v : AV U.τ} {u : Value} (hd : d < N) (ho : (σ d).owner = false) (hv : v.owner = false) (h : SlotOk P U G σ w d v u) :
    R P U N L0 G0 w0 G (upd σ d v) (a.put (some d) u) w := by
  have hn : ∀ s, (σ s).owner = true → s ≠ d := fun s hs he => by rw [he, ho] at hs; cases hs
  have x : Ext (fun _ => False) G G σ (upd σ d v) w w :=
    ⟨fun _ _ h => ⟨h, rfl⟩, fun _ _ h _ => ⟨h, rfl, fun _ h => h⟩, fun _ _ => rfl, fun s cs hs => ⟨cs, by simp [upd, hn s (by rw [hs]; rfl), hs]⟩,
      fun s e y q hs => ⟨e, y, by simp [upd, hn s (by rw [hs]; rfl), hs], rfl⟩⟩
  refine r.go x (.refl G w) rfl (by simp [Act.put]) (fun _ _ => rfl) (fun b o h => .inl h) (fun b L h => .inl ⟨L, h⟩) (fun t cs' ht hσ => ?_) (fun t => ?_)
  · have : t ≠ d := fun he => by have := r.small; omega
    simp only [upd, this, if_false] at hσ
    exact ⟨cs', hσ, rfl, fun _ _ => rfl⟩
  · rw [getD_put (Nat.lt_of_lt_of_le hd r.size)]
    by_cases ht : t = d
    · subst ht
      right
      simp only [upd, if_true]
      exact h.mono x (fun h => h) (fun _ h => h) (fun hh => by rw [hv] at hh; cases hh)
    · left
      simp [upd, ht]

theorem slot_app {G : Ghost} {σ : Slots U} {w : World} {t : Nat} {c : CV U.τ} {u : Value} {e : Nat} {css : List (List (CV U.τ))} (hc : cont c = some (e, css, .app)) (h : AppOk P U w G.I G.who (t, none) c u) : SlotOk P U G σ w t (.one c) u := by
  cases c <;> first | (simp [cont] at hc; done) | exact .inr h

theorem AppOk.cont {I : Nat → Nat → Prop} {who : Nat → Option (Nat × Option Nat)} {L : Nat × Option Nat} {c c' : CV U.τ} {u : Value} {e : Nat} {css : List (List (CV U.τ))} {f : Fl} (hc : cont c = some (e, css, f)) (hc' : cont c' = some (e, css, .app)) (h : AppOk P U w I who L c u) : AppOk P U w I who L c' u := by
  obtain ⟨e1, css1, k1, k2, k3⟩ := h
  rw [hc] at k1
  simp only [Option.some.injEq, Prod.mk.injEq] at k1
  obtain ⟨rfl, rfl, rfl⟩ := k1
  exact ⟨_, _, hc', k2, k3⟩

/-- The slice grows into a new block. -/
theorem R.grow (r : R P U N L0 G0 w0 G σ a w) {d : Nat} (hd : d < N) (ho : (σ d).owner = false) {c' : CV U.τ} {e : Nat} {css : List (List (CV U.τ))} (hc : cont c' = some (e, css, .app)) {us : List Value} (hf : Flat P U w G.I (P.cellsOf e) css us) (hm : (css.length : Int) ≤ maxLenI)
    {cap : Nat} (hcap : css.length ≤ cap) {w' : World} (h1 : w'.os = w.os) (h2 : w'.tape = w.tape) (h3 : w'.output = w.output) {cells : Array Value} (hh : w'.heap = w.heap.push (.cells cells e)) (hsz : cells.size = cap * P.cellsOf e) (hcells : ∀ (q : Nat) u, us[q]? = some u → cells[q]? = some u) :
    ∃ G', R P U N L0 G0 w0 G' (upd σ d (.one c')) (a.put (some d) (.slice (some ⟨w.heap.size, 0, none⟩) css.length cap)) w' := by
  have hle : css.length * P.cellsOf e ≤ cap * P.cellsOf e := Nat.mul_le_mul_right _ hcap
  refine ⟨_, r.fresh (imm := fun o => o < css.length * P.cellsOf e) (wh := some (d, none)) hh h1 h2 h3 hd ho (fun o ho => by omega) (slot_app hc ?_)⟩
  refine ⟨e, css, hc, hm, .inr ⟨w.heap.size, 0, cap, rfl, hcap, ?_, .inr ⟨if_pos rfl, cells, e, (0, 0), by rw [heap_push hh, if_pos rfl], by omega, fun o h1 h2 => by simp at h2, fun o h1 h2 hI => ?_⟩⟩⟩
  · refine hf.cont (fun b o h => ⟨.inl h, cell_push hh b o (cell_lt (r.imm b o h))⟩) (fun q u hq => ?_)
    rw [Nat.zero_add]
    refine ⟨.inr ⟨rfl, ?_⟩, by rw [cell_push_new hh]; exact hcells q u hq⟩
    rw [← hf.size]
    exact (List.getElem?_eq_some_iff.1 hq).1
  · rcases hI with hI | ⟨_, hI⟩
    · exact r.notI o hI
    · omega

/-- The slice grows in its place. -/
theorem R.push (r : R P U N L0 G0 w0 G σ a w) {d : Nat} (hd : d < N) (ho : (σ d).owner = false) {c' : CV U.τ} {e : Nat} {css dss : List (List (CV U.τ))} (hc : cont c' = some (e, css ++ dss, .app)) {vs : List Value} {b off cap : Nat} (hco : Cont P U w G.I b off (P.cellsOf e) css) (hf : Flat P U w G.I (P.cellsOf e) dss vs)
    (hm : ((css ++ dss).length : Int) ≤ maxLenI) (hcap : css.length + dss.length ≤ cap) (hw : G.who b = some (d, none)) (hsp : Spare w G.I b (off + css.length * P.cellsOf e) (off + cap * P.cellsOf e)) :
    (∃ G', R P U N L0 G0 w0 G' (upd σ d (.one c')) (a.put (some d) (.slice (some ⟨b, off, none⟩) (css.length + dss.length) cap)) (w.setCells b (off + css.length * P.cellsOf e) vs)) ∧
    (storeCells ⟨b, off + css.length * P.cellsOf e, none⟩ vs).run P w = .ok () (w.setCells b (off + css.length * P.cellsOf e) vs) := by
  obtain ⟨c, T, fz, h1, h2, h3, h4⟩ := hsp
  have hvl := hf.size
  have hmul : css.length * P.cellsOf e + dss.length * P.cellsOf e ≤ cap * P.cellsOf e := by rw [← Nat.add_mul]; exact Nat.mul_le_mul_right _ hcap
  have hin : ∀ j, j < vs.length → (w.cell? ⟨b, off + css.length * P.cellsOf e + j, none⟩).isSome = true := fun j hj => by
    rw [cell_of_row h1, Array.getElem?_eq_getElem (by omega)]; rfl
  have hn : ∀ s, (σ s).owner = true → s ≠ d := fun s hs he => by rw [he, ho] at hs; cases hs
  have notI : ∀ o, off + css.length * P.cellsOf e ≤ o → o < off + css.length * P.cellsOf e + vs.length → ¬ G.I b o := fun o k1 k2 => h4 o k1 (by omega)
  let G' : Ghost := ⟨fun b' o => G.I b' o ∨ (b' = b ∧ off + css.length * P.cellsOf e ≤ o ∧ o < off + css.length * P.cellsOf e + vs.length), G.loc, G.who⟩
  have imm : ∀ b' o, G.I b' o → G'.I b' o ∧ (w.setCells b (off + css.length * P.cellsOf e) vs).cell? ⟨b', o, none⟩ = w.cell? ⟨b', o, none⟩ := fun b' o h => by
    refine ⟨.inl h, World.cell?_setCells_out _ _ _ _ _ (fun hb _ => ?_)⟩
    simp only at hb
    subst hb
    rcases Nat.lt_or_ge o (off + css.length * P.cellsOf e) with k | k
    · exact .inl k
    · rcases Nat.lt_or_ge o (off + css.length * P.cellsOf e + vs.length) with k2 | k2
      · exact absurd h (notI o k k2)
      · exact .inr k2
  obtain ⟨o1, o2, o3⟩ := setCells_os b vs (off + css.length * P.cellsOf e) w
  have x : Ext (fun L => L = (d, none)) G G' σ (upd σ d (.one c')) w (w.setCells b (off + css.length * P.cellsOf e) vs) := by
    refine ⟨imm, fun b' L h hL => ?_, fun _ _ => rfl, fun s cs hs => ⟨cs, by simp [upd, hn s (by rw [hs]; rfl), hs]⟩, fun s e y q hs => ⟨e, y, by simp [upd, hn s (by rw [hs]; rfl), hs], rfl⟩⟩
    have hbb : b' ≠ b := fun he => hL (by rw [he, hw] at h; injection h with h; exact h.symm)
    refine ⟨h, setCells_ne hbb _ _ _, fun o ho => ?_⟩
    rcases ho with ho | ⟨ho, _⟩
    · exact ho
    · exact absurd ho hbb
  have st : Step G w G' (w.setCells b (off + css.length * P.cellsOf e) vs) := by
    refine ⟨o1, o2, o3, by rw [setCells_size]; exact Nat.le_refl _, fun b' _ hw' => setCells_ne (fun he => by rw [he, hw] at hw'; cases hw') _ _ _, imm, fun b' o h => ?_, fun b L h => .inr (by show (G.who b).isSome = true; rw [show G.who b = some L from h]; rfl)⟩
    rcases h with h | ⟨h, _⟩
    · exact .inl h
    · exact .inr (.inr (by rw [h, hw]; rfl))
  refine ⟨⟨G', r.go x st rfl (by simp [Act.put]) (fun _ _ => rfl) (fun b' o h => ?_) (fun b L h => .inl ⟨L, h⟩) (fun t cs' ht hσ => ?_) (fun t => ?_)⟩, ?_⟩
  · rcases h with h | ⟨rfl, h⟩
    · exact .inl h
    · right
      have := World.cell?_setCells_in _ vs _ w hin (o - (off + css.length * P.cellsOf e)) (by omega)
      rw [show off + css.length * P.cellsOf e + (o - (off + css.length * P.cellsOf e)) = o by omega] at this
      rw [this]; rfl
  · have htd : t ≠ d := fun he => by have := r.small; omega
    simp only [upd, htd, if_false] at hσ
    refine ⟨cs', hσ, rfl, fun o _ => World.cell?_setCells_out _ _ _ _ _ (fun hb => ?_)⟩
    simp only at hb
    have := r.slots t
    rw [hσ] at this
    have h5 := this.2.hwho
    rw [hb, hw] at h5
    injection h5 with h5; injection h5 with h5
    exact absurd h5.symm htd
  · rw [getD_put (Nat.lt_of_lt_of_le hd r.size)]
    by_cases ht : t = d
    · right
      rw [if_pos ht, ht]
      have hat : upd σ d (.one c') d = .one c' := by simp [upd]
      rw [hat]
      have hlen : (css ++ dss).length = css.length + dss.length := List.length_append
      refine slot_app hc ⟨e, css ++ dss, hc, hm, .inr ⟨b, off, cap, by rw [hlen], by rw [hlen]; exact hcap, ?_, .inr ⟨hw, ?_⟩⟩⟩
      · have hco' := hco.mono imm
        refine ⟨fun i cs hi => ?_, fun i cs j y hi hj => ?_, fun i cs j y hi hj => ?_⟩
        all_goals
          rw [List.getElem?_append] at hi
          split at hi
        · exact hco.len i cs hi
        · exact hf.len _ cs hi
        · exact hco'.imm i cs j y hi hj
        · rename_i hge
          obtain ⟨u, hu, hp⟩ := hf.cell _ cs j y hi hj
          have hlt := (List.getElem?_eq_some_iff.1 hu).1
          have e1 : i * P.cellsOf e + j = css.length * P.cellsOf e + ((i - css.length) * P.cellsOf e + j) := by
            rw [Nat.sub_mul]
            have : css.length * P.cellsOf e ≤ i * P.cellsOf e := Nat.mul_le_mul_right _ (by omega)
            omega
          exact .inr ⟨rfl, by omega, by omega⟩
        · exact hco'.cell i cs j y hi hj
        · rename_i hge
          obtain ⟨u, hu, hp⟩ := hf.cell _ cs j y hi hj
          have hlt := (List.getElem?_eq_some_iff.1 hu).1
          have e1 : i * P.cellsOf e + j = css.length * P.cellsOf e + ((i - css.length) * P.cellsOf e + j) := by
            rw [Nat.sub_mul]
            have : css.length * P.cellsOf e ≤ i * P.cellsOf e := Nat.mul_le_mul_right _ (by omega)
            omega
          have := World.cell?_setCells_in _ vs _ w hin ((i - css.length) * P.cellsOf e + j) hlt
          refine ⟨u, ?_, hp.mono imm⟩
          rw [show off + i * P.cellsOf e + j = off + css.length * P.cellsOf e + ((i - css.length) * P.cellsOf e + j) by omega, this]
          exact congrArg some (List.getElem?_eq_some_iff.1 hu).2
      · obtain ⟨cc, k1, k2⟩ := setCells_row vs (off + css.length * P.cellsOf e) w h1
        refine ⟨cc, T, fz, k1, by rw [k2]; exact h2, by rw [k2]; exact h3, fun o g1 g2 hI => ?_⟩
        rw [hlen, Nat.add_mul] at g1
        rcases hI with hI | ⟨_, _, hI⟩
        · exact h4 o (by omega) g2 hI
        · omega
    · left
      exact ⟨by simp [upd, ht], by rw [if_neg ht], fun he => ht (by injection he), fun i he => by injection he with _ h; cases h⟩
  · have hone := hf.one1
    have := run_storeCells_cells (P := P) b (off + css.length * P.cellsOf e) vs 0 w (fun j hj => by simpa using hin j hj) (fun j hj => by
      rw [Nat.add_zero]
      exact frozen_of_row h1 h3 _ (by omega)) hone
    simpa using this

/-- append to a slice that is known to hold css; c' is what comes of it. -/
theorem appGo (r : R P U N L0 G0 w0 G σ a w) {d : Nat} (hd : d < N) {t u : TypeId} {e : Nat} (hu : P.underlying t = some (.slice e)) (hs : srcOk P u = true) (hz : 1 ≤ P.cellsOf e) (hb1 : 1 ≤ P.bytesOf e) (hbytes : P.bytesOf e ≤ 1000000) (hzero : zeroOk U P e = true)
    {x y : Operand} {c c' cold : CV U.τ} {css dss : List (List (CV U.τ))} {f : Fl} {vs : List Value} (h1 : Opd (P := P) G σ w x (.one c) (a.eval x)) (hc : cont c = some (e, css, f)) (hc' : cont c' = some (e, css ++ dss, .app)) (hcold : f = .app → cold = c.plain) (hx : Src P U w G.I (P.cellsOf e) (a.eval y) dss vs)
    (hroom : ((css.length + dss.length : Nat) : Int) * P.bytesOf e ≤ roomI)
    (hdst : o.dst = some d) (hex : ∀ v w', (∀ ty, (Builtin.append_ #[t, u] ty #[a.eval x, a.eval y]).run P w = .ok v w') → (execOp a.eval o).run P w = .ok (.value v) w') {rd : List Nat} {ws : List (Nat × AV U.τ)}
    (h : Does P U σ (appWr d (opTmp x) f (.one c') (.one cold)) rd ws) : Goal P U N L0 G0 w0 σ o a w ws := by
  have hlen : (css ++ dss).length = css.length + dss.length := List.length_append
  have hroom' : ((css.length + dss.length : Nat) : Int) ≤ roomI := by
    have : ((css.length + dss.length : Nat) : Int) * 1 ≤ ((css.length + dss.length : Nat) : Int) * P.bytesOf e := Int.mul_le_mul_of_nonneg_left (by omega) (by omega)
    omega
  have hm : ((css ++ dss).length : Int) ≤ maxLenI := by rw [hlen]; unfold roomI at hroom'; unfold maxLenI; omega
  obtain ⟨z, hzr, hzs⟩ : ∃ z, (∀ w : World, (zeroValue e).run P w = .ok z w) ∧ z.cells.size = P.cellsOf e := by
    obtain ⟨z, h2, h3⟩ := zeroOk_ok (w := w) hzero
    refine ⟨z, fun w' => ?_, h3⟩
    obtain ⟨z', h4, _⟩ := zeroOk_ok (w := w') hzero
    have : z' = z := by
      have g : ∀ w : World, (zeroValue e).run P w = (match P.info? e with | some i => (match i.zero with | some v => .ok v w | none => .halt (.unsupported (.resourceLimit "a value of more than 2^22 cells")) w) | none => .halt (.stuck "no such type") w) := fun w => by
        cases hi : P.info? e with
        | none => simp [zeroValue, typeInfo, hi]
        | some i => cases hz : i.zero <;> simp [zeroValue, typeInfo, hi, hz]
      rw [g] at h2 h4
      cases hi : P.info? e with
      | none => rw [hi] at h2; cases h2
      | some i =>
        rw [hi] at h2 h4
        cases hz : i.zero with
        | none => simp only [hz] at h2; cases h2
        | some v => simp only [hz] at h2 h4; injection h2 with h2; injection h4 with h4; rw [← h4, h2]
    rw [← this]; exact h4
  have goal : ∀ v w', (∀ ty, (Builtin.append_ #[t, u] ty #[a.eval x, a.eval y]).run P w = .ok v w') → (∃ G', R P U N L0 G0 w0 G' (updsσ σ ws) (a.put (some d) v) w') → Goal P U N L0 G0 w0 σ o a w ws := by
    intro v w' hr hR
    unfold Goal Goes
    rw [hex v w' hr, hdst]
    exact hR
  -- what is there already
  have base : ∃ us, Src P U w G.I (P.cellsOf e) (a.eval x) css us ∧ ∃ bs cap, a.eval x = .slice bs css.length cap ∧ (bs = none → css = [] ∧ cap = 0) ∧ css.length ≤ cap ∧ (f = .tight → cap = css.length) := by
    obtain ⟨_, ⟨h2, h3⟩ | ⟨h2, h3, p, cap, h4⟩ | ⟨b, off, cap, h2, h3, h4, h5⟩⟩ := h1.slice hc
    · subst h2
      exact ⟨[], by rw [h3]; exact Src.of_nil, none, 0, h3, fun _ => ⟨rfl, rfl⟩, by simp, fun _ => rfl⟩
    · subst h2; exact h.of_fail.elim
    · obtain ⟨us, h6⟩ := Src.of_slice (cap := cap) h5
      exact ⟨us, by rw [h2]; exact h6, some ⟨b, off, none⟩, cap, h2, (fun hh => by cases hh), h3, h4⟩
  obtain ⟨us, hsrc, bs, cap, hux, hnone, hcap, htight⟩ := base
  -- growth, from whatever state in which nothing is lost
  have growth : ∀ {G1 : Ghost} {σ1 : Slots U}, R P U N L0 G0 w0 G1 σ1 a w → G1.I = G.I → (σ1 d).owner = false → cap < css.length + dss.length → (upd σ1 d (.one c') = updsσ σ ws) → Goal P U N L0 G0 w0 σ o a w ws := by
    intro G1 σ1 r1 hI ho hlt hσ
    have hall : ∃ newCap w', css.length + dss.length ≤ newCap ∧ (∀ ty, (Builtin.append_ #[t, u] ty #[a.eval x, a.eval y]).run P w = .ok (.slice (some ⟨w.heap.size, 0, none⟩) (css.length + dss.length) newCap) w') ∧
        w'.os = w.os ∧ w'.tape = w.tape ∧ w'.output = w.output ∧ ∃ cells : Array Value, w'.heap = w.heap.push (.cells cells e) ∧ cells.size = newCap * P.cellsOf e ∧ ∀ (q : Nat) u, (us ++ vs)[q]? = some u → cells[q]? = some u := by
      obtain ⟨nc, w', g1, g2, g3⟩ := run_append_out (ty := 0) hu hs hz hbytes hux hsrc hx hlt hroom hroom' hzr hzs
      exact ⟨nc, w', g1, fun ty => g2, g3⟩
    obtain ⟨nc, w', g1, g2, g3, g4, g5, cells, g6, g7, g8⟩ := hall
    have hf := hsrc.flat.append hx.flat
    rw [← hI] at hf
    have := r1.grow hd ho hc' hf hm (by rw [hlen]; exact g1) g3 g4 g5 g6 g7 g8
    rw [hlen, hσ] at this
    exact goal _ _ g2 this
  -- nothing is appended, or there is room
  have inPlace : ∀ w', (stAt bs (css.length * P.cellsOf e) vs).run P w = .ok () w' → css.length + dss.length ≤ cap → ∀ ty, (Builtin.append_ #[t, u] ty #[a.eval x, a.eval y]).run P w = .ok (.slice bs (css.length + dss.length) cap) w' := by
    intro w' hst hle ty
    rw [hux]
    exact run_append_in hu hs hz hx hle hst
  have nilCase : dss = [] → vs = [] := fun hd => List.length_eq_zero_iff.1 (by rw [hx.flat.size, hd]; simp)
  have nilRun : dss = [] → (stAt bs (css.length * P.cellsOf e) vs).run P w = .ok () w := fun hd => by rw [nilCase hd]; cases bs <;> rfl
  cases f with
  | ro => exact h.of_fail.elim
  | tight =>
    have hct := htight rfl
    have h : Does P U σ (wr (some d) (.one c')) rd ws := by cases hx0 : opTmp x <;> rw [hx0] at h <;> exact h
    rcases h.of_wr with ⟨k1, _⟩ | ⟨d', k1, k2, k3⟩
    · cases k1
    · injection k1 with k1; subst k1
      by_cases hds : dss = []
      · have hrun := inPlace w (nilRun hds) (by rw [hds]; simpa using hcap)
        refine goal _ _ hrun ⟨G, ?_⟩
        rw [k2]
        refine r.putAt hd k3 rfl (slot_app hc' ?_)
        have hcd : css ++ dss = css := by rw [hds, List.append_nil]
        rw [hcd] at hc' hm
        refine ⟨e, css, hc', hm, ?_⟩
        obtain ⟨_, ⟨h2, h3⟩ | ⟨h2, _⟩ | ⟨b, off, cap', h2, h3, h4, h5⟩⟩ := h1.slice hc
        · rw [hux] at h3
          injection h3 with e1 e2 e3
          exact .inl ⟨h2, by rw [e1, hds, e2, e3]; rfl⟩
        · cases h2
        · rw [hux] at h2
          injection h2 with e1 _ e3
          exact .inr ⟨b, off, cap, by rw [e1, hds]; rfl, hcap, h5, .inl hct⟩
      · have hpos : 0 < dss.length := List.length_pos_iff.2 hds
        exact growth r rfl k3 (by omega) (by rw [k2]; rfl)
  | app =>
    cases hx0 : opTmp x with
    | none => rw [hx0] at h; exact h.of_fail.elim
    | some y0 =>
      rw [hx0] at h
      obtain ⟨hne, h⟩ := Does.of_cond' h
      have hne : y0 ≠ d := fun he => by rw [he, Nat.beq_refl] at hne; cases hne
      have hx1 : x = .tmp y0 := by cases x <;> simp [opTmp] at hx0; rw [hx0]
      have hcold := hcold rfl
      subst hcold
      obtain ⟨t', _, ht'⟩ := h1.ok
      have hσy : σ y0 = .one c ∧ y0 < vbase := by
        rcases ht' with ⟨g2, g3, g4⟩ | ⟨g2, _⟩
        · rw [hx0] at g2; injection g2 with g2; subst g2
          refine ⟨?_, g3⟩
          cases hσ : σ y0 with
          | box cs => rw [hσ] at g4; simp only [asVal] at g4; injection g4 with g4; subst g4; simp [cont] at hc
          | bblk e y q => rw [hσ] at g4; simp only [asVal] at g4; injection g4 with g4; subst g4; simp [cont] at hc
          | _ => rw [hσ] at g4; exact g4.symm
        · rw [hx0] at g2; cases g2
      rcases h.of_wr with ⟨k1, _⟩ | ⟨d', k1, k2, k3⟩
      · cases k1
      · injection k1 with k1; subst k1
        obtain ⟨G1, r1, happ, hloc, hI⟩ := r.giveTo hσy.1 hσy.2 hc (d, none) (fun he => hne (by injection he with he _; exact he.symm))
        have ho1 : ((upd σ y0 (.one c.plain)) d).owner = false := by simp only [upd, Ne.symm hne, if_false]; exact k3
        have hσ : upd (upd σ y0 (.one c.plain)) d (.one c') = updsσ σ ws := by
          rw [k2]
          funext z
          simp only [updsσ, upd]
          by_cases z1 : z = y0
          · simp [z1, hne]
          · simp [z1]
        have hval : a.tmps.getD y0 undef = a.eval x := by rw [hx1]; rfl
        rw [hval] at happ
        by_cases hds : dss = []
        · have hrun := inPlace w (nilRun hds) (by rw [hds]; simpa using hcap)
          refine goal _ _ hrun ⟨G1, ?_⟩
          have hcd : css ++ dss = css := by rw [hds, List.append_nil]
          rw [hcd] at hc'
          have hv : (Value.slice bs (css.length + dss.length) cap) = a.eval x := by rw [hux, hds]; rfl
          rw [← hσ, hv]
          exact r1.putAt hd ho1 rfl (slot_app hc' (happ.cont hc hc'))
        · by_cases hlt : cap < css.length + dss.length
          · exact growth r1 hI ho1 hlt hσ
          · obtain ⟨e1, css1, m1, _, m3⟩ := happ
            rw [hc] at m1
            simp only [Option.some.injEq, Prod.mk.injEq] at m1
            obtain ⟨rfl, rfl, _⟩ := m1
            have hpos : 0 < dss.length := List.length_pos_iff.2 hds
            rcases m3 with ⟨m3, m4⟩ | ⟨b, off, cap', m3, m4, m5, m6⟩
            · rw [hux] at m4; injection m4 with e1 e2 e3; omega
            · rw [hux] at m3
              injection m3 with e1 _ e3
              subst e3
              rcases m6 with m6 | ⟨m6, m7⟩
              · omega
              · have hf := hx.flat
                rw [← hI] at hf
                obtain ⟨R1, R2⟩ := r1.push hd ho1 hc' m5 hf hm (by omega) m6 m7
                rw [hσ] at R1
                refine goal _ _ (inPlace _ (by rw [e1]; simp only [stAt, Addr.add_none]; exact R2) (by omega)) ?_
                rw [e1]
                exact R1

end
end Go.VI
