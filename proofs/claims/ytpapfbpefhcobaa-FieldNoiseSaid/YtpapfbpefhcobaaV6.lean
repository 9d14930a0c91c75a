import Derived.Test.YtpapfbpefhcobaaV5
/-! Addresses, parts, slices, conversions. -/
set_option linter.unusedVariables false
set_option linter.unusedSimpArgs false
namespace Go.VI
open Go

section
variable {P : Program} {U : Univ} {N : Nat} {L0 : Nat → Nat} {G0 : Ghost} {w0 : World} {G : Ghost} {σ : Slots U} {a : Act} {w : World} {o : Oper} {adv : Adv}

theorem Nat.le_of_ble' {a b : Nat} (h : Nat.ble a b = true) : a ≤ b := Nat.le_of_ble_eq_true h

theorem getElem?_drop' {α : Type} (l : List α) (n j : Nat) : (l.drop n)[j]? = l[n + j]? := by simp [List.getElem?_drop]

theorem op_fieldAddr (r : R P U N L0 G0 w0 G σ a w) (hd : ∀ d, o.dst = some d → d < N) {t : TypeId} {x : Operand} {j : Nat} (ho : o.op = .fieldAddr t x j) {rd : List Nat} {ws : List (Nat × AV U.τ)} (h : Does P U σ (opTree P adv o) rd ws) :
    Goal P U N L0 G0 w0 σ o a w ws := by
  simp only [opTree, ho] at h
  split at h
  · rename_i fs hu
    cases hj : fs[j]? with
    | none => rw [hj] at h; exact h.of_fail.elim
    | some f =>
      rw [hj] at h
      obtain ⟨hz, h⟩ := Does.of_cond' h
      have hz1 : 1 ≤ P.cellsOf f.type := by
        rcases Nat.eq_zero_or_pos (P.cellsOf f.type) with h0 | h0
        · rw [h0] at hz; cases hz
        · exact h0
      have run : ∀ b o', a.eval x = .pointer (some ⟨b, o', none⟩) → (execOp a.eval o).run P w = .ok (.value (.pointer (some ⟨b, o' + f.offset, none⟩))) w := by
        intro b o' he
        have hne : ¬ P.cellsOf f.type = 0 := by omega
        simp [execOp, ho, he, Instr.fieldAt, run_underlying hu, hj, Instr.sureAddr, fieldPlace, run_sizeOf hz1, hne, Addr.add_none]
      obtain ⟨v, _, h1, h⟩ := r.opd h
      cases v with
      | one c =>
        cases c with
        | ref s off =>
          obtain ⟨⟨cs, hb⟩, he⟩ := h1.ref
          exact r.value hd (run _ _ he) h rfl fun _ => ⟨⟨cs, hb⟩, by rw [Nat.add_assoc]⟩
        | _ => exact h.of_fail.elim
      | im cs =>
        obtain ⟨b, off, he, hc⟩ := h1.im
        refine r.value hd (run _ _ he) h rfl fun _ => ⟨b, off + f.offset, rfl, fun i c hi => ?_⟩
        rw [getElem?_drop'] at hi
        have := hc _ c hi
        rwa [← Nat.add_assoc] at this
      | _ => exact h.of_fail.elim
  · exact h.of_fail.elim

theorem takeCells_some {cs l : List (CV U.τ)} {off n : Nat} (h : takeCells cs off n = some l) : off + n ≤ cs.length ∧ l = (cs.drop off).take n := by
  unfold takeCells at h
  cases hb : Nat.ble (off + n) cs.length with
  | false => rw [hb] at h; cases h
  | true =>
    rw [hb] at h
    injection h with h
    exact ⟨Nat.le_of_ble_eq_true hb, h.symm⟩

theorem run_part_agg {t : TypeId} {d : TypeDesc} (ht : P.underlying t = some d) (h : rowT d = true) (hz : 1 ≤ P.cellsOf t) (us : Array Value) (off : Nat) (w : World) :
    (part t us off).run P w = .ok (.agg (us.extract off (off + P.cellsOf t))) w := by
  simp only [part, Sem.run_bind, run_isAgg' ht, h, Result.andThen_ok, if_true, run_sizeOf hz]
  rfl

/-- A part of a value. -/
theorem partOf_agg {t : TypeId} {cs : List (CV U.τ)} {off : Nat} {v : AV U.τ} (h : partOf P t cs off = some v) (hz : 1 ≤ P.cellsOf t) {us : Array Value} (hs : us.size = cs.length) (hc : ∀ (j : Nat) c, cs[j]? = some c → ∃ y, us[j]? = some y ∧ PC P U w G.I c y) :
    v.owner = false ∧ ∃ u, (part t us off).run P w = .ok u w ∧ ∀ t', SlotOk P U G σ w t' v u := by
  have ag : ∀ d, P.underlying t = some d → rowT d = true → (takeCells cs off (P.cellsOf t)).map (fun l => AV.agg (l.map CV.plain)) = some v → v.owner = false ∧ ∃ u, (part t us off).run P w = .ok u w ∧ ∀ t', SlotOk P U G σ w t' v u := by
    intro d hu hr h
    cases hl : takeCells cs off (P.cellsOf t) with
    | none => rw [hl] at h; cases h
    | some l =>
      rw [hl] at h
      injection h with h; subst h
      obtain ⟨h1, rfl⟩ := takeCells_some hl
      refine ⟨rfl, _, run_part_agg hu hr hz us off w, fun _ => ⟨_, rfl, ?_, fun j c hj => ?_⟩⟩
      · simp; omega
      · rw [List.getElem?_map] at hj
        cases hx : (List.take (P.cellsOf t) (List.drop off cs))[j]? with
        | none => rw [hx] at hj; cases hj
        | some c0 =>
          rw [hx] at hj
          injection hj with hj; subst hj
          rw [List.getElem?_take] at hx
          split at hx
          · rename_i hlt
            rw [getElem?_drop'] at hx
            obtain ⟨y, hy, hpc⟩ := hc _ _ hx
            refine ⟨y, ?_, hpc.plain⟩
            rw [Array.getElem?_extract]
            have : off + j < us.size := (Array.getElem?_eq_some_iff.1 hy).1
            rw [if_pos (by omega)]
            exact hy
          · cases hx
  have one : ∀ d, P.underlying t = some d → rowT d = false → (match cs[off]? with | some c => some (AV.one c) | none => none) = some v → v.owner = false ∧ ∃ u, (part t us off).run P w = .ok u w ∧ ∀ t', SlotOk P U G σ w t' v u := by
    intro d hu hr h
    cases hx : cs[off]? with
    | none => rw [hx] at h; cases h
    | some c =>
      rw [hx] at h
      injection h with h; subst h
      obtain ⟨y, hy, hpc⟩ := hc _ _ hx
      exact ⟨rfl, y, run_part_one hu hr us off hy w, fun _ => SlotOk.of_pc hpc⟩
  unfold partOf at h
  split at h
  · rename_i hu; exact ag _ hu rfl h
  · rename_i hu; exact ag _ hu rfl h
  · rename_i d h1 h2 hu
    exact one d hu (by cases d <;> first | rfl | (exact absurd hu (by simp_all))) h
  · cases h

theorem op_field (r : R P U N L0 G0 w0 G σ a w) (hd : ∀ d, o.dst = some d → d < N) {t : TypeId} {x : Operand} {j : Nat} (ho : o.op = .field t x j) {rd : List Nat} {ws : List (Nat × AV U.τ)} (h : Does P U σ (opTree P adv o) rd ws) :
    Goal P U N L0 G0 w0 σ o a w ws := by
  simp only [opTree, ho] at h
  split at h
  · rename_i fs hu
    cases hj : fs[j]? with
    | none => rw [hj] at h; exact h.of_fail.elim
    | some f =>
      rw [hj] at h
      obtain ⟨hz, h⟩ := Does.of_cond h
      obtain ⟨v, _, h1, h⟩ := r.opd h
      cases v with
      | agg cs =>
        obtain ⟨us, he, hs, hc⟩ := h1.agg
        simp only at h
        cases hp : partOf P f.type cs f.offset with
        | none => rw [hp] at h; exact h.of_fail.elim
        | some v =>
          rw [hp] at h
          obtain ⟨k1, u, k2, k3⟩ := partOf_agg (σ := σ) (G := G) hp (Nat.le_of_ble_eq_true hz) hs hc
          exact r.value hd (by simp [execOp, ho, he, Instr.field, run_underlying hu, hj, asAgg, k2]) h k1 k3
      | _ => exact h.of_fail.elim
  · exact h.of_fail.elim

theorem isStr_ok {t : TypeId} (hb : isStr P t = true) : P.underlying t = some .string := by
  unfold isStr at hb
  split at hb
  · assumption
  · cases hb

theorem has_u8 (y : UInt8) : IntKind.u8.has (y.toNat : Int) := by
  unfold IntKind.has IntKind.min IntKind.max
  have := y.toNat_lt
  simp [IntKind.bits, IntKind.signed]; omega

theorem bytes_get {s : List UInt8} {n : Nat} {y : UInt8} (h : s[n]? = some y) : (⟨⟨s⟩⟩ : ByteArray)[n]? = some y := by
  obtain ⟨hlt, h2⟩ := List.getElem?_eq_some_iff.1 h
  have : n < (⟨⟨s⟩⟩ : ByteArray).size := hlt
  rw [getElem?_pos (⟨⟨s⟩⟩ : ByteArray) n this]
  exact congrArg some h2

theorem pickIx_ok {i : Int} {k : Nat → Tree U} : ∀ (n j : Nat) {rd : List Nat} {ws : List (Nat × AV U.τ)}, Does P U σ (pickIx i n k j) rd ws → ∃ m, m < n ∧ i = ((j + m : Nat) : Int) ∧ Does P U σ (k (j + m)) rd ws
  | 0, j, rd, ws, h => h.of_fail.elim
  | n + 1, j, rd, ws, h => by
    rcases h.of_ite with ⟨h1, h⟩ | ⟨h1, h⟩
    · exact ⟨0, by omega, by simpa using h1, h⟩
    · obtain ⟨m, h2, h3, h4⟩ := pickIx_ok n (j + 1) h
      exact ⟨m + 1, by omega, by rw [h3]; omega, by rw [show j + (m + 1) = j + 1 + m by omega]; exact h4⟩

theorem op_index (r : R P U N L0 G0 w0 G σ a w) (hd : ∀ d, o.dst = some d → d < N) {t : TypeId} {x i : Operand} (ho : o.op = .index t x i) {rd : List Nat} {ws : List (Nat × AV U.τ)} (h : Does P U σ (opTree P adv o) rd ws) :
    Goal P U N L0 G0 w0 σ o a w ws := by
  simp only [opTree, ho] at h
  obtain ⟨v, _, h1, h⟩ := r.opd h
  obtain ⟨k, n, _, he, hk, h⟩ := r.int h
  cases v with
  | one c =>
    cases c with
    | str s =>
      obtain ⟨hb, h⟩ := Does.of_cond h
      obtain ⟨hn, h⟩ := h.of_guard
      obtain ⟨y, hy, h⟩ := h.of_opt
      have hu := isStr_ok hb
      refine r.valuePC hd (u := .int .u8 y.toNat) ?_ h (.int _ _ (has_u8 y))
      have hy' : (⟨⟨s⟩⟩ : ByteArray)[n.toNat]? = some y := bytes_get hy
      simp [execOp, ho, h1.str.1, he, Instr.index, asIntOf, run_underlying hu, hn, hy']
    | _ => exact h.of_fail.elim
  | agg cs =>
    simp only at h
    split at h
    · rename_i m e hu
      obtain ⟨hz, h⟩ := Does.of_cond h
      obtain ⟨q, hq, hi, h⟩ := pickIx_ok m 0 h
      rw [Nat.zero_add] at hi h
      obtain ⟨us, hus, hs, hc⟩ := h1.agg
      cases hp : partOf P e cs (q * P.cellsOf e) with
      | none => rw [hp] at h; exact h.of_fail.elim
      | some v =>
        rw [hp] at h
        obtain ⟨k1, u, k2, k3⟩ := partOf_agg (σ := σ) (G := G) hp (Nat.le_of_ble_eq_true hz) hs hc
        have hlt : (0 : Int) ≤ n ∧ n < m := by omega
        have hqn : n.toNat = q := by omega
        refine r.value hd ?_ h k1 k3
        simp [execOp, ho, hus, he, Instr.index, asIntOf, run_underlying hu, hlt, hqn, run_sizeOf (Nat.le_of_ble_eq_true hz), k2]
    · exact h.of_fail.elim
  | _ => exact h.of_fail.elim

theorem sliceOf_ok {t : TypeId} {e : Nat} {k : Tree U} {rd : List Nat} {ws : List (Nat × AV U.τ)} (h : Does P U σ (sliceOf P t e k) rd ws) : P.underlying t = some (.slice e) ∧ 1 ≤ P.cellsOf e ∧ Does P U σ k rd ws := by
  unfold sliceOf at h
  split at h
  · rename_i e' hu
    obtain ⟨hb, h2⟩ := Does.of_cond h
    simp only [Bool.and_eq_true] at hb
    have he : e' = e := Nat.eq_of_beq_eq_true hb.1
    exact ⟨by rw [hu, he], Nat.le_of_ble_eq_true hb.2, h2⟩
  · exact h.of_fail.elim

/-- A slice in a slot: what it holds. -/
theorem Opd.slice {x : Operand} {c : CV U.τ} {u : Value} {e : Nat} {css : List (List (CV U.τ))} {f : Fl} (h : Opd (P := P) G σ w x (.one c) u) (hc : cont c = some (e, css, f)) :
    (css.length : Int) ≤ maxLenI ∧ ((css = [] ∧ u = .slice none 0 0) ∨ (f = .ro ∧ css = [] ∧ ∃ p cap, u = .slice (some p) 0 cap) ∨ ∃ b off cap, u = .slice (some ⟨b, off, none⟩) css.length cap ∧ css.length ≤ cap ∧ (f = .tight → cap = css.length) ∧ Cont P U w G.I b off (P.cellsOf e) css) := by
  obtain ⟨t, h1, _⟩ := h.ok
  have h2 : CellOk P U w G.I G.who (t, none) c u := by
    cases c <;> first | (simp [cont] at hc; done) | exact h1
  rcases h2 with h2 | ⟨e', css', h3, h4, h5⟩
  · exact (h2.slice hc).2
  · rw [hc] at h3
    simp only [Option.some.injEq, Prod.mk.injEq] at h3
    obtain ⟨rfl, rfl, rfl⟩ := h3
    refine ⟨h4, ?_⟩
    rcases h5 with h5 | ⟨b, off, cap, h5, h6, h7, _⟩
    · exact .inl h5
    · exact .inr (.inr ⟨b, off, cap, h5, h6, by simp, h7⟩)

theorem indexAt_run {t : TypeId} {e : Nat} (hu : P.underlying t = some (.slice e)) (hz : 1 ≤ P.cellsOf e) (b off len cap : Nat) (k : IntKind) (n : Int) (h0 : 0 ≤ n) (h1 : n < len) (w : World) :
    (Instr.indexAt t (.slice (some ⟨b, off, none⟩) len cap) (.int k n)).run P w = .ok (.pointer (some ⟨b, off + n.toNat * P.cellsOf e, none⟩)) w := by
  simp [Instr.indexAt, asIntOf, run_underlying hu, h0, h1, run_sizeOf hz, Addr.add_none]

theorem op_indexAddr (r : R P U N L0 G0 w0 G σ a w) (hd : ∀ d, o.dst = some d → d < N) {t : TypeId} {x i : Operand} (ho : o.op = .indexAddr t x i) {rd : List Nat} {ws : List (Nat × AV U.τ)} (h : Does P U σ (opTree P adv o) rd ws) :
    Goal P U N L0 G0 w0 σ o a w ws := by
  simp only [opTree, ho] at h
  obtain ⟨v, _, h1, h⟩ := r.opd h
  obtain ⟨k, n, _, he, hk, h⟩ := r.int h
  have im : ∀ (c : CV U.τ) (e : Nat) (css : List (List (CV U.τ))) (f : Fl) (cs : List (CV U.τ)) (rd' : List Nat), v = .one c → cont c = some (e, css, f) → P.underlying t = some (.slice e) → 1 ≤ P.cellsOf e → 0 ≤ n → css[n.toNat]? = some cs →
      Does P U σ (wr o.dst (.im cs)) rd' ws → Goal P U N L0 G0 w0 σ o a w ws := by
    intro c e css f cs rd' hv hc hu hz hn hi hw
    subst hv
    have hlt : n.toNat < css.length := (List.getElem?_eq_some_iff.1 hi).1
    obtain ⟨_, ⟨hnil, _⟩ | ⟨_, hnil, _⟩ | ⟨b, off, cap, hu', _, _, hco⟩⟩ := h1.slice hc
    · rw [hnil] at hlt; simp at hlt
    · rw [hnil] at hlt; simp at hlt
    · refine r.value hd (u := .pointer (some ⟨b, off + n.toNat * P.cellsOf e, none⟩)) ?_ hw rfl fun _ => ⟨b, off + n.toNat * P.cellsOf e, rfl, fun j y hj => ⟨hco.imm _ _ _ _ hi hj, hco.cell _ _ _ _ hi hj⟩⟩
      simp [execOp, ho, hu', he, indexAt_run hu hz b off css.length cap k n hn (by omega) w]
  cases v with
  | one c =>
    cases c with
    | sl e xs f =>
      obtain ⟨hu, hz, h⟩ := sliceOf_ok h
      obtain ⟨hn, h⟩ := h.of_guard
      obtain ⟨y, hy, h⟩ := h.of_opt
      exact im _ e (xs.map (U.enc e)) f (U.enc e y) _ rfl rfl hu hz hn (by rw [List.getElem?_map, hy]; rfl) h
    | bs e s f =>
      obtain ⟨hu, hz, h⟩ := sliceOf_ok h
      obtain ⟨hn, h⟩ := h.of_guard
      obtain ⟨y, hy, h⟩ := h.of_opt
      exact im _ e (s.map fun b => [.int .u8 b.toNat]) f _ _ rfl rfl hu hz hn (by rw [List.getElem?_map, hy]; rfl) h
    | ref s off =>
      obtain ⟨⟨cs, hb⟩, hp⟩ := h1.ref
      simp only at h
      split at h
      · rename_i m e hu
        obtain ⟨hz, h⟩ := Does.of_cond h
        obtain ⟨q, hq, hi, h⟩ := pickIx_ok m 0 h
        rw [Nat.zero_add] at hi h
        have hz := Nat.le_of_ble_eq_true hz
        have hlt : (0 : Int) ≤ n ∧ n < m := by omega
        have hqn : n.toNat = q := by omega
        refine r.value hd (u := .pointer (some ⟨(G.loc s).1, (G.loc s).2 + (off + q * P.cellsOf e), none⟩)) ?_ h rfl fun _ => ⟨⟨cs, hb⟩, rfl⟩
        simp [execOp, ho, hp, he, Instr.indexAt, asIntOf, run_underlying hu, Instr.sureAddr, hlt, hqn, run_sizeOf hz, Addr.add_none, Nat.add_assoc]
      · exact h.of_fail.elim
    | sref s =>
      obtain ⟨e0, y0, q0, cap, hs, hu', hl, _⟩ := h1.sref
      obtain ⟨_, h⟩ := h.of_read
      rw [hs] at h
      obtain ⟨hu, hz, h⟩ := sliceOf_ok h
      obtain ⟨hn, h⟩ := h.of_guard
      have hblk := r.slots s
      rw [hs] at hblk
      have h1sz := hblk.2.sz
      refine r.value hd (u := .pointer (some ⟨(G.loc s).1, (G.loc s).2 + n.toNat, none⟩)) ?_ h rfl fun _ => ⟨⟨_, _, _, hs⟩, rfl⟩
      simp [execOp, ho, hu', he, indexAt_run hu hz (G.loc s).1 (G.loc s).2 y0.length cap k n hn.1 hn.2 w, h1sz]
    | _ => exact h.of_fail.elim
  | im cs =>
    obtain ⟨b, off, hp, hc⟩ := h1.im
    simp only at h
    split at h
    · rename_i m e hu
      obtain ⟨hz, h⟩ := Does.of_cond h
      obtain ⟨q, hq, hi, h⟩ := pickIx_ok m 0 h
      rw [Nat.zero_add] at hi h
      have hz := Nat.le_of_ble_eq_true hz
      have hlt : (0 : Int) ≤ n ∧ n < m := by omega
      have hqn : n.toNat = q := by omega
      refine r.value hd (u := .pointer (some ⟨b, off + q * P.cellsOf e, none⟩)) ?_ h rfl fun _ => ⟨b, _, rfl, fun j c hj => ?_⟩
      · simp [execOp, ho, hp, he, Instr.indexAt, asIntOf, run_underlying hu, Instr.sureAddr, hlt, hqn, run_sizeOf hz, Addr.add_none]
      · rw [getElem?_drop'] at hj
        have := hc _ c hj
        rwa [← Nat.add_assoc] at this
    · exact h.of_fail.elim
  | _ => exact h.of_fail.elim

end
end Go.VI
