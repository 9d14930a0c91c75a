import Derived.Test.YtpapfbpefhcobaaV6
/-! Slices, conversions, lengths, literals, loads. -/
set_option linter.unusedVariables false
set_option linter.unusedSimpArgs false
namespace Go.VI
open Go

section
variable {P : Program} {U : Univ} {N : Nat} {L0 : Nat → Nat} {G0 : Ghost} {w0 : World} {G : Ghost} {σ : Slots U} {a : Act} {w : World} {o : Oper} {adv : Adv}

theorem cut_eq {α : Type} (s : List α) (l h : Option Nat) : cut s l h = (s.take (h.getD s.length)).drop (l.getD 0) := by
  cases l <;> cases h <;> simp [cut]

theorem boundsT_ok (r : R P U N L0 G0 w0 G σ a w) {n : Nat} {lo hi : Option Operand} {k : Option Nat → Option Nat → Tree U} {rd : List Nat} {ws : List (Nat × AV U.τ)} (h : Does P U σ (boundsT P n lo hi k) rd ws) :
    ∃ l q rd', Does P U σ (k l q) rd' ws ∧ l.getD 0 ≤ q.getD n ∧ q.getD n ≤ n ∧
      ∀ isSlice cap, n ≤ cap → (Instr.sliceBounds isSlice n cap (lo.map a.eval) (hi.map a.eval) none).run P w = .ok (l.getD 0, q.getD n, cap) w := by
  cases lo with
  | none =>
    cases hi with
    | none => exact ⟨none, none, _, h, by simp, by simp, fun isSlice cap hc => by simp [Instr.sliceBounds]⟩
    | some b =>
      obtain ⟨kb, hb, _, eb, _, h⟩ := r.int h
      obtain ⟨hp, h⟩ := h.of_guard
      refine ⟨_, _, _, h, by simp, by simp; omega, fun isSlice cap hc => ?_⟩
      simp [Instr.sliceBounds, eb, run_sliceBound (P := P) w kb hb cap _ hp.1 (by omega)]
  | some x =>
    cases hi with
    | none =>
      obtain ⟨kx, hx, _, ex, _, h⟩ := r.int h
      obtain ⟨hp, h⟩ := h.of_guard
      refine ⟨_, _, _, h, by simp; omega, by simp, fun isSlice cap hc => ?_⟩
      simp [Instr.sliceBounds, ex, run_sliceBound (P := P) w kx hx n _ hp.1 hp.2]
    | some b =>
      obtain ⟨kx, hx, _, ex, _, h⟩ := r.int h
      obtain ⟨kb, hb, _, eb, _, h⟩ := r.int h
      obtain ⟨hp, h⟩ := h.of_guard
      refine ⟨_, _, _, h, by simp; omega, by simp; omega, fun isSlice cap hc => ?_⟩
      simp [Instr.sliceBounds, ex, eb, run_sliceBound (P := P) w kb hb cap _ (by omega) (by omega), run_sliceBound (P := P) w kx hx hb.toNat _ hp.1 (by omega)]

theorem bytes_extract (s : List UInt8) (l h : Nat) : (⟨⟨s⟩⟩ : ByteArray).extract l h = ⟨⟨(s.take h).drop l⟩⟩ := by
  apply ByteArray.ext
  apply Array.ext'
  simp [ByteArray.data_extract, List.drop_take]

theorem Cont.cut {I : Nat → Nat → Prop} {b off sz : Nat} {css : List (List (CV U.τ))} (h : Cont P U w I b off sz css) (l q : Nat) : Cont P U w I b (off + l * sz) sz ((css.take q).drop l) := by
  have at_ : ∀ (i : Nat) cs, ((css.take q).drop l)[i]? = some cs → css[l + i]? = some cs := by
    intro i cs hi
    rw [getElem?_drop', List.getElem?_take] at hi
    split at hi
    · exact hi
    · cases hi
  have sum : ∀ i j, off + l * sz + i * sz + j = off + (l + i) * sz + j := fun i j => by rw [Nat.add_mul]; omega
  refine ⟨fun i cs hi => h.len _ _ (at_ i cs hi), fun i cs j x hi hj => ?_, fun i cs j x hi hj => ?_⟩
  · rw [sum]; exact h.imm _ _ _ _ (at_ i cs hi) hj
  · rw [sum]; exact h.cell _ _ _ _ (at_ i cs hi) hj

theorem op_slice (r : R P U N L0 G0 w0 G σ a w) (hd : ∀ d, o.dst = some d → d < N) {t : TypeId} {x : Operand} {lo hi mx : Option Operand} (ho : o.op = .slice t x lo hi mx) {rd : List Nat} {ws : List (Nat × AV U.τ)} (h : Does P U σ (opTree P adv o) rd ws) :
    Goal P U N L0 G0 w0 σ o a w ws := by
  simp only [opTree, ho] at h
  cases mx with
  | some _ => exact h.of_fail.elim
  | none =>
    obtain ⟨v, _, h1, h⟩ := r.opd h
    have sl : ∀ (c c' : CV U.τ) (e : Nat) (css : List (List (CV U.τ))) (f : Fl) (l q : Option Nat) (rd' : List Nat), v = .one c → cont c = some (e, css, f) → cont c' = some (e, (css.take (q.getD css.length)).drop (l.getD 0), .ro) → P.underlying t = some (.slice e) → 1 ≤ P.cellsOf e →
        l.getD 0 ≤ q.getD css.length → q.getD css.length ≤ css.length →
        (∀ isSlice cap, css.length ≤ cap → (Instr.sliceBounds isSlice css.length cap (lo.map a.eval) (hi.map a.eval) none).run P w = .ok (l.getD 0, q.getD css.length, cap) w) →
        Does P U σ (wr o.dst (.one c')) rd' ws → Goal P U N L0 G0 w0 σ o a w ws := by
      intro c c' e css f l q rd' hv hc hc' hu hz g1 g2 g3 hw
      subst hv
      have hlen : ((css.take (q.getD css.length)).drop (l.getD 0)).length = q.getD css.length - l.getD 0 := by
        rw [List.length_drop, List.length_take]; omega
      obtain ⟨hm, ⟨hnil, hu'⟩ | ⟨_, hnil, p, cap, hu'⟩ | ⟨b, off, cap, hu', hcap, _, hco⟩⟩ := h1.slice hc
      · have hl0 : css.length = 0 := by rw [hnil]; rfl
        have hq0 : q.getD css.length = 0 := by omega
        have hl1 : l.getD 0 = 0 := by omega
        have hn : (css.take (q.getD css.length)).drop (l.getD 0) = [] := List.length_eq_zero_iff.1 (by omega)
        rw [hn] at hc'
        refine r.valuePC hd (u := .slice none 0 0) ?_ hw (.nil _ _ _ hc' (by simp))
        have := g3 true 0 (by omega)
        rw [hl0] at this hq0
        simp [execOp, ho, hu', Instr.sliceAt, Instr.slice, run_underlying hu, this, run_sizeOf hz, hq0, hl1]
      · have hl0 : css.length = 0 := by rw [hnil]; rfl
        have hq0 : q.getD css.length = 0 := by omega
        have hl1 : l.getD 0 = 0 := by omega
        have hn : (css.take (q.getD css.length)).drop (l.getD 0) = [] := List.length_eq_zero_iff.1 (by omega)
        rw [hn] at hc'
        refine r.valuePC hd (u := .slice (some p) 0 cap) ?_ hw (.emp _ _ _ _ hc')
        have := g3 true cap (by omega)
        rw [hl0] at this hq0
        simp [execOp, ho, hu', Instr.sliceAt, Instr.slice, run_underlying hu, this, run_sizeOf hz, hq0, hl1, Addr.add]
      · have := g3 true cap hcap
        have hrun : (execOp a.eval o).run P w = .ok (.value (.slice (if cap = l.getD 0 then some ⟨b, off, none⟩ else some ⟨b, off + l.getD 0 * P.cellsOf e, none⟩) (q.getD css.length - l.getD 0) (cap - l.getD 0))) w := by
          simp [execOp, ho, hu', Instr.sliceAt, Instr.slice, run_underlying hu, this, run_sizeOf hz, Addr.add_none]
        by_cases hcl : cap = l.getD 0
        · have hn : (css.take (q.getD css.length)).drop (l.getD 0) = [] := List.length_eq_zero_iff.1 (by omega)
          rw [if_pos hcl] at hrun
          refine r.valuePC hd hrun hw ?_
          have := PC.of_cont (P := P) (U := U) (w := w) (I := G.I) (b := b) (off := off) (cap := cap - l.getD 0) hc' (by simp) (by rw [hlen]; omega) (by simp) (by rw [hlen]; omega) (by rw [hn]; exact ⟨fun _ _ hh => by simp at hh, fun _ _ _ _ hh => by simp at hh, fun _ _ _ _ hh => by simp at hh⟩)
          rwa [hlen] at this
        · rw [if_neg hcl] at hrun
          refine r.valuePC hd hrun hw ?_
          have := PC.of_cont (P := P) (U := U) (w := w) (I := G.I) (b := b) (off := off + l.getD 0 * P.cellsOf e) (cap := cap - l.getD 0) hc' (by simp) (by rw [hlen]; omega) (by simp) (by rw [hlen]; omega) (hco.cut _ _)
          rwa [hlen] at this
    cases v with
    | one c =>
      cases c with
      | str s =>
        obtain ⟨hb, h⟩ := Does.of_cond h
        obtain ⟨l, q, _, hw, g1, g2, g3⟩ := boundsT_ok r h
        have hu := isStr_ok hb
        have hsz : (⟨⟨s⟩⟩ : ByteArray).size = s.length := rfl
        refine r.valuePC hd (u := .string ⟨⟨cut s l q⟩⟩) ?_ hw (.str _ ?_)
        · have := g3 false s.length (Nat.le_refl _)
          simp [execOp, ho, h1.str.1, Instr.sliceAt, Instr.slice, run_underlying hu, hsz, this, bytes_extract, cut_eq]
        · have := h1.str.2
          rw [cut_eq, List.length_drop, List.length_take]; omega
      | sl e xs f =>
        obtain ⟨hu, hz, h⟩ := sliceOf_ok h
        obtain ⟨l, q, _, hw, g1, g2, g3⟩ := boundsT_ok r h
        exact sl _ _ e (xs.map (U.enc e)) f l q _ rfl rfl (by simp [cont, cut_eq, List.map_drop, List.map_take]) hu hz (by simpa using g1) (by simpa using g2) (by simpa using g3) hw
      | bs e s f =>
        obtain ⟨hu, hz, h⟩ := sliceOf_ok h
        obtain ⟨l, q, _, hw, g1, g2, g3⟩ := boundsT_ok r h
        exact sl _ _ e (s.map fun b => [.int .u8 b.toNat]) f l q _ rfl rfl (by simp [cont, cut_eq, List.map_drop, List.map_take]) hu hz (by simpa using g1) (by simpa using g2) (by simpa using g3) hw
      | _ => exact h.of_fail.elim
    | _ => exact h.of_fail.elim

theorem op_len (r : R P U N L0 G0 w0 G σ a w) (hd : ∀ d, o.dst = some d → d < N) {c : Call} (ho : o.op = .call c) (hb : c.callee = .builtin .len) {rd : List Nat} {ws : List (Nat × AV U.τ)} (h : Does P U σ (opTree P adv o) rd ws) :
    Goal P U N L0 G0 w0 σ o a w ws := by
  obtain ⟨callee, args, argTypes⟩ := c
  simp only at hb
  subst hb
  simp only [opTree, ho] at h
  split at h
  · rename_i x t ha ht
    have ha' : args = #[x] := by cases args; simp_all
    have ht' : argTypes = #[t] := by cases argTypes; simp_all
    subst ha'; subst ht'
    obtain ⟨v, _, h1, h⟩ := r.opd h
    have run : ∀ n : Nat, (∀ ty, (Builtin.len_ #[t] ty #[a.eval x]).run P w = .ok (goInt n) w) → (execOp a.eval o).run P w = .ok (.value (.int .i64 n)) w := by
      intro n hn
      simp [execOp, ho, resolve, invoke, builtin, hn, goInt]
    have pc : ∀ n : Nat, (n : Int) ≤ maxLenI → PC P U w G.I (.int .i64 n) (.int .i64 n) := fun n hn => .int _ _ (by
      unfold IntKind.has IntKind.min IntKind.max; unfold maxLenI at hn; simp [IntKind.bits, IntKind.signed]; omega)
    have sl : ∀ (c : CV U.τ) (e e' : Nat) (css : List (List (CV U.τ))) (f : Fl) (rd' : List Nat), v = .one c → cont c = some (e, css, f) → P.underlying t = some (.slice e') → Does P U σ (wr o.dst (.one (.int .i64 css.length))) rd' ws → Goal P U N L0 G0 w0 σ o a w ws := by
      intro c e e' css f rd' hv hc hu hw
      subst hv
      obtain ⟨hm, ⟨hnil, hu'⟩ | ⟨_, hnil, p, cap, hu'⟩ | ⟨b, off, cap, hu', _, _, _⟩⟩ := h1.slice hc
      · exact r.valuePC hd (run _ fun ty => by simp [Builtin.len_, run_underlying hu, hu', hnil]) hw (pc _ hm)
      · exact r.valuePC hd (run _ fun ty => by simp [Builtin.len_, run_underlying hu, hu', hnil]) hw (pc _ hm)
      · exact r.valuePC hd (run _ fun ty => by simp [Builtin.len_, run_underlying hu, hu']) hw (pc _ hm)
    unfold lenT at h
    split at h
    · rename_i s hu
      exact r.valuePC hd (run _ fun ty => by simp [Builtin.len_, run_underlying hu, h1.str.1]; rfl) h (pc _ h1.str.2)
    · rename_i e' e xs f hu
      exact sl _ e e' (xs.map (U.enc e)) f _ rfl rfl hu (by simpa using h)
    · rename_i e' e s f hu
      exact sl _ e e' (s.map fun b => [.int .u8 b.toNat]) f _ rfl rfl hu (by simpa using h)
    · rename_i e' q hu
      obtain ⟨e0, y0, q0, cap, hs, hu', hl, _⟩ := h1.sref
      obtain ⟨_, h⟩ := h.of_read
      rw [hs] at h
      have hblk := r.slots q
      rw [hs] at hblk
      exact r.valuePC hd (run _ fun ty => by simp [Builtin.len_, run_underlying hu, hu']) h (pc _ hblk.2.len)
    · exact h.of_fail.elim
  · exact h.of_fail.elim

theorem has_ite {k : IntKind} {x y : Int} {p : Prop} [Decidable p] (hx : k.has x) (hy : k.has y) : k.has (if p then x else y) := by split <;> assumption

theorem op_min (r : R P U N L0 G0 w0 G σ a w) (hd : ∀ d, o.dst = some d → d < N) {c : Call} (ho : o.op = .call c) (hb : c.callee = .builtin .min) {rd : List Nat} {ws : List (Nat × AV U.τ)} (h : Does P U σ (opTree P adv o) rd ws) :
    Goal P U N L0 G0 w0 σ o a w ws := by
  obtain ⟨callee, args, argTypes⟩ := c
  simp only at hb
  subst hb
  simp only [opTree, ho] at h
  split at h
  · rename_i x y ha
    have ha' : args = #[x, y] := by cases args; simp_all
    subst ha'
    obtain ⟨k, n, _, ex, hx, h⟩ := r.int h
    obtain ⟨j, m, _, ey, hy, h⟩ := r.int h
    obtain ⟨hb, h2⟩ := Does.of_cond h
    have hkj : k = j := of_decide_eq_true hb
    subst hkj
    exact r.valuePC hd (by simp [execOp, ho, resolve, invoke, builtin, Builtin.min_, ex, ey, Builtin.min2]) h2 (.int _ _ (has_ite hy hx))
  · exact h.of_fail.elim

theorem op_max (r : R P U N L0 G0 w0 G σ a w) (hd : ∀ d, o.dst = some d → d < N) {c : Call} (ho : o.op = .call c) (hb : c.callee = .builtin .max) {rd : List Nat} {ws : List (Nat × AV U.τ)} (h : Does P U σ (opTree P adv o) rd ws) :
    Goal P U N L0 G0 w0 σ o a w ws := by
  obtain ⟨callee, args, argTypes⟩ := c
  simp only at hb
  subst hb
  simp only [opTree, ho] at h
  split at h
  · rename_i x y ha
    have ha' : args = #[x, y] := by cases args; simp_all
    subst ha'
    obtain ⟨k, n, _, ex, hx, h⟩ := r.int h
    obtain ⟨j, m, _, ey, hy, h⟩ := r.int h
    obtain ⟨hb, h2⟩ := Does.of_cond h
    have hkj : k = j := of_decide_eq_true hb
    subst hkj
    exact r.valuePC hd (by simp [execOp, ho, resolve, invoke, builtin, Builtin.max_, ex, ey, Builtin.max2]) h2 (.int _ _ (has_ite hy hx))
  · exact h.of_fail.elim

/-! ### bytes to a string -/
theorem foldl_push (s : List UInt8) (acc : ByteArray) : ((s.map fun b => (b.toNat : Int)).foldl (fun r n => r.push (UInt8.ofNat n.toNat)) acc) = ⟨⟨acc.data.toList ++ s⟩⟩ := by
  induction s generalizing acc with
  | nil => simp
  | cons b s ih =>
    simp only [List.map_cons, List.foldl_cons]
    rw [ih]
    have : (UInt8.ofNat (b.toNat : Int).toNat) = b := by simp
    rw [this]
    simp [ByteArray.push]

theorem run_toString (s : List UInt8) (b off cap : Nat) (h : ∀ (i : Nat) y, s[i]? = some y → w.cell? ⟨b, off + i, none⟩ = some (.int .u8 y.toNat)) :
    (Conv.bytesToString (.slice (some ⟨b, off, none⟩) s.length cap)).run P w = .ok (.string ⟨⟨s⟩⟩) w := by
  have hl := run_loadCells_list (P := P) w ⟨b, off, none⟩ ((s.map fun y => (y.toNat : Int)).map (Value.int .u8)) (fun j v hj => by
    rw [List.getElem?_map, List.getElem?_map] at hj
    cases hs : s[j]? with
    | none => rw [hs] at hj; cases hj
    | some y =>
      rw [hs] at hj
      simp only [Option.map_some, Option.some.injEq] at hj
      rw [Addr.add_none, h j y hs, hj])
  rw [List.length_map, List.length_map] at hl
  rw [run_bytesToString w _ _ _ _ hl, foldl_push]
  rfl

theorem cell_of_row {b : Nat} {c : Array Value} {T : TypeId} {fz : Nat × Nat} (h : w.heap[b]? = some (.cells c T fz)) (o : Nat) : w.cell? ⟨b, o, none⟩ = c[o]? := by
  simp [World.cell?, h]

/-- What is read as bytes. -/
theorem rdBytes_ok (r : R P U N L0 G0 w0 G σ a w) {x : Operand} {v : AV U.τ} (h1 : Opd (P := P) G σ w x v (a.eval x)) {k : List UInt8 → Tree U} {rd : List Nat} {ws : List (Nat × AV U.τ)} (h : Does P U σ (rdBytes v k) rd ws) :
    ∃ s rd', Does P U σ (k s) rd' ws ∧ (s.length : Int) ≤ maxLenI ∧ ((v = .one (.str s) ∧ a.eval x = .string ⟨⟨s⟩⟩) ∨ (s = [] ∧ ∃ q cap, a.eval x = .slice q 0 cap) ∨
      ∃ b off cap, a.eval x = .slice (some ⟨b, off, none⟩) s.length cap ∧ ∀ (i : Nat) y, s[i]? = some y → w.cell? ⟨b, off + i, none⟩ = some (.int .u8 y.toNat)) := by
  cases v with
  | one c =>
    cases c with
    | str s => exact ⟨s, _, h, h1.str.2, .inl ⟨rfl, h1.str.1⟩⟩
    | bs e s f =>
      obtain ⟨hm, ⟨hnil, hu'⟩ | ⟨_, hnil, p, cap, hu'⟩ | ⟨b, off, cap, hu', _, _, hco⟩⟩ := h1.slice (css := s.map fun b => [.int .u8 b.toNat]) (e := e) (f := f) rfl
      · have : s = [] := by simpa using hnil
        exact ⟨s, _, h, by simpa using hm, .inr (.inl ⟨this, _, _, hu'⟩)⟩
      · have : s = [] := by simpa using hnil
        exact ⟨s, _, h, by simpa using hm, .inr (.inl ⟨this, _, _, hu'⟩)⟩
      · refine ⟨s, _, h, by simpa using hm, .inr (.inr ⟨b, off, cap, by simpa using hu', fun i y hy => ?_⟩)⟩
        obtain ⟨u, h2, h3⟩ := hco.cell i [.int .u8 y.toNat] 0 _ (by rw [List.getElem?_map, hy]; rfl) rfl
        have hsz := hco.len i [.int .u8 y.toNat] (by rw [List.getElem?_map, hy]; rfl)
        rw [h3.of_int.1, ← hsz] at h2
        simpa using h2
    | sref q =>
      obtain ⟨e0, y0, q0, cap, hs, hu', hl, _⟩ := h1.sref
      obtain ⟨_, h⟩ := h.of_read
      rw [hs] at h
      have hblk := r.slots q
      rw [hs] at hblk
      obtain ⟨c, T, fz, k1, k2, k3, k4⟩ := hblk.2.row
      exact ⟨y0, _, h, hblk.2.len, .inr (.inr ⟨_, _, cap, hu', fun i y hy => by rw [cell_of_row k1]; exact k4 i y hy⟩)⟩
    | _ => exact h.of_fail.elim
  | _ => exact h.of_fail.elim

theorem isU8_ok {e : TypeId} (h : isU8 P e = true) : P.cellsOf e = 1 ∧ P.bytesOf e = 1 ∧ P.underlying e = some (.int .u8) ∧ ∃ i, P.info? e = some i ∧ i.zero = some (.int .u8 0) ∧ i.size = 1 ∧ i.bytes = 1 := by
  unfold isU8 at h
  split at h
  · rename_i i hi
    split at h
    · rename_i hz
      simp only [Bool.and_eq_true] at h
      obtain ⟨⟨h1, h2⟩, h3⟩ := h
      have h1 := Nat.eq_of_beq_eq_true h1
      have h2 := Nat.eq_of_beq_eq_true h2
      refine ⟨by simp [Program.cellsOf, hi, h1], by simp [Program.bytesOf, hi, h2], ?_, i, hi, hz, h1, h2⟩
      split at h3
      · assumption
      · cases h3
    · cases h
  · cases h

end
end Go.VI
