import Derived.Test.YtpapfbpefhcobaaV10
/-! Slices that are made. -/
set_option linter.unusedVariables false
set_option linter.unusedSimpArgs false
namespace Go.VI
open Go

section
variable {P : Program} {U : Univ} {N : Nat} {L0 : Nat → Nat} {G0 : Ghost} {w0 : World} {G : Ghost} {σ : Slots U} {a : Act} {w : World} {o : Oper} {adv : Adv}

/-- The second list's cells say less than the first's, place by place. -/
def CsLe (P : Program) (U : Univ) (cs cs' : List (CV U.τ)) : Prop :=
  cs'.length = cs.length ∧ ∀ (j : Nat) c c', cs[j]? = some c → cs'[j]? = some c' → ∀ w I u, PC P U w I c u → PC P U w I c' u

structure UnivOk (P : Program) (U : Univ) : Prop where
  dec : ∀ e cs x, U.dec e cs = some x → CsLe P U cs (U.enc e x)

theorem decs_ok (hU : UnivOk P U) {e : Nat} : ∀ (css : List (List (CV U.τ))) (xs : List (U.τ e)), decs U e css = some xs → xs.length = css.length ∧ ∀ (i : Nat) cs x, css[i]? = some cs → xs[i]? = some x → CsLe P U cs (U.enc e x)
  | [], xs, h => by
    simp only [decs, Option.some.injEq] at h
    subst h
    exact ⟨rfl, fun i cs x h => by simp at h⟩
  | cs :: css, xs, h => by
    simp only [decs] at h
    split at h
    · rename_i x ys h1 h2
      injection h with h; subst h
      obtain ⟨k1, k2⟩ := decs_ok hU css ys h2
      refine ⟨by simp [k1], fun i cs' x' hi hx => ?_⟩
      cases i with
      | zero => simp at hi hx; subst hi; subst hx; exact hU.dec e cs x h1
      | succ i => exact k2 i cs' x' (by simpa using hi) (by simpa using hx)
    · cases h

theorem u8of_toNat {n : Int} (h : IntKind.u8.has n) : ((u8of n).toNat : Int) = n := by
  unfold IntKind.has IntKind.min IntKind.max at h
  simp [IntKind.bits, IntKind.signed] at h
  unfold u8of
  simp only [Nat.toUInt8, UInt8.toNat_ofNat']
  omega

theorem bytesOfCells_ok : ∀ (css : List (List (CV U.τ))) (s : List UInt8), bytesOfCells css = some s → s.length = css.length ∧ ∀ (i : Nat) cs y, css[i]? = some cs → s[i]? = some y → CsLe P U cs [.int .u8 y.toNat]
  | [], s, h => by
    simp only [bytesOfCells, Option.some.injEq] at h
    subst h
    exact ⟨rfl, fun i cs x h => by simp at h⟩
  | cs :: css, s, h => by
    unfold bytesOfCells at h
    split at h
    · rename_i hn; cases hn
    · rename_i n r hn
      injection hn with e1 e2
      subst e1; subst e2
      split at h
      · rename_i s' h2
        injection h with h; subst h
        obtain ⟨k1, k2⟩ := bytesOfCells_ok css s' h2
        refine ⟨by simp [k1], fun i cs' y hi hy => ?_⟩
        cases i with
        | zero =>
          simp at hi hy; subst hi; subst hy
          refine ⟨rfl, fun j c c' hj hj' w I u hp => ?_⟩
          cases j with
          | zero =>
            simp at hj hj'; subst hj; subst hj'
            have h3 := hp.of_int
            rw [u8of_toNat h3.2]
            exact hp
          | succ j => simp at hj
        | succ i => exact k2 i cs' y (by simpa using hi) (by simpa using hy)
      · cases h
    · cases h

theorem Flat.weaken {I : Nat → Nat → Prop} {sz : Nat} {css css' : List (List (CV U.τ))} {us : List Value} (h : Flat P U w I sz css us) (hl : css'.length = css.length) (hw : ∀ (i : Nat) cs cs', css[i]? = some cs → css'[i]? = some cs' → CsLe P U cs cs') : Flat P U w I sz css' us := by
  have get : ∀ (i : Nat) cs', css'[i]? = some cs' → ∃ cs, css[i]? = some cs := fun i cs' hi => by
    have := (List.getElem?_eq_some_iff.1 hi).1
    exact ⟨_, List.getElem?_eq_getElem (by omega)⟩
  refine ⟨by rw [h.size, hl], fun i cs' hi => ?_, fun i cs' j x hi hj => ?_⟩
  · obtain ⟨cs, hc⟩ := get i cs' hi
    rw [(hw i cs cs' hc hi).1]; exact h.len i cs hc
  · obtain ⟨cs, hc⟩ := get i cs' hi
    have hle := hw i cs cs' hc hi
    have hjl := (List.getElem?_eq_some_iff.1 hj).1
    obtain ⟨c, hcj⟩ : ∃ c, cs[j]? = some c := ⟨_, List.getElem?_eq_getElem (by rw [← hle.1]; exact hjl)⟩
    obtain ⟨u, hu, hp⟩ := h.cell i cs j c hc hcj
    exact ⟨u, hu, hle.2 j c x hcj hj _ _ _ hp⟩

theorem updsσ_one {d : Nat} {v : AV U.τ} : updsσ σ [(d, v)] = upd σ d v := rfl

/-- A slice of a new row, which is read-only, and may be appended to by whoever has it: there is no room. -/
theorem R.newTight (r : R P U N L0 G0 w0 G σ a w) {d : Nat} (hd : d < N) (ho : (σ d).owner = false) {c : CV U.τ} {e : Nat} {css : List (List (CV U.τ))} (hc : cont c = some (e, css, .tight)) {cells : Array Value} {us : List Value} (hf : Flat P U w G.I (P.cellsOf e) css us)
    (hcells : ∀ (q : Nat), us[q]? = cells[q]?) (hm : (css.length : Int) ≤ maxLenI) (T : TypeId) :
    ∃ G', R P U N L0 G0 w0 G' (upd σ d (.one c)) (a.put (some d) (.slice (some ⟨w.heap.size, 0, none⟩) css.length css.length)) { w with heap := w.heap.push (.cells cells T) } := by
  have hh : ({ w with heap := w.heap.push (.cells cells T) } : World).heap = w.heap.push (.cells cells T) := rfl
  refine ⟨_, r.fresh (imm := fun o => o < cells.size) (wh := none) (w' := { w with heap := w.heap.push (.cells cells T) }) rfl rfl rfl rfl hd ho (fun _ h => h) ?_⟩
  refine SlotOk.of_pc (PC.of_cont hc (by simp) (Nat.le_refl _) (fun _ => rfl) hm ?_)
  refine hf.cont (fun b o h => ⟨.inl h, cell_push hh b o (cell_lt (r.imm b o h))⟩) (fun q u hq => ?_)
  rw [hcells] at hq
  rw [Nat.zero_add]
  exact ⟨.inr ⟨rfl, (Array.getElem?_eq_some_iff.1 hq).1⟩, by rw [cell_push_new hh]; exact hq⟩

/-- Bytes in a new row of slot d's own. -/
theorem R.newBytes (r : R P U N L0 G0 w0 G σ a w) {d : Nat} (hd : d < N) (hσ : σ d = .undef) {e : Nat} (hz : P.cellsOf e = 1) {s : List UInt8} {q : Bool} {cells : Array Value} {cap : Nat} {T : TypeId} {fz : Nat × Nat} (hm : (s.length : Int) ≤ maxLenI)
    (hcells : ∀ (i : Nat) b, s[i]? = some b → cells[i]? = some (.int .u8 b.toNat)) (hcap : s.length ≤ cap) (hsz : s.length ≤ cells.size) (hq : q = true → cap = s.length) (hfz : ∀ o, fz.1 ≤ o → o < fz.2 → cells.size ≤ o)
    {w' : World} (hh : w'.heap = w.heap.push (.cells cells T fz)) (h1 : w'.os = w.os) (h2 : w'.tape = w.tape) (h3 : w'.output = w.output) :
    ∃ G', R P U N L0 G0 w0 G' (upd σ d (.bblk e s q)) (a.put (some d) (.slice (some ⟨w.heap.size, 0, none⟩) s.length cap)) w' := by
  refine ⟨_, r.fresh (imm := fun _ => False) (wh := some (d, none)) hh h1 h2 h3 hd (by rw [hσ]; rfl) (fun _ h => h.elim) ?_⟩
  have hloc : (freshG G w.heap.size d (fun _ => False) (some (d, none))).loc d = (w.heap.size, 0) := if_pos rfl
  refine ⟨fun _ => ⟨cap, by rw [hloc], hcap, hq⟩, ?_⟩
  rw [hloc]
  refine ⟨if_pos rfl, fun o h => ?_, hz, hm, cells, T, fz, by rw [heap_push hh, if_pos rfl], by simpa using hsz, hfz, fun i b hi => by simpa using hcells i b hi⟩
  rcases h with h | ⟨_, h⟩
  · exact r.notI o h
  · exact h

theorem op_buildSlice (hU : UnivOk P U) (r : R P U N L0 G0 w0 G σ a w) (hd : ∀ d, o.dst = some d → d < N) {t : TypeId} {n : Nat} {parts : Array (Nat × Operand)} (ho : o.op = .buildSlice t n parts) {rd : List Nat} {ws : List (Nat × AV U.τ)} (h : Does P U σ (opTree P adv o) rd ws) :
    Goal P U N L0 G0 w0 σ o a w ws := by
  simp only [opTree, ho] at h
  split at h
  · rename_i e hu
    obtain ⟨hb, h⟩ := Does.of_cond h
    simp only [Bool.and_eq_true] at hb
    obtain ⟨⟨hz, hn⟩, hzero⟩ := hb
    have hz := Nat.le_of_ble_eq_true hz
    have hn := Nat.le_of_ble_eq_true hn
    obtain ⟨css, _, h, hlen, hp⟩ := partsT_ok r (n := n) parts.toList 0 h
    obtain ⟨hb, h⟩ := Does.of_cond h
    simp only [Bool.and_eq_true] at hb
    have hcn := Nat.eq_of_beq_eq_true hb.1
    obtain ⟨us, hf, hfill⟩ := hp (fun cs hcs => Nat.eq_of_beq_eq_true (List.all_eq_true.1 hb.2 cs hcs))
    obtain ⟨⟨ag, z⟩, hzc⟩ := Option.isSome_iff_exists.1 hzero
    obtain ⟨zv, hzr, _⟩ := zeroCV_ok (w := w) (I := G.I) hzc
    have hpl : parts.toList.length = n := by rw [← hlen, hcn]
    let zero : Array Value := if n * P.cellsOf e = 0 then #[] else zv.cells
    obtain ⟨cells', k1, k2, k3⟩ := hfill ((Array.range (n * P.cellsOf e)).map (zero[· % zero.size]!)) (by simp [hpl])
    have hsz : cells'.size = n * P.cellsOf e := by rw [k2]; simp
    have hcells : ∀ (q : Nat), us[q]? = cells'[q]? := by
      intro q
      rw [k3, Nat.zero_mul, Nat.zero_add, hpl]
      by_cases hq : q < n * P.cellsOf e
      · rw [if_pos ⟨Nat.zero_le _, hq⟩, Nat.sub_zero]
      · rw [if_neg (fun hh => hq hh.2), List.getElem?_eq_none (by rw [hf.size, hcn]; omega), Array.getElem?_eq_none (by simp; omega)]
    have hrun : (execOp a.eval o).run P w = .ok (.value (.slice (some ⟨w.heap.size, 0, none⟩) n n)) { w with heap := w.heap.push (.cells cells' e) } := by
      have g5 : (parts.map fun (x : Nat × Operand) => match x with | (i, x) => (i, a.eval x)) = parts.map fun p => (p.1, a.eval p.2) := rfl
      have g6 : (parts.map fun p => (p.1, a.eval p.2)).toList = parts.toList.map fun p => (p.1, a.eval p.2) := Array.toList_map
      have g7 : ¬ (n * P.cellsOf e > 2 ^ 24) := by omega
      by_cases h0 : n * P.cellsOf e = 0
      · have hz0 : zero = #[] := if_pos h0
        rw [hz0] at k1
        simp only [execOp, ho, Sem.run_bind, Instr.buildSlice, run_underlying hu, Result.andThen_ok, run_sizeOf hz, if_neg g7, if_pos h0, Sem.run_pure, g5, g6, k1]
        simp [newRow]
      · have hz0 : zero = zv.cells := if_neg h0
        rw [hz0] at k1
        simp only [execOp, ho, Sem.run_bind, Instr.buildSlice, run_underlying hu, Result.andThen_ok, run_sizeOf hz, if_neg g7, if_neg h0, hzr, Sem.run_pure, g5, g6, k1]
        simp [newRow]
    have hm : (n : Int) ≤ maxLenI := by
      have : n * 1 ≤ n * P.cellsOf e := Nat.mul_le_mul_left _ hz
      unfold maxLenI; omega
    -- what goes into the slot
    have tightCase : ∀ (d : Nat) (c : CV U.τ) (css' : List (List (CV U.τ))) (rd' : List Nat), o.dst = some d → cont c = some (e, css', .tight) → css'.length = css.length → (∀ (i : Nat) cs cs', css[i]? = some cs → css'[i]? = some cs' → CsLe P U cs cs') →
        Does P U σ (wr (some d) (.one c)) rd' ws → Goal P U N L0 G0 w0 σ o a w ws := by
      intro d c css' rd' hdst hc hl hle hw
      have hf' := hf.weaken hl hle
      unfold Goal Goes
      rw [hrun, hdst]
      rcases hw.of_wr with ⟨h1, _⟩ | ⟨d', h1, h2, h3⟩
      · cases h1
      · injection h1 with h1; subst h1
        rw [h2]
        have := r.newTight (hd d hdst) h3 hc hf' hcells (by rw [hl, hcn]; exact hm) e
        rw [hl, hcn] at this
        exact this
    cases hu8 : isU8 P e with
    | true =>
      rw [hu8] at h
      simp only [cond_true] at h
      split at h
      · rename_i s hs
        obtain ⟨k4, k5⟩ := bytesOfCells_ok (P := P) css s hs
        cases hdst : o.dst with
        | none => rw [hdst] at h; exact h.of_fail.elim
        | some d =>
          rw [hdst] at h
          cases hmut : memNat d adv.mutb with
          | true =>
            simp only [hmut, cond_true] at h
            obtain ⟨_, h⟩ := h.of_read
            cases hσ : σ d <;> rw [hσ] at h <;> first | exact h.of_fail.elim | skip
            have := h.of_done
            subst this
            unfold Goal Goes
            rw [hrun, hdst]
            have h1 := (isU8_ok hu8).1
            have hfw := hf.weaken (css' := s.map fun b => [.int .u8 b.toNat]) (by simp [k4]) (fun i cs cs' hi hi' => by
              rw [List.getElem?_map] at hi'
              cases hsi : s[i]? with
              | none => rw [hsi] at hi'; cases hi'
              | some y => rw [hsi] at hi'; injection hi' with hi'; subst hi'; exact k5 i cs y hi hsi)
            have := r.newBytes (hd d hdst) hσ (q := true) (s := s) h1 (cells := cells') (cap := n) (T := e) (fz := (0, 0)) (by rw [k4, hcn]; exact hm) (fun i b hi => by
              obtain ⟨u, hu', hp'⟩ := hfw.cell i [.int .u8 b.toNat] 0 _ (by rw [List.getElem?_map, hi]; rfl) rfl
              rw [h1, Nat.mul_one, Nat.add_zero, hcells, hp'.of_int.1] at hu'
              exact hu') (by omega) (by rw [hsz, h1]; omega) (fun _ => by omega) (fun o h1 h2 => by simp at h2) (w' := { w with heap := w.heap.push (.cells cells' e) }) rfl rfl rfl rfl
            rw [k4, hcn] at this
            exact this
          | false =>
            simp only [hmut, cond_false] at h
            refine tightCase d _ (s.map fun b => [.int .u8 b.toNat]) _ hdst rfl (by simp [k4]) (fun i cs cs' hi hi' => ?_) h
            rw [List.getElem?_map] at hi'
            cases hsi : s[i]? with
            | none => rw [hsi] at hi'; cases hi'
            | some y => rw [hsi] at hi'; injection hi' with hi'; subst hi'; exact k5 i cs y hi hsi
      · exact h.of_fail.elim
    | false =>
      rw [hu8] at h
      simp only [cond_false] at h
      split at h
      · rename_i xs d hs hdst
        obtain ⟨k4, k5⟩ := decs_ok hU css xs hs
        refine tightCase d _ (xs.map (U.enc e)) _ hdst rfl (by simp [k4]) (fun i cs cs' hi hi' => ?_) h
        rw [List.getElem?_map] at hi'
        cases hxi : xs[i]? with
        | none => rw [hxi] at hi'; cases hi'
        | some y => rw [hxi] at hi'; injection hi' with hi'; subst hi'; exact k5 i cs y hi hxi
      · exact h.of_fail.elim
  · exact h.of_fail.elim

theorem wrap_small {n : Int} (h0 : 0 ≤ n) (h1 : n ≤ roomI) : IntKind.i64.wrap n = n := by
  unfold roomI at h1
  unfold IntKind.wrap
  simp [IntKind.bits, IntKind.signed]
  omega

theorem op_makeSlice (r : R P U N L0 G0 w0 G σ a w) (hd : ∀ d, o.dst = some d → d < N) {t : TypeId} {l c : Operand} (ho : o.op = .makeSlice t l c) {rd : List Nat} {ws : List (Nat × AV U.τ)} (h : Does P U σ (opTree P adv o) rd ws) :
    Goal P U N L0 G0 w0 σ o a w ws := by
  simp only [opTree, ho] at h
  have key : ∀ e d n k rd', P.underlying t = some (.slice e) → o.dst = some d → isU8 P e = true → a.eval l = .int k n → (∃ k', a.eval c = .int k' n) → Does P U σ (.read d fun | .undef => .guard (0 ≤ n ∧ n ≤ roomI) (.done [(d, .bblk e (List.replicate n.toNat 0) true)]) | _ => .fail) rd' ws →
      Goal P U N L0 G0 w0 σ o a w ws := by
    intro e d n k rd' hu hdst hu8 hl hc h
    obtain ⟨k', hc⟩ := hc
    obtain ⟨_, h⟩ := h.of_read
    cases hσ : σ d <;> rw [hσ] at h <;> first | exact h.of_fail.elim | skip
    obtain ⟨hn, h⟩ := h.of_guard
    have := h.of_done
    subst this
    obtain ⟨h1, h2, h3, i, hi, hz, hs, hbytes⟩ := isU8_ok hu8
    have hw := wrap_small hn.1 hn.2
    have hroom : n ≤ 35184372088832 := hn.2
    have hrun : (execOp a.eval o).run P w = .ok (.value (.slice (some ⟨w.heap.size, 0, none⟩) n.toNat n.toNat)) { w with heap := w.heap.push (.cells (Array.replicate n.toNat (.int .u8 0)) e) } := by
      have e3 : n.toNat ≠ 0 → (Array.range n.toNat).map (fun q => (#[.int .u8 0] : Array Value)[q % (#[.int .u8 0] : Array Value).size]!) = Array.replicate n.toNat (.int .u8 0) := by
        intro h0
        apply Array.ext
        · simp
        · intro q h1 h2
          simp [Nat.mod_one]
      have e4 : zeroValue e = (zeroValue e) := rfl
      have e5 : (zeroValue e).run P w = .ok (.int .u8 0) w := by simp [zeroValue, typeInfo, hi, hz]
      simp only [execOp, ho, Sem.run_bind, Instr.makeSlice, run_underlying hu, Result.andThen_ok, hl, hc, asInt, asIntOf, Sem.run_pure, typeInfo, run_program, hi, hbytes, hw]
      rw [if_neg (by simp; omega)]
      by_cases h0 : n.toNat = 0
      · simp only [Sem.run_bind, run_askRoom, Result.andThen_ok, sizeOf, typeInfo, run_program, hi, Sem.run_pure, hs, Nat.mul_one, if_pos h0, newRow, run_newObj]
        have h9 : ∀ f : Nat → Value, (Array.range 0).map f = #[] := fun f => by apply Array.eq_empty_of_size_eq_zero; simp
        simp only [h0, h9]
        simp
      · simp only [Sem.run_bind, run_askRoom, Result.andThen_ok, sizeOf, typeInfo, run_program, hi, Sem.run_pure, hs, Nat.mul_one, if_neg h0, e5, newRow, run_newObj]
        have := e3 h0
        simp only [Value.cells] at *
        rw [this]
    unfold Goal Goes
    rw [hrun, hdst]
    have hlen : (List.replicate n.toNat (0 : UInt8)).length = n.toNat := by simp
    have := r.newBytes (hd d hdst) hσ (q := true) (s := List.replicate n.toNat 0) h1 (cells := Array.replicate n.toNat (.int .u8 0)) (cap := n.toNat) (T := e) (fz := (0, 0)) (by rw [hlen]; unfold maxLenI; omega) (fun i b hi => by
        rw [List.getElem?_replicate] at hi
        split at hi
        · injection hi with hi; subst hi
          rename_i hlt
          rw [Array.getElem?_replicate, if_pos hlt]; rfl
        · cases hi) (by rw [hlen]; exact Nat.le_refl _) (by simp) (fun _ => by simp) (fun o h1 h2 => by simp at h2) (w' := { w with heap := w.heap.push (.cells (Array.replicate n.toNat (.int .u8 0)) e) }) rfl rfl rfl rfl
    rw [hlen] at this
    exact this
  split at h
  · rename_i e d x y hu hdst
    obtain ⟨hb, h2⟩ := Does.of_cond h
    simp only [Bool.and_eq_true] at hb
    have hxy := Nat.eq_of_beq_eq_true hb.2
    obtain ⟨k, n, _, he, _, h3⟩ := r.int h2
    exact key e d n k _ hu hdst hb.1 he ⟨k, by rw [← hxy]; exact he⟩ h3
  · rename_i e d k n k' m hu hdst
    obtain ⟨hb, h⟩ := Does.of_cond h
    simp only [Bool.and_eq_true, beq_iff_eq] at hb
    exact key e d n k _ hu hdst hb.1 rfl ⟨k', by rw [hb.2]; rfl⟩ h
  · exact h.of_fail.elim

end
end Go.VI
