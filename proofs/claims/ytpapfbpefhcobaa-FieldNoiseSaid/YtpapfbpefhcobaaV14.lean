import Derived.Test.YtpapfbpefhcobaaV13
/-! copy and append. -/
set_option linter.unusedVariables false
set_option linter.unusedSimpArgs false
namespace Go.VI
open Go

section
variable {P : Program} {U : Univ} {N : Nat} {L0 : Nat → Nat} {G0 : Ghost} {w0 : World} {G : Ghost} {σ : Slots U} {a : Act} {w : World} {o : Oper} {adv : Adv}

theorem mk_data (y : List UInt8) (n : Nat) (hn : n ≤ y.length) : (((⟨⟨y⟩⟩ : ByteArray).extract 0 n).data.map fun b => Value.int .u8 b.toNat).toList = (y.take n).map fun b => .int .u8 b.toNat := by
  rw [bytes_extract]
  simp

theorem op_copy (r : R P U N L0 G0 w0 G σ a w) (hd : ∀ d, o.dst = some d → d < N) {c : Call} (ho : o.op = .call c) (hb : c.callee = .builtin .copy) {rd : List Nat} {ws : List (Nat × AV U.τ)} (h : Does P U σ (opTree P adv o) rd ws) :
    Goal P U N L0 G0 w0 σ o a w ws := by
  obtain ⟨callee, args, argTypes⟩ := c
  simp only at hb
  subst hb
  simp only [opTree, ho] at h
  split at h
  · rename_i s x t u ha ht
    have ha' : args = #[s, x] := by cases args; simp_all
    have ht' : argTypes = #[t, u] := by cases argTypes; simp_all
    subst ha'; subst ht'
    obtain ⟨v, _, h1, h⟩ := r.opd h
    cases v with
    | one c =>
      cases c with
      | sref q =>
        obtain ⟨e, b, tq, cap, hs, hu', hl, _⟩ := h1.sref
        obtain ⟨_, h⟩ := h.of_read
        rw [hs] at h
        obtain ⟨hu, hz, h⟩ := sliceOf_ok h
        obtain ⟨v2, _, h2, h⟩ := r.opd h
        cases v2 with
        | one c2 =>
          cases c2 with
          | str y =>
            have hn : min y.length b.length ≤ y.length := Nat.min_le_left ..
            obtain ⟨R1, R2⟩ := r.storeBlk hs (i := 0) (ys := y.take (min y.length b.length)) (x' := y.take b.length ++ b.drop y.length) (by simp; omega) (by simp; omega) (fun j => by
              rw [Nat.zero_add, List.length_take, Nat.sub_zero, List.getElem?_append, List.length_take]
              by_cases hj : j < min b.length y.length
              · rw [if_pos hj, if_pos (by omega), List.getElem?_take, if_pos (by omega), List.getElem?_take, if_pos (by omega)]
              · rw [if_neg hj, if_neg (by omega), List.getElem?_drop]
                by_cases hjb : j < b.length
                · congr 1; omega
                · rw [List.getElem?_eq_none (by omega), List.getElem?_eq_none (by omega)])
            rw [Nat.add_zero] at R1 R2
            have hsz : (⟨⟨y⟩⟩ : ByteArray).size = y.length := rfl
            have hrun : (execOp a.eval o).run P w = .ok (.value (.int .i64 (min y.length b.length : Nat))) (w.setCells (G.loc q).1 (G.loc q).2 ((y.take (min y.length b.length)).map fun b => .int .u8 b.toNat)) := by
              have hmin : Nat.min y.length b.length = min y.length b.length := rfl
              simp only [execOp, ho, resolve, invoke, builtin, Builtin.copy_, hu', h2.str.1, List.map_toArray, List.map_cons, List.map_nil, Sem.run_bind, Sem.run_pure, Result.andThen_ok, run_underlying hu, Builtin.lenOf, hsz, run_sizeOf hz, Builtin.firstCells, hmin]
              simp only [List.getElem?_toArray, List.getElem?_cons_zero, List.getElem?_cons_succ, mk_data y _ hn, Sem.run_bind, Sem.run_pure, Result.andThen_ok, run_underlying hu, Builtin.lenOf, hsz, run_sizeOf hz, Builtin.firstCells, hmin, R2]
              rfl
            unfold Goal Goes
            rw [hrun]
            simp only
            have hlt : ((min y.length b.length : Nat) : Int) ≤ maxLenI := by have := h2.str.2; omega
            have hok : ∀ t', SlotOk P U G (upd σ q (.bblk e (y.take b.length ++ b.drop y.length) tq)) (w.setCells (G.loc q).1 (G.loc q).2 ((y.take (min y.length b.length)).map fun b => .int .u8 b.toNat)) t' (.one (.int .i64 (min y.length b.length : Nat))) (.int .i64 (min y.length b.length : Nat)) := fun t' => SlotOk.of_pc (.int _ _ (by
              unfold IntKind.has IntKind.min IntKind.max; unfold maxLenI at hlt; simp [IntKind.bits, IntKind.signed]; omega))
            rcases h.of_wr with ⟨k1, k2⟩ | ⟨d, k1, k2, k3⟩
            · rw [k1, k2]; exact ⟨G, R1⟩
            · rw [k1, k2]
              have hdq : d ≠ q := fun he => by rw [he, hs] at k3; cases k3
              have := R1.put (hd d k1) (by simp only [upd, hdq, if_false]; exact k3) rfl hok
              refine ⟨G, ?_⟩
              have e1 : updsσ σ [(d, .one (.int .i64 (min y.length b.length : Nat))), (q, .bblk e (y.take b.length ++ b.drop y.length) tq)] = upd (upd σ q (.bblk e (y.take b.length ++ b.drop y.length) tq)) d (.one (.int .i64 (min y.length b.length : Nat))) := by
                funext z
                simp only [updsσ, upd]
                by_cases z1 : z = q
                · simp [z1, Ne.symm hdq]
                · simp [z1]
              rw [e1]; exact this
          | _ => exact h.of_fail.elim
        | _ => exact h.of_fail.elim
      | _ => exact h.of_fail.elim
    | _ => exact h.of_fail.elim
  · exact h.of_fail.elim

/-! ### append -/
theorem growBy_le (newLen : Nat) : ∀ (rounds c : Nat), c ≤ 2 * newLen + 1000 → Builtin.growBy newLen rounds c ≤ 2 * newLen + 1000
  | 0, c, h => h
  | n + 1, c, h => by
    simp only [Builtin.growBy]
    split
    · exact h
    · exact growBy_le newLen n _ (by omega)

theorem nextslicecap_le {need cap : Nat} (h : cap < need) : Builtin.nextslicecap need cap ≤ 2 * need + 1000 := by
  unfold Builtin.nextslicecap
  split
  · omega
  · split
    · omega
    · exact growBy_le _ _ _ (by omega)

/-- What is appended: its cells. -/
structure Src (P : Program) (U : Univ) (w : World) (I : Nat → Nat → Prop) (sz : Nat) (v : Value) (css : List (List (CV U.τ))) (us : List Value) : Prop where
  len : (Builtin.lenOf v).run P w = .ok css.length w
  cells : ∀ w' : World, w'.heap = w.heap → (Builtin.firstCells sz css.length v).run P w' = .ok us.toArray w'
  flat : Flat P U w I sz css us

theorem Src.of_slice {I : Nat → Nat → Prop} {sz b off cap : Nat} {css : List (List (CV U.τ))} (h : Cont P U w I b off sz css) : ∃ us, Src P U w I sz (.slice (some ⟨b, off, none⟩) css.length cap) css us := by
  have hget : ∀ q, q < css.length * sz → ∃ u, w.cell? ⟨b, off + q, none⟩ = some u := fun q hq => by
    obtain ⟨i, j, hi, hj, rfl⟩ := flat_at hq
    obtain ⟨cs, hcs⟩ : ∃ cs, css[i]? = some cs := ⟨_, List.getElem?_eq_getElem hi⟩
    have hl := h.len i cs hcs
    obtain ⟨x, hx⟩ : ∃ x, cs[j]? = some x := ⟨_, List.getElem?_eq_getElem (by omega)⟩
    obtain ⟨u, hu, _⟩ := h.cell i cs j x hcs hx
    exact ⟨u, by rw [← Nat.add_assoc]; exact hu⟩
  refine ⟨(List.range (css.length * sz)).map fun q => (w.cell? ⟨b, off + q, none⟩).getD undef, rfl, ?_, ?_⟩
  · intro w' hw'
    have hcell : ∀ x, w'.cell? x = w.cell? x := fun x => by simp only [World.cell?, hw']
    simp only [Builtin.firstCells]
    exact run_loadCells (P := P) w' ⟨b, off, none⟩ (css.length * sz) (fun q => (w.cell? ⟨b, off + q, none⟩).getD undef) (fun q hq => by
      obtain ⟨u, hu⟩ := hget q hq
      rw [Addr.add_none, hcell, hu]; rfl)
  · refine ⟨by simp, h.len, fun i cs j x hi hj => ?_⟩
    obtain ⟨u, hu, hp⟩ := h.cell i cs j x hi hj
    have hl := h.len i cs hi
    have hjl : j < sz := by rw [← hl]; exact (List.getElem?_eq_some_iff.1 hj).1
    have hil := (List.getElem?_eq_some_iff.1 hi).1
    refine ⟨u, ?_, hp⟩
    rw [List.getElem?_map, List.getElem?_range (mul_add_lt hil hjl)]
    simp [← Nat.add_assoc, hu]

theorem Src.of_nil {I : Nat → Nat → Prop} {sz : Nat} {q : Option Addr} {cap : Nat} : Src P U w I sz (.slice q 0 cap) [] [] :=
  ⟨rfl, fun _ _ => by cases q with | none => rfl | some p => simp [Builtin.firstCells, loadCells, loadCellsFrom], by simp, fun _ _ h => by simp at h, fun _ _ _ _ h => by simp at h⟩

theorem flat_bytes {I : Nat → Nat → Prop} (s : List UInt8) : Flat P U w I 1 (s.map fun b => [.int .u8 b.toNat]) (s.map fun b => .int .u8 b.toNat) := by
  refine ⟨by simp, fun i cs hi => ?_, fun i cs j x hi hj => ?_⟩
  all_goals
    rw [List.getElem?_map] at hi
    cases hsi : s[i]? with
    | none => rw [hsi] at hi; cases hi
    | some b =>
      rw [hsi] at hi; injection hi with hi; subst hi
      first
      | rfl
      | (cases j with
         | zero => simp at hj; subst hj; exact ⟨_, by simp [hsi], .int _ _ (has_u8 b)⟩
         | succ j => simp at hj)

theorem Src.of_string {I : Nat → Nat → Prop} (s : List UInt8) : Src P U w I 1 (.string ⟨⟨s⟩⟩) (s.map fun b => [.int .u8 b.toNat]) (s.map fun b => .int .u8 b.toNat) := by
  have hs : (⟨⟨s⟩⟩ : ByteArray).size = s.length := rfl
  refine ⟨by simp [Builtin.lenOf, hs], fun w' _ => ?_, flat_bytes s⟩
  simp only [Builtin.firstCells, List.length_map]
  have := mk_data s s.length (Nat.le_refl _)
  rw [List.take_length] at this
  simp only [Sem.run_pure]
  congr 1
  apply Array.ext'
  rw [this]

theorem Src.of_bytes {I : Nat → Nat → Prop} {b off cap : Nat} (s : List UInt8) (h : ∀ (i : Nat) y, s[i]? = some y → w.cell? ⟨b, off + i, none⟩ = some (.int .u8 y.toNat)) : Src P U w I 1 (.slice (some ⟨b, off, none⟩) s.length cap) (s.map fun b => [.int .u8 b.toNat]) (s.map fun b => .int .u8 b.toNat) := by
  refine ⟨by simp [Builtin.lenOf], fun w' hw' => ?_, flat_bytes s⟩
  have hcell : ∀ x, w'.cell? x = w.cell? x := fun x => by simp only [World.cell?, hw']
  simp only [Builtin.firstCells, List.length_map, Nat.mul_one]
  have := run_loadCells_list (P := P) w' ⟨b, off, none⟩ (s.map fun b => .int .u8 b.toNat) (fun j v hj => by
    rw [List.getElem?_map] at hj
    cases hsj : s[j]? with
    | none => rw [hsj] at hj; cases hj
    | some y => rw [hsj] at hj; injection hj with hj; subst hj; rw [Addr.add_none, hcell]; exact h j y hsj)
  rwa [List.length_map] at this

theorem rdBytes_src (r : R P U N L0 G0 w0 G σ a w) {x : Operand} {v : AV U.τ} (h1 : Opd (P := P) G σ w x v (a.eval x)) {k : List UInt8 → Tree U} {rd : List Nat} {ws : List (Nat × AV U.τ)} (h : Does P U σ (rdBytes v k) rd ws) :
    ∃ s rd', Does P U σ (k s) rd' ws ∧ (s.length : Int) ≤ maxLenI ∧ Src P U w G.I 1 (a.eval x) (s.map fun b => [.int .u8 b.toNat]) (s.map fun b => .int .u8 b.toNat) := by
  obtain ⟨s, rd', h2, h3, ⟨_, h4⟩ | ⟨h4, _, _, h5⟩ | ⟨b, off, cap, h4, h5⟩⟩ := rdBytes_ok r h1 h
  · exact ⟨s, rd', h2, h3, by rw [h4]; exact Src.of_string s⟩
  · exact ⟨s, rd', h2, h3, by rw [h4, h5]; exact Src.of_nil⟩
  · exact ⟨s, rd', h2, h3, by rw [h4]; exact Src.of_bytes s h5⟩

theorem Flat.append {I : Nat → Nat → Prop} {sz : Nat} {css dss : List (List (CV U.τ))} {us vs : List Value} (h : Flat P U w I sz css us) (k : Flat P U w I sz dss vs) : Flat P U w I sz (css ++ dss) (us ++ vs) := by
  refine ⟨by rw [List.length_append, h.size, k.size, List.length_append, Nat.add_mul], fun i cs hi => ?_, fun i cs j x hi hj => ?_⟩
  · rw [List.getElem?_append] at hi
    split at hi
    · exact h.len i cs hi
    · exact k.len _ cs hi
  · rw [List.getElem?_append] at hi
    split at hi
    · rename_i hlt
      obtain ⟨u, hu, hp⟩ := h.cell i cs j x hi hj
      exact ⟨u, by rw [List.getElem?_append_left (List.getElem?_eq_some_iff.1 hu).1]; exact hu, hp⟩
    · rename_i hge
      obtain ⟨u, hu, hp⟩ := k.cell _ cs j x hi hj
      have e1 : i * sz + j = us.length + ((i - css.length) * sz + j) := by
        rw [h.size, Nat.sub_mul]
        have : css.length * sz ≤ i * sz := Nat.mul_le_mul_right _ (by omega)
        omega
      refine ⟨u, ?_, hp⟩
      rw [e1, List.getElem?_append_right (by omega)]
      rw [show us.length + ((i - css.length) * sz + j) - us.length = (i - css.length) * sz + j by omega]
      exact hu

theorem zeroOk_ok {e : TypeId} (h : zeroOk U P e = true) : ∃ z, (zeroValue e).run P w = .ok z w ∧ z.cells.size = P.cellsOf e := by
  unfold zeroOk at h
  split at h
  · rename_i ag cs hz
    obtain ⟨z, h1, h2⟩ := zeroCV_ok (w := w) (I := fun _ _ => False) hz
    exact ⟨z, h1, by rw [h2.cells.size]; exact Nat.eq_of_beq_eq_true h⟩
  · cases h

theorem srcOk_ok {u : TypeId} (h : srcOk P u = true) : (∃ e', P.underlying u = some (.slice e')) ∨ P.underlying u = some .string := by
  unfold srcOk at h
  split at h
  · rename_i e hu; exact .inl ⟨_, hu⟩
  · rename_i hu; exact .inr hu
  · cases h

theorem i64_max : IntKind.i64.max = 9223372036854775807 := by decide

def stAt (base : Option Addr) (k : Nat) (us : List Value) : Sem Unit :=
  match base with
  | some ad => storeCells (ad.add k) us
  | none => pure ()

/-- append, where there is room. -/
theorem run_append_in {t u ty e : TypeId} (hu : P.underlying t = some (.slice e)) (hs : srcOk P u = true) (hz : 1 ≤ P.cellsOf e) {base : Option Addr} {n cap : Nat} {x : Value} {css : List (List (CV U.τ))} {us : List Value} {I : Nat → Nat → Prop} (hx : Src P U w I (P.cellsOf e) x css us) (hn : n + css.length ≤ cap)
    {w' : World} (hst : (stAt base (n * P.cellsOf e) us).run P w = .ok () w') :
    (Builtin.append_ #[t, u] ty #[.slice base n cap, x]).run P w = .ok (.slice base (n + css.length) cap) w' := by
  cases base with
  | none =>
    have hw : w = w' := by simpa [stAt] using hst
    subst hw
    rcases srcOk_ok hs with ⟨e', hd⟩ | hd
    all_goals
      simp only [Builtin.append_, List.getElem?_toArray, List.getElem?_cons_zero, List.getElem?_cons_succ, Sem.run_bind, Sem.run_pure, Result.andThen_ok, run_underlying hu, run_underlying hd, run_sizeOf hz]
      simp [hx.len, hn, hx.cells w rfl]
  | some ad =>
    simp only [stAt] at hst
    rcases srcOk_ok hs with ⟨e', hd⟩ | hd
    all_goals
      simp only [Builtin.append_, List.getElem?_toArray, List.getElem?_cons_zero, List.getElem?_cons_succ, Sem.run_bind, Sem.run_pure, Result.andThen_ok, run_underlying hu, run_underlying hd, run_sizeOf hz]
      simp [hx.len, hn, hx.cells w rfl, hst]

/-- append, where there is none. -/
theorem run_append_out {t u ty e : TypeId} (hu : P.underlying t = some (.slice e)) (hs : srcOk P u = true) (hz : 1 ≤ P.cellsOf e) (hbytes : P.bytesOf e ≤ 1000000) {v x : Value} {css dss : List (List (CV U.τ))} {us vs : List Value} {I : Nat → Nat → Prop} {base : Option Addr} {cap : Nat}
    (hv : v = .slice base css.length cap) (h1 : Src P U w I (P.cellsOf e) v css us) (hx : Src P U w I (P.cellsOf e) x dss vs) (hn : cap < css.length + dss.length) (hroom : ((css.length + dss.length : Nat) : Int) * P.bytesOf e ≤ roomI) (hroom' : ((css.length + dss.length : Nat) : Int) ≤ roomI)
    {z : Value} (hzr : ∀ w : World, (zeroValue e).run P w = .ok z w) (hzs : z.cells.size = P.cellsOf e) :
    ∃ newCap w', css.length + dss.length ≤ newCap ∧ (Builtin.append_ #[t, u] ty #[v, x]).run P w = .ok (.slice (some ⟨w.heap.size, 0, none⟩) (css.length + dss.length) newCap) w' ∧
      w'.os = w.os ∧ w'.tape = w.tape ∧ w'.output = w.output ∧ ∃ cells : Array Value, w'.heap = w.heap.push (.cells cells e) ∧ cells.size = newCap * P.cellsOf e ∧ ∀ (q : Nat) u, (us ++ vs)[q]? = some u → cells[q]? = some u := by
  subst hv
  obtain ⟨i, hi, _⟩ := isSome_info hz
  have hib : i.bytes = P.bytesOf e := by simp [Program.bytesOf, hi]
  let need := css.length + dss.length
  let newCap := (Question.appendCap need cap e).cut (w.tape w.drawn (Question.appendCap need cap e))
  have hcap : need ≤ newCap := Nat.le_add_right _ _
  have hus : us.toArray.size = css.length * P.cellsOf e := by simpa using h1.flat.size
  have hvs : vs.toArray.size = dss.length * P.cellsOf e := by simpa using hx.flat.size
  let cells : Array Value := us.toArray ++ vs.toArray ++ Builtin.zeroCells z.cells (newCap - need)
  refine ⟨newCap, { w with drawn := w.drawn + 1, heap := w.heap.push (.cells cells e) }, hcap, ?_, rfl, rfl, rfl, cells, rfl, ?_, fun q u hq => ?_⟩
  · have hn1 : ¬ (css.length + dss.length ≤ cap) := by omega
    have hle : css.length + dss.length ≤ 35184372088832 := by unfold roomI at hroom'; omega
    have hnc := nextslicecap_le hn
    have hmul : Builtin.nextslicecap (css.length + dss.length) cap * i.bytes ≤ 2 ^ 48 := by
      rw [hib]
      have h3 : Builtin.nextslicecap (css.length + dss.length) cap * P.bytesOf e ≤ (2 * (css.length + dss.length) + 1000) * P.bytesOf e := Nat.mul_le_mul_right _ hnc
      have h4 : (2 * (css.length + dss.length) + 1000) * P.bytesOf e = 2 * ((css.length + dss.length) * P.bytesOf e) + 1000 * P.bytesOf e := by rw [Nat.add_mul, Nat.mul_assoc]
      have h5 : (css.length + dss.length) * P.bytesOf e ≤ 35184372088832 := by
        have h := hroom
        unfold roomI at h
        rw [← Int.natCast_mul] at h
        omega
      omega
    have hmul' : ¬ (Builtin.nextslicecap (css.length + dss.length) cap * i.bytes > 2 ^ 48) := by omega
    have f1 := h1.cells { w with drawn := w.drawn + 1 } rfl
    have f2 := hx.cells { w with drawn := w.drawn + 1 } rfl
    have hz' : ∀ w : World, (zeroValue e).run P w = .ok z w := hzr
    rcases srcOk_ok hs with ⟨e', hd⟩ | hd
    all_goals
      simp only [Builtin.append_, List.getElem?_toArray, List.getElem?_cons_zero, List.getElem?_cons_succ, Sem.run_bind, Sem.run_pure, Result.andThen_ok, run_underlying hu, run_underlying hd, run_sizeOf hz]
      simp only [Bool.false_eq_true, if_false, hx.len, Sem.run_bind, Sem.run_pure, Result.andThen_ok, if_neg hn1, typeInfo, run_program, hi, i64_max]
      rw [if_neg (by intro h; omega)]
      simp only [Sem.run_bind, Sem.run_pure, Result.andThen_ok, run_program, hi, if_neg hmul', run_choose, Question.forced, Bool.false_eq_true, if_false, run_askRoom]
      simp only [f1, f2, Result.andThen_ok, Bool.not_false, if_true, hz', newRow, Sem.run_bind, run_newObj, Sem.run_pure]
      rfl
  · have h6 : (Builtin.zeroCells z.cells (newCap - need)).size = (newCap - need) * P.cellsOf e := by simp [Builtin.zeroCells, hzs]
    show (us.toArray ++ vs.toArray ++ Builtin.zeroCells z.cells (newCap - need)).size = _
    rw [Array.size_append, Array.size_append, hus, hvs, h6, ← Nat.add_mul, ← Nat.add_mul]
    congr 1
    have : need = css.length + dss.length := rfl
    omega
  · have hlt := (List.getElem?_eq_some_iff.1 hq).1
    show (us.toArray ++ vs.toArray ++ Builtin.zeroCells z.cells (newCap - need))[q]? = some u
    rw [Array.getElem?_append_left (by simpa using hlt)]
    have : us.toArray ++ vs.toArray = (us ++ vs).toArray := by simp
    rw [this]
    simpa using hq

end
end Go.VI
