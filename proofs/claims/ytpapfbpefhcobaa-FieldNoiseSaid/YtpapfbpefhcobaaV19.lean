import Derived.Test.YtpapfbpefhcobaaV18
/-! Any operation; regions in their own order. -/
set_option linter.unusedVariables false
set_option linter.unusedSimpArgs false
namespace Go.VI
open Go

section
variable {P : Program} {U : Univ} {N : Nat} {L0 : Nat → Nat} {G0 : Ghost} {w0 : World} {G : Ghost} {σ : Slots U} {a : Act} {w : World} {o : Oper} {adv : Adv}

theorem op_goes (hU : UnivOk P U) (r : R P U N L0 G0 w0 G σ a w) (hd : ∀ d, o.dst = some d → d < N) {rd : List Nat} {ws : List (Nat × AV U.τ)} (h : Does P U σ (opTree P adv o) rd ws) : Goal P U N L0 G0 w0 σ o a w ws := by
  cases ho : o.op with
  | move x => exact op_move r hd ho h
  | assign x => exact op_assign r hd ho h
  | pick c x y => exact op_pick r hd ho h
  | alloc t => exact op_alloc r hd ho h
  | box t x => exact op_box r hd ho h
  | build t ps => exact op_build r hd ho h
  | buildSlice t n ps => exact op_buildSlice hU r hd ho h
  | load t x => exact op_load r hd ho h
  | store t x y => exact op_store r hd ho h
  | nilCheck x => exact op_nilCheck r hd ho h
  | binOp op t x y u => exact op_bin r hd ho h
  | unOp op t x => exact op_un r hd ho h
  | convert s d x => exact op_convert r hd ho h
  | makeSlice t l c => exact op_makeSlice r hd ho h
  | slice t x lo hi mx => exact op_slice r hd ho h
  | fieldAddr t x f => exact op_fieldAddr r hd ho h
  | field t x f => exact op_field r hd ho h
  | indexAddr t x i => exact op_indexAddr r hd ho h
  | index t x i => exact op_index r hd ho h
  | extract x i => exact op_extract r hd ho h
  | call c =>
    cases hc : c.callee with
    | value f => exact op_call r hd ho hc h
    | invoke x m => simp only [opTree, ho, hc] at h; exact h.of_fail.elim
    | builtin b =>
      cases b with
      | append => exact op_append r hd ho hc h
      | copy => exact op_copy r hd ho hc h
      | len => exact op_len r hd ho hc h
      | max => exact op_max r hd ho hc h
      | min => exact op_min r hd ho hc h
      | _ => simp only [opTree, ho, hc] at h; exact h.of_fail.elim
  | _ => simp only [opTree, ho] at h; exact h.of_fail.elim

/-- What is left to be shown behind an operation. -/
abbrev After (P : Program) (U : Univ) (N : Nat) (L0 : Nat → Nat) (G0 : Ghost) (w0 : World) (σ : Slots U) (a : Act) (w : World) : Prop := ∃ G, R P U N L0 G0 w0 G σ a w

theorem yielded_of {ops : Array Oper} (r : R P U N L0 G0 w0 G σ a w) {j t : Nat} {g : Oper} {b : Bool} (hj : ops[j]? = some g) (hg : g.dst = some t) (hb : σ t = .one (.bool b)) : yielded ops a.tmps j = some b := by
  have hs := r.slots t
  rw [hb] at hs
  have hv : a.tmps.getD t undef = .bool b := PC.of_bool (by
    rcases hs with hs | ⟨_, _, h1, _⟩
    · exact hs
    · simp [cont] at h1)
  have ht : a.tmps[t]? = some (.bool b) := by
    rw [Array.getD_eq_getD_getElem?] at hv
    cases hx : a.tmps[t]? with
    | none => rw [hx] at hv; cases hv
    | some v => rw [hx] at hv; exact congrArg some hv
  simp [yielded, hj, hg, ht]

/-- An operation of a region, guard and all. -/
theorem oper_wp (hU : UnivOk P U) {Q : Exit → Act → World → Prop} {ops : List Oper} (r : R P U N L0 G0 w0 G σ a w) (hN : adv.n ≤ N) {i : Nat} (hi : ops[i]? = some o) {rd : List Nat} {ws : List (Nat × AV U.τ)} (h : Does P U σ (operTree P adv ops o) rd ws)
    {K : Act → World → Prop} (hK : ∀ a' w', After P U N L0 G0 w0 (updsσ σ ws) a' w' → K a' w') : wpOp P ops.toArray Q i K a w := by
  have hi' : ops.toArray[i]? = some o := by simpa using hi
  unfold wpOp
  rw [hi']
  simp only
  unfold operTree at h
  obtain ⟨hdst, h⟩ := Does.of_cond' h
  have hd : ∀ d, o.dst = some d → d < N := fun d hdd => by
    rw [hdd] at hdst
    simp only at hdst
    rcases Nat.lt_or_ge d adv.n with h1 | h1
    · exact Nat.lt_of_lt_of_le h1 hN
    · rw [Nat.ble_eq_true_of_le h1] at hdst; cases hdst
  have go : ∀ rd', Does P U σ (opTree P adv o) rd' ws → o.wp P a w K Q := fun rd' h => Oper.wp_mono hK (Goes.wp (op_goes hU r hd h))
  cases hg : o.guard with
  | none =>
    rw [hg] at h
    have hw : Region.wanted o (yielded ops.toArray a.tmps) = true := by simp [Region.wanted, hg]
    rw [if_pos hw]
    exact .inl (go _ h)
  | some p =>
    obtain ⟨j, want⟩ := p
    rw [hg] at h
    simp only at h
    cases hj : ops[j]? with
    | none => rw [hj] at h; exact h.of_fail.elim
    | some g =>
      rw [hj] at h
      simp only at h
      cases hgd : g.dst with
      | none => rw [hgd] at h; exact h.of_fail.elim
      | some t =>
        rw [hgd] at h
        have skip : ∀ rd', Does P U σ (wr o.dst (.tup [])) rd' ws → K (a.put o.dst undef) w := fun rd' h => by
          refine hK _ _ ⟨G, ?_⟩
          rcases h.of_wr with ⟨k1, k2⟩ | ⟨d, k1, k2, k3⟩
          · rw [k1, k2]; exact r
          · rw [k1, k2]; exact r.put (hd d k1) k3 rfl (fun _ => ⟨#[], rfl, rfl, fun j a cs hj => by simp at hj⟩)
        obtain ⟨_, h⟩ := h.of_read
        split at h
        · rename_i hst
          have hw : Region.wanted o (yielded ops.toArray a.tmps) = false := by
            have hs := r.slots t
            rw [hst] at hs
            obtain ⟨us, hv, _⟩ := hs
            have hy : yielded ops.toArray a.tmps j = none := by
              have hj2 : ops.toArray[j]? = some g := by simpa using hj
              rw [Array.getD_eq_getD_getElem?] at hv
              cases hx : a.tmps[t]? with
              | none => simp [yielded, hj2, hgd, hx]
              | some v =>
                rw [hx] at hv
                have hv : v = .tuple us := hv
                subst hv
                simp [yielded, hj2, hgd, hx]
            simp [Region.wanted, hg, hy]
          rw [hw]
          simp only [Bool.false_eq_true, if_false]
          exact skip _ h
        obtain ⟨b, _, hb, h⟩ := h.of_split
        have hy := yielded_of (ops := ops.toArray) r (j := j) (g := g) (by simpa using hj) hgd hb
        have hw : Region.wanted o (yielded ops.toArray a.tmps) = (b == want) := by
          simp only [Region.wanted, hg, hy]
          cases b <;> cases want <;> rfl
        rw [hw]
        cases hbw : (b == want) with
        | true =>
          rw [hbw] at h
          simp only [if_true]
          exact .inl (go _ h)
        | false =>
          rw [hbw] at h
          simp only [Bool.false_eq_true, if_false]
          exact skip _ h

/-- The operations in the order in which they stand. -/
inductive Lex (P : Program) (U : Univ) (tree : Oper → Tree U) : List Oper → Slots U → List (List Nat × List (Nat × AV U.τ)) → Slots U → Prop
  | nil (σ : Slots U) : Lex P U tree [] σ [] σ
  | cons (o : Oper) (rest : List Oper) (σ : Slots U) (rd : List Nat) (ws : List (Nat × AV U.τ)) (D : List (List Nat × List (Nat × AV U.τ))) (σ' : Slots U) :
      Does P U σ (tree o) rd ws → Lex P U tree rest (updsσ σ ws) D σ' → Lex P U tree (o :: rest) σ ((rd, ws) :: D) σ'

/-- That two operations need no order between them. -/
def Apart2 (bits : Nat) (rd wr : List Nat) (e : Nat × List Nat × List Nat) : Prop :=
  Nat.testBit bits e.1 = true ∨ (disjoint wr e.2.2 = true ∧ disjoint wr e.2.1 = true ∧ disjoint rd e.2.2 = true)

theorem apartOk_all {bits : Nat} {rd wr : List Nat} : ∀ {logs : Log}, apartOk bits rd wr logs = true → ∀ e ∈ logs, Apart2 bits rd wr e
  | [], _, e, he => by simp at he
  | (j, rd', wr') :: r, h, e, he => by
    simp only [apartOk] at h
    cases hb : (Nat.testBit bits j || (disjoint wr wr' && disjoint wr rd' && disjoint rd wr')) with
    | false => rw [hb] at h; cases h
    | true =>
      rw [hb] at h
      rcases List.mem_cons.1 he with rfl | he
      · simp only [Bool.or_eq_true, Bool.and_eq_true] at hb
        rcases hb with hb | ⟨⟨h1, h2⟩, h3⟩
        · exact .inl hb
        · exact .inr ⟨h1, h2, h3⟩
      · exact apartOk_all h e he

theorem evOps_inv {Res : Type} {Φ : Tab U} (hΦ : SoundTab P U Φ) {all : List Oper} {draw : Bool} {before : List Nat} {k : St U → Option Res} {out : Res} : ∀ (rest : List Oper) (i : Nat) (logs : Log) (st : St U),
    evOps P Φ adv all draw before rest i logs st k = some out →
    ∃ D st', Lex P U (operTree P adv all) rest st.get D st'.get ∧ k st' = some out ∧ (draw = true →
      (∀ e ∈ logs, ∀ (m : Nat) d, D[m]? = some d → Apart2 (before.getD (i + m) 0) d.1 (d.2.map (·.1)) e) ∧
      ∀ (p m : Nat) d d', p < m → D[p]? = some d → D[m]? = some d' → Apart2 (before.getD (i + m) 0) d'.1 (d'.2.map (·.1)) (i + p, d.1, d.2.map (·.1)))
  | [], i, logs, st, h => ⟨[], st, .nil _, h, fun _ => ⟨fun e he m d hm => by simp at hm, fun p m d d' _ hp => by simp at hp⟩⟩
  | o :: rest, i, logs, st, h => by
    simp only [evOps] at h
    obtain ⟨st', rd, ws, h1, h2, h3⟩ := evT_inv hΦ _ _ _ _ _ h
    rw [List.append_nil] at h3
    cases hc : (cond draw (apartOk (before.getD i 0) rd.reverse (ws.map (·.1)) logs) true) with
    | false => rw [hc] at h3; cases h3
    | true =>
      rw [hc] at h3
      simp only [cond_true] at h3
      obtain ⟨D, st2, g1, g2, g3⟩ := evOps_inv hΦ rest (i + 1) _ _ h3
      rw [get_puts, h1] at g1
      have h2' : Does P U st.get (operTree P adv all o) rd ws := h2
      refine ⟨(rd, ws) :: D, st2, .cons o rest _ rd ws D _ h2' g1, g2, fun hdraw => ?_⟩
      subst hdraw
      obtain ⟨k1, k2⟩ := g3 rfl
      simp only [cond_true] at hc k1
      have rev : ∀ (l m : List Nat), disjoint l.reverse m = true → disjoint l m = true := fun l m hd => by
        have iff : ∀ (l m : List Nat), disjoint l m = true ↔ ∀ x ∈ l, x ∉ m := by
          intro l m
          induction l with
          | nil => simp [disjoint]
          | cons x l ih =>
            simp only [disjoint]
            cases hm : memNat x m with
            | true =>
              have := (memNat_iff x m).1 hm
              simp [this]
            | false =>
              have : x ∉ m := fun h => by rw [(memNat_iff x m).2 h] at hm; cases hm
              simp [this, ih]
        rw [iff] at hd ⊢
        intro x hx
        exact hd x (List.mem_reverse.2 hx)
      have fix : ∀ {bits : Nat} {wr : List Nat} {e : Nat × List Nat × List Nat}, Apart2 bits rd.reverse wr e → Apart2 bits rd wr e := fun h => by
        rcases h with h | ⟨a1, a2, a3⟩
        · exact .inl h
        · exact .inr ⟨a1, a2, rev _ _ a3⟩
      have fix2 : ∀ {bits : Nat} {rd2 wr : List Nat} {j : Nat} {wr2 : List Nat}, Apart2 bits rd2 wr (j, rd.reverse, wr2) → Apart2 bits rd2 wr (j, rd, wr2) := fun h => by
        rcases h with h | ⟨a1, a2, a3⟩
        · exact .inl h
        · refine .inr ⟨a1, ?_, a3⟩
          have iff : ∀ (l m : List Nat), disjoint l m = true ↔ ∀ x ∈ l, x ∉ m := by
            intro l m
            induction l with
            | nil => simp [disjoint]
            | cons x l ih =>
              simp only [disjoint]
              cases hm : memNat x m with
              | true =>
                have := (memNat_iff x m).1 hm
                simp [this]
              | false =>
                have : x ∉ m := fun h => by rw [(memNat_iff x m).2 h] at hm; cases hm
                simp [this, ih]
          rw [iff] at a2 ⊢
          intro x hx hm
          exact a2 x hx (List.mem_reverse.2 hm)
      refine ⟨fun e he m d hm => ?_, fun p m d d' hpm hp hm => ?_⟩
      · cases m with
        | zero =>
          simp at hm; subst hm
          exact fix (apartOk_all hc e he)
        | succ m =>
          rw [show i + (m + 1) = i + 1 + m by omega]
          exact k1 e (List.mem_cons_of_mem _ he) m d (by simpa using hm)
      · cases m with
        | zero => omega
        | succ m =>
          rw [show i + (m + 1) = i + 1 + m by omega]
          cases p with
          | zero =>
            simp at hp; subst hp
            exact fix2 (k1 (i, rd.reverse, ws.map (·.1)) (List.mem_cons_self ..) m d' (by simpa using hm))
          | succ p =>
            rw [show i + (p + 1) = i + 1 + p by omega]
            exact k2 p m d d' (by omega) (by simpa using hp) (by simpa using hm)

/-- A region in its own order. -/
theorem lex_wpOps (hU : UnivOk P U) {Q : Exit → Act → World → Prop} {all : List Oper} (hN : adv.n ≤ N) {σ' : Slots U} (hQ : ∀ a w, After P U N L0 G0 w0 σ' a w → Q .normal a w) : ∀ (rest : List Oper) (i : Nat) (σ : Slots U) (D : List (List Nat × List (Nat × AV U.τ))) (a : Act) (w : World),
    (∀ j, rest[j]? = all[i + j]?) → Lex P U (operTree P adv all) rest σ D σ' → After P U N L0 G0 w0 σ a w → wpOps P all.toArray Q (List.range' i rest.length) a w
  | [], i, σ, D, a, w, _, hL, hR => by
    cases hL
    exact hQ a w hR
  | o :: rest, i, σ, D, a, w, ha, hL, ⟨G, r⟩ => by
    cases hL with
    | cons _ _ _ rd ws D' _ hdo hL =>
      rw [List.length_cons, List.range'_succ, wpOps_cons]
      refine oper_wp hU r hN (o := o) (by have := ha 0; simpa using this.symm) hdo (fun a' w' hR' => ?_)
      exact lex_wpOps hU hN hQ rest (i + 1) _ D' a' w' (fun j => by have := ha (j + 1); rw [show i + (j + 1) = i + 1 + j by omega] at this; simpa using this) hL hR'

end
end Go.VI
