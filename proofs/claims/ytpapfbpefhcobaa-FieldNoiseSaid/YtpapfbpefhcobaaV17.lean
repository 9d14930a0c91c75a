import Derived.Test.YtpapfbpefhcobaaV16
/-! Calls. -/
set_option linter.unusedVariables false
set_option linter.unusedSimpArgs false
namespace Go.VI
open Go

abbrev Bs (U : Univ) := List (Nat × Nat × List (CV U.τ))

section
variable {P : Program} {U : Univ} {N : Nat} {L0 : Nat → Nat} {G0 : Ghost} {w0 : World} {G : Ghost} {σ : Slots U} {a : Act} {w : World} {o : Oper} {adv : Adv}

theorem memNat_iff (t : Nat) : ∀ l : List Nat, memNat t l = true ↔ t ∈ l
  | [] => by simp [memNat]
  | s :: r => by
    simp only [memNat]
    by_cases h : t = s
    · subst h; simp
    · rw [beq_ne h]; simp [memNat_iff t r, h]

/-- The arguments: what goes along, and the boxes that are lent. -/
theorem argsT_ok (r : R P U N L0 G0 w0 G σ a w) : ∀ (l : List (TypeId × Operand)) {k : List (Arg U.τ) → Bs U → Tree U} {rd : List Nat} {ws : List (Nat × AV U.τ)}, Does P U σ (argsT P l k) rd ws →
    ∃ as bs rd', Does P U σ (k as bs) rd' ws ∧ (bs.map (·.1)).Nodup ∧ (ptrs as).length = bs.length ∧ (∀ q ∈ bs, σ q.1 = .box q.2.2) ∧
      (∀ (m : Nat) q l, bs[m]? = some q → (ptrs as)[m]? = some l → q.2.1 + l.length ≤ q.2.2.length ∧ l = (q.2.2.drop q.2.1).take l.length) ∧
      ∀ (who : Nat → Option (Nat × Option Nat)) (loc : Nat → Nat × Nat) (j : Nat),
        (∀ (m : Nat) q l, bs[m]? = some q → (ptrs as)[m]? = some l → BoxRel P U w G.I who (vbase + (j + m)) (loc (vbase + (j + m))) l ∧ loc (vbase + (j + m)) = ((G.loc q.1).1, (G.loc q.1).2 + q.2.1)) →
        ArgsRel P U w G.I who loc as (l.map fun p => a.eval p.2) j
  | [], k, rd, ws, h => ⟨[], [], rd, h, List.nodup_nil, rfl, fun _ h => by simp at h, fun _ _ _ h => by simp at h, fun who loc j _ => .nil j⟩
  | (t, x) :: l, k, rd, ws, h => by
    simp only [argsT] at h
    obtain ⟨v, _, h1, h⟩ := r.opd h
    have val : ∀ ag cs rd', cellsOf v = some (ag, cs) → Does P U σ (argsT P l fun as bs => k (.val ag cs :: as) bs) rd' ws → ∃ as bs rd', Does P U σ (k as bs) rd' ws ∧ (bs.map (·.1)).Nodup ∧ (ptrs as).length = bs.length ∧ (∀ q ∈ bs, σ q.1 = .box q.2.2) ∧
        (∀ (m : Nat) q l, bs[m]? = some q → (ptrs as)[m]? = some l → q.2.1 + l.length ≤ q.2.2.length ∧ l = (q.2.2.drop q.2.1).take l.length) ∧
        ∀ (who : Nat → Option (Nat × Option Nat)) (loc : Nat → Nat × Nat) (j : Nat),
          (∀ (m : Nat) q l, bs[m]? = some q → (ptrs as)[m]? = some l → BoxRel P U w G.I who (vbase + (j + m)) (loc (vbase + (j + m))) l ∧ loc (vbase + (j + m)) = ((G.loc q.1).1, (G.loc q.1).2 + q.2.1)) →
          ArgsRel P U w G.I who loc as (((t, x) :: l).map fun p => a.eval p.2) j := by
      intro ag cs rd' hc h
      obtain ⟨as, bs, rd', g1, g2, g3, g4, g5, g6⟩ := argsT_ok r l h
      obtain ⟨t', h3, _⟩ := h1.ok
      exact ⟨_, bs, rd', g1, g2, g3, g4, g5, fun who loc j hh => .val ag cs _ as _ j (cellsOf_ok h3 hc) (g6 who loc j hh)⟩
    cases hv : v with
    | one c =>
      cases hcv : c with
      | ref s off =>
        rw [hv, hcv] at h h1
        obtain ⟨⟨cs, hs⟩, hp⟩ := h1.ref
        obtain ⟨_, h⟩ := h.of_read
        rw [hs] at h
        simp only at h
        split at h
        · rename_i e hu
          cases hl : takeCells cs off (P.cellsOf e) with
          | none => rw [hl] at h; exact h.of_fail.elim
          | some l0 =>
            rw [hl] at h
            obtain ⟨k1, k2⟩ := takeCells_some hl
            have hlen : l0.length = P.cellsOf e := by rw [k2, List.length_take, List.length_drop]; omega
            obtain ⟨as, bs, rd', g1, g2, g3, g4, g5, g6⟩ := argsT_ok r l h
            obtain ⟨g0, g1⟩ := Does.of_cond' g1
            have hns : s ∉ bs.map (·.1) := fun hm => by rw [(memNat_iff s _).2 hm] at g0; cases g0
            refine ⟨_, _, rd', g1, ?_, by simp [ptrs, g3], ?_, ?_, ?_⟩
            · simp only [List.map_cons, List.nodup_cons]
              exact ⟨hns, g2⟩
            · intro q hq
              rcases List.mem_cons.1 hq with rfl | hq
              · exact hs
              · exact g4 q hq
            · intro m q l' hm hl'
              cases m with
              | zero =>
                simp [ptrs] at hm hl'
                subst hm; subst hl'
                exact ⟨by show off + l0.length ≤ cs.length; omega, by rw [hlen]; exact k2⟩
              | succ m => exact g5 m q l' (by simpa using hm) (by simpa [ptrs] using hl')
            · intro who loc j hh
              have h0 := hh 0 (s, off, cs) l0 rfl rfl
              rw [Nat.add_zero] at h0
              simp only [List.map_cons]
              have := ArgsRel.ptr (P := P) (U := U) (w := w) (I := G.I) (who := who) (loc := loc) l0 as (l.map fun p => a.eval p.2) j h0.1 (g6 who loc (j + 1) fun m q l' hm hl' => by
                have := hh (m + 1) q l' (by simpa using hm) (by simpa [ptrs] using hl')
                rwa [show j + (m + 1) = j + 1 + m by omega] at this)
              rw [h0.2] at this
              rw [hp]
              exact this
        · exact h.of_fail.elim
      | _ =>
        rw [hv, hcv] at h
        first
        | (simp only [cellsOf] at h; exact h.of_fail.elim)
        | (exact val _ _ _ (by rw [hv, hcv]; rfl) h)
    | agg cs => rw [hv] at h; exact val _ _ _ (by rw [hv]; rfl) h
    | _ => rw [hv] at h; exact h.of_fail.elim

/-! ### whose is what, on either side of the call -/
def bsIdx (bs : Bs U) (s : Nat) : Option Nat := bs.findIdx? fun q => q.1 == s

theorem bsIdx_of {bs : Bs U} (h : (bs.map (·.1)).Nodup) {j : Nat} {q : Nat × Nat × List (CV U.τ)} (hj : bs[j]? = some q) : bsIdx bs q.1 = some j := by
  induction bs generalizing j with
  | nil => simp at hj
  | cons p bs ih =>
    simp only [List.map_cons, List.nodup_cons] at h
    simp only [bsIdx, List.findIdx?_cons]
    cases j with
    | zero => simp at hj; subst hj; simp
    | succ j =>
      simp at hj
      have hm : q ∈ bs := List.mem_of_getElem? hj
      have hne : ¬ p.1 = q.1 := fun he => h.1 (by rw [he]; exact List.mem_map_of_mem hm)
      have := ih h.2 hj
      simp only [bsIdx] at this
      simp [hne, this]

theorem bsIdx_some {bs : Bs U} {s j : Nat} (h : bsIdx bs s = some j) : ∃ q, bs[j]? = some q ∧ q.1 = s := by
  obtain ⟨h1, h2, _⟩ := List.findIdx?_eq_some_iff_getElem.1 h
  exact ⟨bs[j], List.getElem?_eq_getElem h1, by simpa using h2⟩

/-- Whose a block is, as the callee has it. -/
def whoC (G : Ghost) (bs : Bs U) (lens : Nat → Nat) (b : Nat) : Option (Nat × Option Nat) :=
  match G.who b with
  | some (s, x) =>
    match bsIdx bs s with
    | some j =>
      match x with
      | none => some (vbase + j, none)
      | some i => if ((bs[j]?.map (·.2.1)).getD 0) ≤ i ∧ i < ((bs[j]?.map (·.2.1)).getD 0) + lens j then some (vbase + j, some (i - ((bs[j]?.map (·.2.1)).getD 0))) else none
    | none => none
  | none => none

def locC (G : Ghost) (bs : Bs U) (t : Nat) : Nat × Nat :=
  match bs[t - vbase]? with
  | some q => ((G.loc q.1).1, (G.loc q.1).2 + q.2.1)
  | none => (0, 0)

/-- And as the caller has it, behind the call. -/
def whoB (G G' : Ghost) (bs : Bs U) (lens : Nat → Nat) (sz : Nat) (b : Nat) : Option (Nat × Option Nat) :=
  match G'.who b with
  | some (t, x) =>
    if vbase ≤ t then
      match bs[t - vbase]? with
      | some q => match x with
        | none => some (q.1, none)
        | some i => some (q.1, some (q.2.1 + i))
      | none => none
    else none
  | none => if (whoC G bs lens b).isSome then none else if b < sz then G.who b else none

theorem whoC_none {G : Ghost} {bs : Bs U} {lens : Nat → Nat} {b : Nat} {j : Nat} {q : Nat × Nat × List (CV U.τ)} (hn : (bs.map (·.1)).Nodup) (hj : bs[j]? = some q) (h : G.who b = some (q.1, none)) : whoC G bs lens b = some (vbase + j, none) := by
  simp [whoC, h, bsIdx_of hn hj]

theorem whoC_some {G : Ghost} {bs : Bs U} {lens : Nat → Nat} {b i : Nat} {j : Nat} {q : Nat × Nat × List (CV U.τ)} (hn : (bs.map (·.1)).Nodup) (hj : bs[j]? = some q) (h : G.who b = some (q.1, some i)) (h1 : q.2.1 ≤ i) (h2 : i < q.2.1 + lens j) :
    whoC G bs lens b = some (vbase + j, some (i - q.2.1)) := by
  simp [whoC, h, bsIdx_of hn hj, hj, h1, h2]

/-- What is lent out. -/
def Lent (bs : Bs U) (lens : Nat → Nat) (L : Nat × Option Nat) : Prop :=
  ∃ (j : Nat) (q : Nat × Nat × List (CV U.τ)), bs[j]? = some q ∧ L.1 = q.1 ∧ ∀ i, L.2 = some i → q.2.1 ≤ i ∧ i < q.2.1 + lens j

theorem whoC_not {G : Ghost} {bs : Bs U} {lens : Nat → Nat} {b : Nat} {L : Nat × Option Nat} (h : G.who b = some L) (hL : ¬ Lent bs lens L) : whoC G bs lens b = none := by
  obtain ⟨s, x⟩ := L
  simp only [whoC, h]
  cases hi : bsIdx bs s with
  | none => rfl
  | some j =>
    obtain ⟨q, hq, hqs⟩ := bsIdx_some hi
    cases x with
    | none => exact absurd ⟨j, q, hq, hqs.symm, fun i hi => by cases hi⟩ hL
    | some i =>
      simp only [hq, Option.map_some, Option.getD_some]
      rw [if_neg (fun hh => hL ⟨j, q, hq, hqs.symm, fun i' hi' => by injection hi' with hi'; subst hi'; exact hh⟩)]

theorem whoC_isSome {G : Ghost} {bs : Bs U} {lens : Nat → Nat} {b : Nat} (h : (whoC G bs lens b).isSome = true) : (G.who b).isSome = true := by
  unfold whoC at h
  cases hw : G.who b with
  | none => rw [hw] at h; cases h
  | some L => rfl

theorem backs_get {bs : Bs U} (hn : (bs.map (·.1)).Nodup) : ∀ {ls : List (List (CV U.τ))}, ls.length = bs.length → ∀ (σ : Slots U) (t : Nat), (∀ (j : Nat) q l, bs[j]? = some q → ls[j]? = some l → q.1 = t → updsσ σ (backs bs ls) t = .box (setCells q.2.2 q.2.1 l)) ∧ ((∀ q ∈ bs, q.1 ≠ t) → updsσ σ (backs bs ls) t = σ t) := by
  induction bs with
  | nil =>
    intro ls hl σ t
    exact ⟨fun j q l h => by simp at h, fun _ => by simp [backs, updsσ]⟩
  | cons p bs ih =>
    intro ls hl σ t
    obtain ⟨s, off, cs⟩ := p
    cases ls with
    | nil => simp at hl
    | cons l ls =>
      simp only [List.map_cons, List.nodup_cons] at hn
      simp only [List.length_cons, Nat.add_right_cancel_iff] at hl
      obtain ⟨h1, h2⟩ := ih hn.2 hl (upd σ s (.box (setCells cs off l))) t
      simp only [backs, updsσ]
      refine ⟨fun j q l' hj hl' hq => ?_, fun hq => ?_⟩
      · cases j with
        | zero =>
          simp at hj hl'
          subst hj; subst hl'
          simp only at hq
          subst hq
          rw [h2 (fun q' hq' he => hn.1 (he ▸ List.mem_map_of_mem hq'))]
          simp [upd]
        | succ j => exact h1 j q l' (by simpa using hj) (by simpa using hl') hq
      · rw [h2 (fun q' hq' => hq q' (List.mem_cons_of_mem _ hq'))]
        have := hq (s, off, cs) (List.mem_cons_self ..)
        simp [upd, Ne.symm this]

end
end Go.VI
