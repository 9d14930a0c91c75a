import Derived.Test.YtpapfbpefhcobaaV20
/-! Code. -/
set_option linter.unusedVariables false
set_option linter.unusedSimpArgs false
namespace Go.VI
open Go

section
variable {U : Univ} {Res : Type}

theorem forceC_eq (c : CV U.τ) (k : CV U.τ → Option Res) : forceC c k = k c := by
  cases c <;> first | rfl | (rename_i f; cases f <;> rfl)

theorem forceCs_eq : ∀ (cs : List (CV U.τ)) (k : List (CV U.τ) → Option Res), forceCs cs k = k cs
  | [], _ => rfl
  | c :: r, k => by simp only [forceCs, forceC_eq, forceCs_eq r]

theorem forceTs_eq : ∀ (vs : List (Bool × List (CV U.τ))) (k : List (Bool × List (CV U.τ)) → Option Res), forceTs vs k = k vs
  | [], _ => rfl
  | (true, cs) :: r, k => by simp only [forceTs, forceCs_eq, forceTs_eq r]
  | (false, cs) :: r, k => by simp only [forceTs, forceCs_eq, forceTs_eq r]

theorem forceV_eq (v : AV U.τ) (k : AV U.τ → Option Res) : forceV v k = k v := by
  cases v with
  | undef => rfl
  | one c => simp only [forceV, forceC_eq]
  | agg cs => simp only [forceV, forceCs_eq]
  | tup vs => simp only [forceV, forceTs_eq]
  | box cs => simp only [forceV, forceCs_eq]
  | bblk e s t => cases t <;> rfl
  | im cs => simp only [forceV, forceCs_eq]

theorem forceSt_eq : ∀ (st : St U) (k : St U → Option Res), forceSt st k = k st
  | [], _ => rfl
  | (s, v) :: r, k => by simp only [forceSt, forceV_eq, forceSt_eq r]
end

section
variable {P : Program} {U : Univ} {N : Nat} {L0 : Nat → Nat} {G0 : Ghost} {w0 : World} {G : Ghost} {σ σ' : Slots U} {a : Act} {w : World} {adv : Adv}

/-- Another telling of the same state. -/
theorem R.tell (r : R P U N L0 G0 w0 G σ a w) (h : ∀ t, SlotOk P U G σ' w t (σ' t) (a.tmps.getD t undef)) (hb : ∀ t cs', vbase ≤ t → σ' t = .box cs' → ∃ cs, σ t = .box cs ∧ cs'.length = cs.length) : R P U N L0 G0 w0 G σ' a w where
  defers := r.defers
  size := r.size
  small := r.small
  slots := h
  imm := r.imm
  who := r.who
  step := r.step
  loc := r.loc
  lens t cs' ht hσ := by
    obtain ⟨cs, h1, h2⟩ := hb t cs' ht hσ
    rw [h2]; exact r.lens t cs ht h1
  rest t cs' ht hσ o ho := by
    obtain ⟨cs, h1, h2⟩ := hb t cs' ht hσ
    exact r.rest t cs ht h1 o (by rw [← h2]; exact ho)

/-- Some slots are let go. -/
theorem R.weaken (r : R P U N L0 G0 w0 G σ a w) (h : ∀ s, (σ' s = σ s ∧ ∀ u, refOf (σ s) = some u → σ' u = σ u) ∨ σ' s = .undef ∨ σ' s = .one .any) : R P U N L0 G0 w0 G σ' a w := by
  refine r.tell (fun t => ?_) (fun t cs' ht hσ => ?_)
  · rcases h t with ⟨h1, h2⟩ | h1 | h1
    · rw [h1]
      have hs := r.slots t
      cases hv : σ t with
      | one c =>
        rw [hv] at hs h2
        cases c with
        | ref s off =>
          obtain ⟨⟨cs, k1⟩, k2⟩ := hs
          exact ⟨⟨cs, by rw [h2 s rfl]; exact k1⟩, k2⟩
        | sref s =>
          obtain ⟨e, y, q, cap, k1, k2⟩ := hs
          exact ⟨e, y, q, cap, by rw [h2 s rfl]; exact k1, k2⟩
        | eref s i =>
          obtain ⟨⟨e, y, q, k1⟩, k2⟩ := hs
          exact ⟨⟨e, y, q, by rw [h2 s rfl]; exact k1⟩, k2⟩
        | _ => exact hs
      | _ => rw [hv] at hs; exact hs
    · rw [h1]; trivial
    · rw [h1]; trivial
  · rcases h t with ⟨h1, _⟩ | h1 | h1
    · exact ⟨cs', by rw [← h1]; exact hσ, rfl⟩
    · rw [h1] at hσ; cases hσ
    · rw [h1] at hσ; cases hσ

theorem get_cons (s : Nat) (v : AV U.τ) (r : St U) (t : Nat) : St.get ((s, v) :: r) t = if s = t then v else St.get r t := by
  simp only [St.get]
  by_cases h : s = t
  · subst h; simp
  · rw [beq_ne h]; simp [h]

theorem forget_get (t : Nat) : ∀ (st : St U) (s : Nat), (forget t st).get s = if s = t then .undef else if refOf (st.get s) = some t then .one .any else st.get s
  | [], s => by
    have h1 : (forget t ([] : St U)).get s = .undef := rfl
    have h2 : St.get ([] : St U) s = .undef := rfl
    rw [h1, h2]
    simp [refOf]
  | (q, v) :: r, s => by
    have ih := forget_get t r s
    simp only [forget]
    by_cases hq : q = t
    · subst hq
      rw [Nat.beq_refl, cond_true, ih, get_cons]
      by_cases hs : s = q
      · simp [hs]
      · simp [hs, Ne.symm hs]
    · rw [beq_ne hq, cond_false]
      have tail : ∀ v' : AV U.τ, (if q = s then v' else (forget t r).get s) = if s = t then .undef else if refOf (if q = s then v else St.get r s) = some t then (if q = s then v' else .one .any) else (if q = s then v' else St.get r s) := by
        intro v'
        by_cases hqs : q = s
        · subst hqs
          simp [hq]
        · simp only [if_neg hqs, ih]
      rw [get_cons]
      cases hr : refOf v with
      | none =>
        simp only [cond_false]
        rw [get_cons, tail v]
        by_cases hqs : q = s
        · simp [hqs, hr]
        · simp [hqs]
      | some u =>
        simp only
        by_cases hu : u = t
        · subst hu
          rw [Nat.beq_refl, cond_true, get_cons, tail]
          by_cases hqs : q = s
          · simp [hqs, hr]
          · simp [hqs]
        · rw [beq_ne hu, cond_false, get_cons, tail v]
          by_cases hqs : q = s
          · simp [hqs, hr, hu]
          · simp [hqs]

theorem After.forget {st : St U} (t : Nat) (h : After P U N L0 G0 w0 st.get a w) : After P U N L0 G0 w0 (Go.VI.forget t st).get a w := by
  obtain ⟨G, r⟩ := h
  refine ⟨G, r.weaken fun s => ?_⟩
  rw [forget_get]
  by_cases hs : s = t
  · right; left; simp [hs]
  · simp only [hs, if_false]
    by_cases hr : refOf (st.get s) = some t
    · right; right; simp [hr]
    · left
      refine ⟨by simp [hr], fun u hu => ?_⟩
      rw [forget_get]
      have hut : u ≠ t := fun he => hr (by rw [hu, he])
      -- what is pointed at is an owner, and points at nothing
      have hown : refOf (st.get u) = none := by
        have hsl := r.slots s
        cases hv : st.get s with
        | one c =>
          rw [hv] at hsl hu
          cases c with
          | ref s' off => simp only [refOf, Option.some.injEq] at hu; subst hu; obtain ⟨⟨cs, k1⟩, _⟩ := hsl; rw [k1]; rfl
          | sref s' => simp only [refOf, Option.some.injEq] at hu; subst hu; obtain ⟨e, y, q, cap, k1, _⟩ := hsl; rw [k1]; rfl
          | eref s' i => simp only [refOf, Option.some.injEq] at hu; subst hu; obtain ⟨⟨e, y, q, k1⟩, _⟩ := hsl; rw [k1]; rfl
          | _ => simp [refOf] at hu
        | _ => rw [hv] at hu; simp [refOf] at hu
      simp [hut, hown]

theorem After.freshen : ∀ (ops : List Oper) {st : St U}, After P U N L0 G0 w0 st.get a w → After P U N L0 G0 w0 (Go.VI.freshen ops st).get a w
  | [], st, h => h
  | o :: r, st, h => by
    show After P U N L0 G0 w0 (Go.VI.freshen r (match o.dst with | some d => cond (st.get d).owner (Go.VI.forget d st) st | none => st)).get a w
    refine After.freshen r ?_
    cases o.dst with
    | none => exact h
    | some d =>
      show After P U N L0 G0 w0 (cond (st.get d).owner (Go.VI.forget d st) st).get a w
      cases (st.get d).owner with
      | true => exact h.forget d
      | false => exact h

theorem dropBut_get (keep : List Nat) : ∀ (st : St U) (s : Nat), (dropBut keep st).get s = if s ∈ keep ∨ vbase ≤ s then mend keep (st.get s) else .undef
  | [], s => by
    have h1 : (dropBut keep ([] : St U)).get s = .undef := rfl
    have h2 : St.get ([] : St U) s = .undef := rfl
    rw [h1, h2]; simp [mend, refOf]
  | (q, v) :: r, s => by
    have ih := dropBut_get keep r s
    simp only [dropBut]
    have hk : (memNat q keep || Nat.ble vbase q) = true ↔ (q ∈ keep ∨ vbase ≤ q) := by
      rw [Bool.or_eq_true, memNat_iff, Nat.ble_eq]
    cases hb : (memNat q keep || Nat.ble vbase q) with
    | true =>
      have := hk.1 hb
      simp only [cond_true]
      rw [get_cons, get_cons, ih]
      by_cases hqs : q = s
      · subst hqs; simp [this]
      · simp [hqs]
    | false =>
      have : ¬ (q ∈ keep ∨ vbase ≤ q) := fun h => by rw [hk.2 h] at hb; cases hb
      simp only [cond_false]
      rw [ih, get_cons]
      by_cases hqs : q = s
      · subst hqs; simp [this]
      · simp [hqs]

theorem R.target (r : R P U N L0 G0 w0 G σ a w) {s u : Nat} (h : refOf (σ s) = some u) : refOf (σ u) = none := by
  have hsl := r.slots s
  cases hv : σ s with
  | one c =>
    rw [hv] at hsl h
    cases c with
    | ref s' off => simp only [refOf, Option.some.injEq] at h; subst h; obtain ⟨⟨cs, k1⟩, _⟩ := hsl; rw [k1]; rfl
    | sref s' => simp only [refOf, Option.some.injEq] at h; subst h; obtain ⟨e, y, q, cap, k1, _⟩ := hsl; rw [k1]; rfl
    | eref s' i => simp only [refOf, Option.some.injEq] at h; subst h; obtain ⟨⟨e, y, q, k1⟩, _⟩ := hsl; rw [k1]; rfl
    | _ => simp [refOf] at h
  | _ => rw [hv] at h; simp [refOf] at h

theorem After.settle {st : St U} (keep : List Nat) (h : After P U N L0 G0 w0 st.get a w) : After P U N L0 G0 w0 (Go.VI.settle keep st).get a w := by
  obtain ⟨G, r⟩ := h
  obtain ⟨K, key⟩ : ∃ K : List Nat, ∀ s, (Go.VI.settle keep st).get s = if s ∈ K ∨ vbase ≤ s then mend K (st.get s) else .undef := ⟨_, fun s => dropBut_get _ st s⟩
  refine ⟨G, r.weaken fun s => ?_⟩
  by_cases hs : s ∈ K ∨ vbase ≤ s
  · cases hr : refOf (st.get s) with
    | none =>
      left
      rw [key, if_pos hs]
      unfold mend
      rw [hr]
      exact ⟨rfl, fun u hu => by cases hu⟩
    | some u =>
      cases hb : (memNat u K || Nat.ble vbase u) with
      | false =>
        right; right
        rw [key, if_pos hs]
        unfold mend
        rw [hr]
        simp only [hb, cond_false]
      | true =>
        left
        rw [key s, if_pos hs]
        refine ⟨by unfold mend; rw [hr]; simp only [hb, cond_true], fun u' hu' => ?_⟩
        injection hu' with hu'; subst hu'
        have hu : u ∈ K ∨ vbase ≤ u := by rw [Bool.or_eq_true, memNat_iff, Nat.ble_eq] at hb; exact hb
        rw [key u, if_pos hu]
        unfold mend
        rw [r.target hr]
  · right; left; rw [key, if_neg hs]

/-! ### loops' heads -/
theorem PC.loosen {I : Nat → Nat → Prop} {c : CV U.τ} {u : Value} (h : PC P U w I c u) (who : Nat → Option (Nat × Option Nat)) (L : Nat × Option Nat) : CellOk P U w I who L c.loosen u := by
  have main : ∀ (e : Nat) (css : List (List (CV U.τ))) (c' : CV U.τ), cont c = some (e, css, .tight) → cont c' = some (e, css, .app) → CellOk P U w I who L c' u := by
    intro e css c' hc hc'
    obtain ⟨_, h2, h3⟩ := h.slice hc
    refine .inr ⟨e, css, hc', h2, ?_⟩
    rcases h3 with h3 | ⟨h3, _⟩ | ⟨b, off, cap, h4, h5, h6, h7⟩
    · exact .inl h3
    · cases h3
    · exact .inr ⟨b, off, cap, h4, h5, h7, .inl (h6 rfl)⟩
  cases c with
  | sl e xs f =>
    cases f with
    | tight => exact main e _ _ rfl rfl
    | _ => exact .inl h
  | bs e xs f =>
    cases f with
    | tight => exact main e _ _ rfl rfl
    | _ => exact .inl h
  | _ => exact .inl h

theorem CellOk.loosen {I : Nat → Nat → Prop} {who : Nat → Option (Nat × Option Nat)} {L : Nat × Option Nat} {c : CV U.τ} {u : Value} (h : CellOk P U w I who L c u) : CellOk P U w I who L c.loosen u := by
  rcases h with h | h
  · exact h.loosen who L
  · obtain ⟨e, css, h1, h2⟩ := h
    have : c.loosen = c := by
      cases c with
      | sl e xs f => cases f <;> first | rfl | (simp [cont] at h1)
      | bs e xs f => cases f <;> first | rfl | (simp [cont] at h1)
      | _ => rfl
    rw [this]
    exact .inr ⟨e, css, h1, h2⟩

def loosenV : AV U.τ → AV U.τ
  | .one c => .one c.loosen
  | .box cs => .box (cs.map CV.loosen)
  | v => v

theorem loosen_get : ∀ (st : St U) (s : Nat), (loosen st).get s = loosenV (st.get s)
  | [], _ => rfl
  | (q, v) :: r, s => by
    have ih := loosen_get r s
    have hl : loosen ((q, v) :: r) = (q, loosenV v) :: loosen r := by cases v <;> rfl
    rw [hl, get_cons, get_cons, ih]
    split <;> rfl

theorem After.loosen {st : St U} (h : After P U N L0 G0 w0 st.get a w) : After P U N L0 G0 w0 (Go.VI.loosen st).get a w := by
  obtain ⟨G, r⟩ := h
  refine ⟨G, r.tell (fun t => ?_) (fun t cs' ht hσ => ?_)⟩
  · rw [loosen_get]
    have hs := r.slots t
    cases hv : st.get t with
    | one c =>
      rw [hv] at hs
      cases c with
      | any => trivial
      | ref s off => obtain ⟨⟨cs, k1⟩, k2⟩ := hs; exact ⟨⟨cs.map CV.loosen, by rw [loosen_get, k1]; rfl⟩, k2⟩
      | sref s => obtain ⟨e, y, q, cap, k1, k2⟩ := hs; exact ⟨e, y, q, cap, by rw [loosen_get, k1]; rfl, k2⟩
      | eref s i => obtain ⟨⟨e, y, q, k1⟩, k2⟩ := hs; exact ⟨⟨e, y, q, by rw [loosen_get, k1]; rfl⟩, k2⟩
      | bool b => exact hs
      | int k n => exact hs
      | str s => exact hs
      | fn f => exact hs
      | sl e xs f =>
        have := CellOk.loosen (c := .sl e xs f) hs
        cases f <;> exact this
      | bs e xs f =>
        have := CellOk.loosen (c := .bs e xs f) hs
        cases f <;> exact this
    | box cs =>
      rw [hv] at hs
      obtain ⟨h1, h2⟩ := hs
      obtain ⟨c, T, fz, k1, k2, k3, k4⟩ := h2.row
      refine ⟨h1, h2.hwho, h2.himm, c, T, fz, k1, by rw [List.length_map]; exact k2, k3, fun i x hi => ?_⟩
      rw [List.getElem?_map] at hi
      cases hx : cs[i]? with
      | none => rw [hx] at hi; cases hi
      | some y =>
        rw [hx] at hi; injection hi with hi; subst hi
        obtain ⟨u, hu, hk⟩ := k4 i y hx
        exact ⟨u, hu, hk.loosen⟩
    | _ => rw [hv] at hs; exact hs
  · rw [loosen_get] at hσ
    cases hv : st.get t with
    | box cs =>
      rw [hv] at hσ
      injection hσ with hσ
      exact ⟨cs, rfl, by rw [← hσ, List.length_map]⟩
    | _ => rw [hv] at hσ; cases hσ

end
end Go.VI
