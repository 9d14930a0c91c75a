import Derived.Test.YtpapfbpefhcobaaV7
/-! Moves, conversions, literals, loads. -/
set_option linter.unusedVariables false
set_option linter.unusedSimpArgs false
namespace Go.VI
open Go

section
variable {P : Program} {U : Univ} {N : Nat} {L0 : Nat → Nat} {G0 : Ghost} {w0 : World} {G : Ghost} {σ : Slots U} {a : Act} {w : World} {o : Oper} {adv : Adv}

theorem vbase_of (r : R P U N L0 G0 w0 G σ a w) {d : Nat} (hd : d < N) : d < vbase := Nat.lt_of_lt_of_le hd r.small

/-- What may be appended to goes from one slot to another. -/
theorem R.moveApp (r : R P U N L0 G0 w0 G σ a w) {s d : Nat} {c : CV U.τ} {e : Nat} {css : List (List (CV U.τ))} (hs : σ s = .one c) (hsv : s < vbase) (hc : cont c = some (e, css, .app)) (hd : d < N) (ho : (σ d).owner = false) :
    ∃ G', R P U N L0 G0 w0 G' (upd (upd σ d (.one c)) s (.one c.plain)) (a.put (some d) (a.tmps.getD s undef)) w := by
  have hso : SlotOk P U G σ w s (.one c) (a.tmps.getD s undef) := by have := r.slots s; rwa [hs] at this
  have happ : AppOk P U w G.I G.who (s, none) c (a.tmps.getD s undef) := by
    have h2 : CellOk P U w G.I G.who (s, none) c (a.tmps.getD s undef) := by
      cases c <;> first | (simp [cont] at hc; done) | exact hso
    rcases h2 with h2 | h2
    · exact absurd rfl (h2.slice hc).1
    · exact h2
  have hn : ∀ t, (σ t).owner = true → t ≠ d ∧ t ≠ s := fun t ht => ⟨(fun he => by subst he; rw [ho] at ht; cases ht), (fun he => by subst he; rw [hs] at ht; cases ht)⟩
  have hp := happ.plain
  let G' : Ghost := ⟨G.I, G.loc, fun b => if G.who b = some (s, none) then some (d, none) else G.who b⟩
  have same : ∀ t, t ≠ d → t ≠ s → (upd (upd σ d (.one c)) s (.one c.plain)) t = σ t := fun t h1 h2 => by simp [upd, h1, h2]
  have x : Ext (fun L => L = (s, none)) G G' σ (upd (upd σ d (.one c)) s (.one c.plain)) w w := by
    refine ⟨fun _ _ h => ⟨h, rfl⟩, fun b L h hL => ⟨?_, rfl, fun _ h => h⟩, fun _ _ => rfl, fun t cs ht => ?_, fun t e y q ht => ?_⟩
    · show (if G.who b = some (s, none) then some (d, none) else G.who b) = some L
      rw [if_neg (fun he => hL (by rw [h] at he; injection he)), h]
    · obtain ⟨h1, h2⟩ := hn t (by rw [ht]; rfl)
      exact ⟨cs, by rw [same t h1 h2, ht]⟩
    · obtain ⟨h1, h2⟩ := hn t (by rw [ht]; rfl)
      exact ⟨e, y, by rw [same t h1 h2, ht], rfl⟩
  have st : Step G w G' w := by
    refine ⟨rfl, rfl, rfl, Nat.le_refl _, fun _ _ _ => rfl, fun _ _ h => ⟨h, rfl⟩, fun _ _ h => .inl h, fun b L h => .inr ?_⟩
    have h' : (if G.who b = some (s, none) then some (d, none) else G.who b) = some L := h
    split at h'
    · rename_i hh; simp [hh]
    · simp [h']
  refine ⟨G', r.go x st rfl (by simp [Act.put]) (fun _ _ => rfl) (fun b o h => .inl h) (fun b L h => .inl ?_) (fun t cs' ht hσ => ?_) (fun t => ?_)⟩
  · rcases st.newW b L h with h1 | h1
    · exfalso
      have h' : (if G.who b = some (s, none) then some (d, none) else G.who b) = some L := h
      have : ∃ L', G.who b = some L' := by
        split at h'
        · rename_i hh; exact ⟨_, hh⟩
        · exact ⟨_, h'⟩
      obtain ⟨L', h2⟩ := this
      have := r.who b L' h2
      omega
    · exact Option.isSome_iff_exists.1 h1
  · have h1 : t ≠ d := fun he => by have := r.small; omega
    have h2 : t ≠ s := fun he => by omega
    rw [same t h1 h2] at hσ
    exact ⟨cs', hσ, rfl, fun _ _ => rfl⟩
  · rw [getD_put (Nat.lt_of_lt_of_le hd r.size)]
    by_cases hts : t = s
    · subst hts
      right
      have h1 : (upd (upd σ d (.one c)) t (.one c.plain)) t = .one c.plain := by simp [upd]
      have h2 : (if t = d then a.tmps.getD t undef else a.tmps.getD t undef) = a.tmps.getD t undef := by split <;> rfl
      rw [h1, h2]
      exact SlotOk.of_pc hp
    · by_cases htd : t = d
      · subst htd
        right
        have h1 : (upd (upd σ t (.one c)) s (.one c.plain)) t = .one c := by simp [upd, hts]
        rw [h1, if_pos rfl]
        have h3 : AppOk P U w G'.I G'.who (t, none) c (a.tmps.getD s undef) := by
          obtain ⟨e', css', k1, k2, k3⟩ := happ
          refine ⟨e', css', k1, k2, ?_⟩
          rcases k3 with k3 | ⟨b, off, cap, k4, k5, k6, k7⟩
          · exact .inl k3
          · refine .inr ⟨b, off, cap, k4, k5, k6, ?_⟩
            rcases k7 with k7 | ⟨k7, k8⟩
            · exact .inl k7
            · exact .inr ⟨by show (if G.who b = some (s, none) then some (t, none) else G.who b) = _; rw [if_pos k7], k8⟩
        cases c <;> first | (simp [cont] at hc; done) | exact .inr h3
      · left
        refine ⟨same t htd hts, by rw [if_neg htd], fun he => hts (by injection he), fun i he => by injection he with _ h2; cases h2⟩

theorem given_ok {dst : Option Nat} {v : AV U.τ} (h : given adv dst v = true) : ∃ d c e css, dst = some d ∧ v = .one c ∧ cont c = some (e, css, .app) := by
  unfold given at h
  split at h
  · exact ⟨_, _, _, _, rfl, rfl, rfl⟩
  · exact ⟨_, _, _, _, rfl, rfl, rfl⟩
  · cases h

/-- A move along with the right to append. -/
theorem R.moveGoes (r : R P U N L0 G0 w0 G σ a w) (hd : ∀ d, o.dst = some d → d < N) {x : Operand} {v : AV U.τ} (h1 : Opd (P := P) G σ w x v (a.eval x)) (hrun : (execOp a.eval o).run P w = .ok (.value (a.eval x)) w) {c : CV U.τ} {e : Nat} {css : List (List (CV U.τ))}
    (hv : v = .one c) (hc : cont c = some (e, css, .app)) {rd : List Nat} {ws : List (Nat × AV U.τ)}
    (h : Does P U σ (match opTmp x with | some s => wr o.dst v [(s, v.plain)] | none => .fail) rd ws) (hdst : o.dst ≠ none) : Goal P U N L0 G0 w0 σ o a w ws := by
  subst hv
  cases x with
  | tmp s =>
    simp only [opTmp] at h
    obtain ⟨t, _, ht⟩ := h1.ok
    have hs : σ s = .one c ∧ s < vbase := by
      rcases ht with ⟨h2, h3, h4⟩ | ⟨h2, _⟩
      · injection h2 with h2; subst h2
        refine ⟨?_, h3⟩
        cases hσ : σ s with
        | box cs => rw [hσ] at h4; simp only [asVal] at h4; injection h4 with h4; subst h4; simp [cont] at hc
        | bblk e y q => rw [hσ] at h4; simp only [asVal] at h4; injection h4 with h4; subst h4; simp [cont] at hc
        | _ => rw [hσ] at h4; exact h4.symm
      · cases h2
    rcases h.of_wr with ⟨k1, _⟩ | ⟨d, k1, k2, k3⟩
    · exact absurd k1 hdst
    · have := r.moveApp hs.1 hs.2 hc (hd d k1) k3
      unfold Goal Goes
      rw [hrun]
      simp only
      rw [k1, k2]
      exact this
  | _ => exact h.of_fail.elim

theorem op_move (r : R P U N L0 G0 w0 G σ a w) (hd : ∀ d, o.dst = some d → d < N) {x : Operand} (ho : o.op = .move x) {rd : List Nat} {ws : List (Nat × AV U.τ)} (h : Does P U σ (opTree P adv o) rd ws) :
    Goal P U N L0 G0 w0 σ o a w ws := by
  simp only [opTree, ho] at h
  obtain ⟨v, _, h1, h⟩ := r.opd h
  have hrun : (execOp a.eval o).run P w = .ok (.value (a.eval x)) w := by simp [execOp, ho]
  cases hg : given adv o.dst v with
  | true =>
    rw [hg] at h
    obtain ⟨d, c, e, css, k1, k2, k3⟩ := given_ok hg
    exact r.moveGoes hd h1 hrun k2 k3 h (by rw [k1]; simp)
  | false =>
    rw [hg] at h
    obtain ⟨k1, k2⟩ := opd_plain h1
    exact r.value hd hrun h k1 k2

theorem op_assign (r : R P U N L0 G0 w0 G σ a w) (hd : ∀ d, o.dst = some d → d < N) {x : Operand} (ho : o.op = .assign x) {rd : List Nat} {ws : List (Nat × AV U.τ)} (h : Does P U σ (opTree P adv o) rd ws) :
    Goal P U N L0 G0 w0 σ o a w ws := by
  simp only [opTree, ho] at h
  obtain ⟨v, _, h1, h⟩ := r.opd h
  have hrun : (execOp a.eval o).run P w = .ok (.value (a.eval x)) w := by simp [execOp, ho]
  have plain : ∀ rd', v.plain = v → Does P U σ (wr o.dst v) rd' ws → Goal P U N L0 G0 w0 σ o a w ws := by
    intro rd' hp h
    obtain ⟨k1, k2⟩ := opd_plain h1
    rw [hp] at k1 k2
    exact r.value hd hrun h k1 k2
  have app : ∀ c e css rd', v = .one c → cont c = some (e, css, .app) → Does P U σ (match opTmp x with | some s => wr o.dst v [(s, v.plain)] | none => .fail) rd' ws → Goal P U N L0 G0 w0 σ o a w ws := by
    intro c e css rd' hv hc h
    cases hdst : o.dst with
    | some d => exact r.moveGoes hd h1 hrun hv hc h (by rw [hdst]; simp)
    | none =>
      -- nothing is written but the flag
      unfold Goal Goes
      rw [hrun, hdst]
      simp only [Act.put]
      subst hv
      cases x with
      | tmp s =>
        simp only [opTmp, hdst] at h
        have := h.of_done
        subst this
        obtain ⟨t, _, ht⟩ := h1.ok
        have hs : σ s = .one c ∧ s < vbase := by
          rcases ht with ⟨h2, h3, h4⟩ | ⟨h2, _⟩
          · injection h2 with h2; subst h2
            refine ⟨?_, h3⟩
            cases hσ : σ s with
            | box cs => rw [hσ] at h4; simp only [asVal] at h4; injection h4 with h4; subst h4; simp [cont] at hc
            | bblk e y q => rw [hσ] at h4; simp only [asVal] at h4; injection h4 with h4; subst h4; simp [cont] at hc
            | _ => rw [hσ] at h4; exact h4.symm
          · cases h2
        refine ⟨G, ?_⟩
        have hso := r.slots s
        rw [hs.1] at hso
        have hpl := hso.plain rfl
        have hn : ∀ t, (σ t).owner = true → t ≠ s := fun t hto he => by rw [he, hs.1] at hto; cases hto
        have x : Ext (fun _ => False) G G σ (upd σ s (AV.one c).plain) w w :=
          ⟨fun _ _ h => ⟨h, rfl⟩, fun _ _ h _ => ⟨h, rfl, fun _ h => h⟩, fun _ _ => rfl, fun t cs ht => ⟨cs, by simp [upd, hn t (by rw [ht]; rfl), ht]⟩,
            fun t e y q ht => ⟨e, y, by simp [upd, hn t (by rw [ht]; rfl), ht], rfl⟩⟩
        refine r.go x (.refl G w) rfl rfl (fun _ _ => rfl) (fun b o h => .inl h) (fun b L h => .inl ⟨L, h⟩) (fun t cs' ht hσ => ?_) (fun t => ?_)
        · have : t ≠ s := fun he => Nat.lt_irrefl vbase (Nat.lt_of_le_of_lt (he ▸ ht) hs.2)
          simp only [updsσ, upd, this, if_false] at hσ
          exact ⟨cs', hσ, rfl, fun _ _ => rfl⟩
        · by_cases hts : t = s
          · subst hts
            right
            simp only [updsσ, upd, if_true]
            exact (hpl.2 t).mono x (fun h => h) (fun _ h => h) (fun hh => by rw [hpl.1] at hh; cases hh)
          · left
            simp [updsσ, upd, hts]
      | _ => exact h.of_fail.elim
  split at h
  · exact app _ _ _ _ rfl rfl h
  · exact app _ _ _ _ rfl rfl h
  · rename_i hx hy
    refine plain _ ?_ h
    cases v with
    | one c =>
      cases c with
      | sl e xs f => cases f <;> first | rfl | exact absurd rfl (hx _ _)
      | bs e xs f => cases f <;> first | rfl | exact absurd rfl (hy _ _)
      | _ => rfl
    | _ => rfl

end
end Go.VI
