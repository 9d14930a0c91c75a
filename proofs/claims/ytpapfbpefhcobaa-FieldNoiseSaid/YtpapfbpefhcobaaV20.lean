import Derived.Test.YtpapfbpefhcobaaV19
/-! Regions that draw their order. -/
set_option linter.unusedVariables false
set_option linter.unusedSimpArgs false
namespace Go.VI
open Go

abbrev Dat (U : Univ) := List (List Nat × List (Nat × AV U.τ))

section
variable {P : Program} {U : Univ} {N : Nat} {L0 : Nat → Nat} {G0 : Ghost} {w0 : World} {adv : Adv}

theorem disjoint_iff : ∀ (l m : List Nat), disjoint l m = true ↔ ∀ x ∈ l, x ∉ m
  | [], m => by simp [disjoint]
  | x :: l, m => by
    simp only [disjoint]
    cases hm : memNat x m with
    | true =>
      have := (memNat_iff x m).1 hm
      simp [this]
    | false =>
      have : x ∉ m := fun h => by rw [(memNat_iff x m).2 h] at hm; cases hm
      simp [this, disjoint_iff l m]

/-- The state when those operations have been carried out that are listed. -/
def applyS (S : Nat → Bool) : Dat U → Nat → Slots U → Slots U
  | [], _, σ => σ
  | (_, ws) :: D, i, σ => applyS S D (i + 1) (if S i then updsσ σ ws else σ)

theorem updsσ_out : ∀ (ws : List (Nat × AV U.τ)) (σ : Slots U) (x : Nat), x ∉ ws.map (·.1) → updsσ σ ws x = σ x
  | [], _, _, _ => rfl
  | (s, v) :: ws, σ, x, h => by
    simp only [List.map_cons, List.mem_cons, not_or] at h
    rw [updsσ, updsσ_out ws _ x h.2]
    simp [upd, h.1]

theorem updsσ_in : ∀ (ws : List (Nat × AV U.τ)) (σ σ' : Slots U) (x : Nat), x ∈ ws.map (·.1) → updsσ σ ws x = updsσ σ' ws x
  | [], _, _, _, h => by simp at h
  | (s, v) :: ws, σ, σ', x, h => by
    simp only [updsσ]
    by_cases hx : x ∈ ws.map (·.1)
    · exact updsσ_in ws _ _ x hx
    · rw [updsσ_out ws _ x hx, updsσ_out ws _ x hx]
      simp only [List.map_cons, List.mem_cons] at h
      have : x = s := h.resolve_right hx
      simp [upd, this]

theorem updsσ_at (ws : List (Nat × AV U.τ)) (σ σ' : Slots U) (x : Nat) (h : σ x = σ' x) : updsσ σ ws x = updsσ σ' ws x := by
  by_cases hx : x ∈ ws.map (·.1)
  · exact updsσ_in ws σ σ' x hx
  · rw [updsσ_out ws _ x hx, updsσ_out ws _ x hx, h]

/-- A slot that only operations write which both list is the same. -/
theorem applyS_same {S S' : Nat → Bool} {x : Nat} : ∀ (D : Dat U) (i : Nat) (σ σ' : Slots U), σ x = σ' x → (∀ (m : Nat) d, D[m]? = some d → S (i + m) ≠ S' (i + m) → x ∉ d.2.map (·.1)) → applyS S D i σ x = applyS S' D i σ' x
  | [], i, σ, σ', h, _ => h
  | (rd, ws) :: D, i, σ, σ', h, hd => by
    simp only [applyS]
    refine applyS_same D (i + 1) _ _ ?_ (fun m d hm hS => hd (m + 1) d (by simpa using hm) (by rw [show i + (m + 1) = i + 1 + m by omega]; exact hS))
    have h0 := hd 0 (rd, ws) rfl
    rw [Nat.add_zero] at h0
    cases h1 : S i <;> cases h2 : S' i <;> simp only [Bool.false_eq_true, if_true, if_false]
    · exact h
    · rw [updsσ_out ws _ x (h0 (by simp [h1, h2])), h]
    · rw [updsσ_out ws _ x (h0 (by simp [h1, h2])), h]
    · exact updsσ_at ws _ _ x h

theorem applyS_none {S : Nat → Bool} : ∀ (D : Dat U) (i : Nat) (σ : Slots U), (∀ m, m < D.length → S (i + m) = false) → applyS S D i σ = σ
  | [], _, _, _ => rfl
  | (rd, ws) :: D, i, σ, h => by
    have h0 := h 0 (by simp)
    rw [Nat.add_zero] at h0
    simp only [applyS, h0, Bool.false_eq_true, if_false]
    exact applyS_none D (i + 1) σ (fun m hm => by have := h (m + 1) (by simp; omega); rwa [show i + (m + 1) = i + 1 + m by omega] at this)

/-- A slot that operation j writes, and no listed one behind it. -/
theorem applyS_write {S : Nat → Bool} {x : Nat} (τ : Slots U) : ∀ (D : Dat U) (i j : Nat) (σ : Slots U) (d : List Nat × List (Nat × AV U.τ)), D[j]? = some d → S (i + j) = true → x ∈ d.2.map (·.1) → (∀ (m : Nat) e, j < m → D[m]? = some e → S (i + m) = true → x ∉ e.2.map (·.1)) → applyS S D i σ x = updsσ τ d.2 x
  | [], i, j, σ, d, h, _, _, _ => by simp at h
  | (rd, ws) :: D, i, j, σ, d, h, hS, hx, hl => by
    simp only [applyS]
    cases j with
    | zero =>
      simp at h; subst h
      rw [Nat.add_zero] at hS
      simp only [hS, if_true]
      rw [applyS_same (S := S) (S' := fun _ => false) D (i + 1) (updsσ σ ws) (updsσ τ ws) (updsσ_in ws _ _ x hx) (fun m e hm hne => hl (m + 1) e (by omega) (by simpa using hm) (by rw [show i + (m + 1) = i + 1 + m by omega]; simpa using hne))]
      rw [applyS_none D (i + 1) _ (fun _ _ => rfl)]
    | succ j =>
      refine applyS_write τ D (i + 1) j _ d (by simpa using h) (by rw [show i + 1 + j = i + (j + 1) by omega]; exact hS) hx (fun m e hjm hm hSm => hl (m + 1) e (by omega) (by simpa using hm) (by rw [show i + (m + 1) = i + 1 + m by omega]; exact hSm))

theorem lex_state {tree : Oper → Tree U} : ∀ {rest : List Oper} {σ : Slots U} {D : Dat U} {σ' : Slots U}, Lex P U tree rest σ D σ' → D.length = rest.length ∧ (∀ i, applyS (fun _ => true) D i σ = σ') ∧
    ∀ (j i : Nat) o, rest[j]? = some o → ∃ d, D[j]? = some d ∧ Does P U (applyS (fun m => decide (m < i + j)) D i σ) (tree o) d.1 d.2 := by
  intro rest σ D σ' h
  induction h with
  | nil σ => exact ⟨rfl, fun _ => rfl, fun j i o h => by simp at h⟩
  | cons o rest σ rd ws D σ' hdo hL ih =>
    obtain ⟨h1, h2, h3⟩ := ih
    refine ⟨by simp [h1], fun i => by simp only [applyS, if_true]; exact h2 (i + 1), fun j i o' ho => ?_⟩
    cases j with
    | zero =>
      simp at ho; subst ho
      refine ⟨(rd, ws), rfl, ?_⟩
      have : applyS (fun m => decide (m < i + 0)) ((rd, ws) :: D) i σ = σ := applyS_none _ _ _ (fun m _ => by simp)
      rw [this]; exact hdo
    | succ j =>
      obtain ⟨d, k1, k2⟩ := h3 j (i + 1) o' (by simpa using ho)
      refine ⟨d, by simpa using k1, ?_⟩
      rw [show i + (j + 1) = i + 1 + j by omega]
      have : applyS (fun m => decide (m < i + 1 + j)) ((rd, ws) :: D) i σ = applyS (fun m => decide (m < i + 1 + j)) D (i + 1) (updsσ σ ws) := by
        have hlt : i < i + 1 + j := by omega
        simp only [applyS, hlt, decide_true, if_true]
      rw [this]; exact k2

/-! ### what comes ahead of what -/
def beforeStep (acc : Array Nat) (s : Nat) (e : Edge) : Nat := if Region.binds .any e then s ||| 2 ^ e.on ||| acc.getD e.on 0 else s

theorem fold_bit (acc : Array Nat) : ∀ (l : List Edge) (s p : Nat), Nat.testBit (l.foldl (beforeStep acc) s) p = true → Nat.testBit s p = true ∨ ∃ e ∈ l, Region.binds .any e = true ∧ (p = e.on ∨ Nat.testBit (acc.getD e.on 0) p = true)
  | [], s, p, h => .inl h
  | e :: l, s, p, h => by
    rcases fold_bit acc l _ p h with h1 | ⟨e', he', h1⟩
    · unfold beforeStep at h1
      split at h1
      · rename_i hb
        rw [Nat.testBit_or, Nat.testBit_or, Bool.or_eq_true, Bool.or_eq_true] at h1
        rcases h1 with (h1 | h1) | h1
        · exact .inl h1
        · refine .inr ⟨e, List.mem_cons_self .., hb, .inl ?_⟩
          have := Nat.testBit_two_pow (n := e.on) (m := p)
          rw [this] at h1
          exact (of_decide_eq_true h1).symm
        · exact .inr ⟨e, List.mem_cons_self .., hb, .inr h1⟩
      · exact .inl h1
    · exact .inr ⟨e', List.mem_cons_of_mem _ he', h1⟩

theorem before_aux : ∀ (l : List Oper) (acc : Array Nat), let r := l.foldl (fun acc o => acc.push (o.after.toList.foldl (beforeStep acc) 0)) acc
    r.size = acc.size + l.length ∧ (∀ i, i < acc.size → r[i]? = acc[i]?) ∧
    ∀ (j : Nat) o, l[j]? = some o → ∀ p, Nat.testBit (r.getD (acc.size + j) 0) p = true → ∃ e ∈ o.after, Region.binds .any e = true ∧ (p = e.on ∨ (e.on < acc.size + j ∧ Nat.testBit (r.getD e.on 0) p = true))
  | [], acc => ⟨rfl, fun _ _ => rfl, fun j o h => by simp at h⟩
  | o :: l, acc => by
    obtain ⟨h1, h2, h3⟩ := before_aux l (acc.push (o.after.toList.foldl (beforeStep acc) 0))
    simp only [List.foldl_cons] at h1 h2 h3 ⊢
    rw [Array.size_push] at h1 h2 h3
    refine ⟨by rw [h1, List.length_cons]; omega, fun i hi => ?_, fun j o' hj p hp => ?_⟩
    · rw [h2 i (by omega), Array.getElem?_push, if_neg (by omega)]
    · cases j with
      | zero =>
        simp at hj; subst hj
        rw [Nat.add_zero] at hp ⊢
        have hr := h2 acc.size (by omega)
        rw [Array.getElem?_push, if_pos rfl] at hr
        rw [Array.getD_eq_getD_getElem?, hr, Option.getD_some] at hp
        rcases fold_bit acc _ _ p hp with h | ⟨e, he, hb, h⟩
        · simp at h
        · refine ⟨e, by simpa using he, hb, ?_⟩
          rcases h with h | h
          · exact .inl h
          · right
            have hlt : e.on < acc.size := by
              rcases Nat.lt_or_ge e.on acc.size with h' | h'
              · exact h'
              · rw [Array.getD_eq_getD_getElem?, Array.getElem?_eq_none h'] at h; simp at h
            refine ⟨hlt, ?_⟩
            have hr := h2 e.on (by omega)
            rw [Array.getElem?_push, if_neg (by omega)] at hr
            rw [Array.getD_eq_getD_getElem?, hr, ← Array.getD_eq_getD_getElem?]
            exact h
      | succ j =>
        obtain ⟨e, he, hb, h⟩ := h3 j o' (by simpa using hj) p (by rw [show acc.size + 1 + j = acc.size + (j + 1) by omega]; exact hp)
        exact ⟨e, he, hb, h.imp id fun ⟨k1, k2⟩ => ⟨by omega, k2⟩⟩

theorem before_spec (ops : List Oper) (j : Nat) (o : Oper) (hj : ops[j]? = some o) (p : Nat) (hp : Nat.testBit ((Region.before ops.toArray).toList.getD j 0) p = true) :
    ∃ e ∈ o.after, Region.binds .any e = true ∧ (p = e.on ∨ (e.on < j ∧ Nat.testBit ((Region.before ops.toArray).toList.getD e.on 0) p = true)) := by
  have hb : Region.before ops.toArray = ops.foldl (fun acc o => acc.push (o.after.toList.foldl (beforeStep acc) 0)) #[] := by
    unfold Region.before
    rw [← Array.foldl_toList]
    simp only [← Array.foldl_toList]
    rfl
  have hg : ∀ i, (Region.before ops.toArray).toList.getD i 0 = (Region.before ops.toArray).getD i 0 := fun i => by
    rw [Array.getD_eq_getD_getElem?, List.getD_eq_getElem?_getD, Array.getElem?_toList]
  rw [hg] at hp
  obtain ⟨_, _, h3⟩ := before_aux ops #[]
  rw [hb] at hp
  obtain ⟨e, he, hbd, h⟩ := h3 j o hj p (by simpa using hp)
  refine ⟨e, he, hbd, ?_⟩
  rw [hg, hb]
  simpa using h

theorem edgesOk_spec : ∀ {ops : List Oper} {i : Nat}, edgesOk ops i = true → ∀ (j : Nat) o, ops[j]? = some o → ∀ e ∈ o.after, Region.binds .any e = true → e.on < i + j
  | [], i, _, j, o, h => by simp at h
  | o :: r, i, h, j, o', ho => by
    simp only [edgesOk] at h
    cases hc : (o.after.toList.all fun e => !(Region.binds .any e) || Nat.blt e.on i) with
    | false => rw [hc] at h; cases h
    | true =>
      rw [hc] at h
      intro e he hb
      cases j with
      | zero =>
        simp at ho; subst ho
        have := List.all_eq_true.1 hc e (by simpa using he)
        rw [hb] at this
        simp only [Bool.not_true, Bool.false_or] at this
        have := Nat.le_of_ble_eq_true this
        omega
      | succ j =>
        have := edgesOk_spec h j o' (by simpa using ho) e he hb
        omega

theorem count_set {l : List Bool} {i : Nat} (h : l[i]? = some false) : (l.set i true).count false + 1 = l.count false := by
  induction l generalizing i with
  | nil => simp at h
  | cons b l ih =>
    cases i with
    | zero =>
      simp at h; subst h
      simp
    | succ i =>
      have := ih (i := i) (by simpa using h)
      cases b <;> simp <;> omega

/-- Whatever order is picked. -/
theorem draw_wpAny (hU : UnivOk P U) {Q : Exit → Act → World → Prop} {all : List Oper} (hN : adv.n ≤ N) {σ0 σ' : Slots U} {D : Dat U} (hL : Lex P U (operTree P adv all) all σ0 D σ')
    (hap : ∀ (p m : Nat) d d', p < m → D[p]? = some d → D[m]? = some d' → Apart2 ((Region.before all.toArray).toList.getD m 0) d'.1 (d'.2.map (·.1)) (p, d.1, d.2.map (·.1)))
    (hed : edgesOk all 0 = true) (hQ : ∀ a w, After P U N L0 G0 w0 σ' a w → Q .normal a w) :
    ∀ (fuel : Nat) (listed : Array Bool) (a : Act) (w : World), listed.size = all.length → listed.toList.count false = fuel →
      (∀ (m p : Nat), listed.getD m false = true → Nat.testBit ((Region.before all.toArray).toList.getD m 0) p = true → listed.getD p false = true) →
      After P U N L0 G0 w0 (applyS (fun m => listed.getD m false) D 0 σ0) a w → wpAny P .any all.toArray Q fuel listed a w := by
  obtain ⟨hlen, hall, hdo⟩ := lex_state hL
  intro fuel
  have done : ∀ (listed : Array Bool) (a : Act) (w : World), listed.size = all.length → Region.ready .any all.toArray listed = [] → After P U N L0 G0 w0 (applyS (fun m => listed.getD m false) D 0 σ0) a w → Q .normal a w := by
    intro listed a w hsz hr hA
    have hl : ∀ m, m < all.length → listed.getD m false = true := by
      intro m
      induction m using Nat.strongRecOn with
      | _ m ih =>
        intro hm
        cases hc : listed.getD m false with
        | true => rfl
        | false =>
          exfalso
          obtain ⟨o, ho⟩ : ∃ o, all[m]? = some o := ⟨_, List.getElem?_eq_getElem hm⟩
          have : m ∈ Region.ready .any all.toArray listed := by
            rw [mem_ready]
            refine ⟨?_, o, by simpa using ho, fun e he hb => ?_⟩
            · rw [Array.getD_eq_getD_getElem?] at hc ⊢
              rw [Array.getElem?_eq_getElem (by omega)] at hc ⊢
              simpa using hc
            · have := edgesOk_spec hed m o ho e he hb
              exact ih e.on (by omega) (by omega)
          rw [hr] at this
          cases this
    have : applyS (fun m => listed.getD m false) D 0 σ0 = σ' := by
      rw [← hall 0]
      funext x
      exact applyS_same D 0 σ0 σ0 rfl (fun m d hm hne => by
        exfalso
        have := (List.getElem?_eq_some_iff.1 hm).1
        rw [Nat.zero_add, hl m (by omega)] at hne
        exact hne rfl)
    rw [this] at hA
    exact hQ a w hA
  have step : ∀ (listed : Array Bool) (j : Nat), listed.size = all.length → j ∈ Region.ready .any all.toArray listed →
      (∀ (m p : Nat), listed.getD m false = true → Nat.testBit ((Region.before all.toArray).toList.getD m 0) p = true → listed.getD p false = true) →
      ∃ o d, all[j]? = some o ∧ D[j]? = some d ∧ listed[j]? = some false ∧ Does P U (applyS (fun m => listed.getD m false) D 0 σ0) (operTree P adv all o) d.1 d.2 ∧
        (∀ (m p : Nat), (listed.setIfInBounds j true).getD m false = true → Nat.testBit ((Region.before all.toArray).toList.getD m 0) p = true → (listed.setIfInBounds j true).getD p false = true) ∧
        updsσ (applyS (fun m => listed.getD m false) D 0 σ0) d.2 = applyS (fun m => (listed.setIfInBounds j true).getD m false) D 0 σ0 := by
    intro listed j hsz hj hdc
    obtain ⟨hun, o, ho, hedge⟩ := mem_ready.1 hj
    have ho : all[j]? = some o := by simpa using ho
    have hjl : j < all.length := (List.getElem?_eq_some_iff.1 ho).1
    have hlj : listed[j]? = some false := by
      rw [Array.getD_eq_getD_getElem?, Array.getElem?_eq_getElem (by omega)] at hun
      rw [Array.getElem?_eq_getElem (by omega)]
      simpa using hun
    have hjf : listed.getD j false = false := by rw [Array.getD_eq_getD_getElem?, hlj]; rfl
    obtain ⟨d, hd, hdoes⟩ := hdo j 0 o ho
    rw [Nat.zero_add] at hdoes
    -- what must come ahead of j is listed
    have hpre : ∀ p, Nat.testBit ((Region.before all.toArray).toList.getD j 0) p = true → listed.getD p false = true := by
      intro p hp
      obtain ⟨e, he, hb, h⟩ := before_spec all j o ho p hp
      have hl := hedge e he hb
      rcases h with rfl | ⟨_, h⟩
      · exact hl
      · exact hdc e.on p hl h
    have hpost : ∀ p, listed.getD p false = true → Nat.testBit ((Region.before all.toArray).toList.getD p 0) j = true → False := fun p hp hb => by
      have := hdc p j hp hb
      rw [hjf] at this; cases this
    have hset : ∀ m, (listed.setIfInBounds j true).getD m false = (if m = j then true else listed.getD m false) := fun m => by
      rw [Array.getD_eq_getD_getElem?, Array.getElem?_setIfInBounds]
      by_cases hm : j = m
      · subst hm
        rw [if_pos rfl, if_pos rfl, if_pos (by omega)]
        rfl
      · rw [if_neg hm, if_neg (Ne.symm hm), Array.getD_eq_getD_getElem?]
    refine ⟨o, d, ho, hd, hlj, hdoes.same (fun x hx => ?_), fun m p hm hp => ?_, ?_⟩
    · refine applyS_same D 0 σ0 σ0 rfl (fun m e hm hne hxe => ?_)
      rw [Nat.zero_add] at hne
      have hml := (List.getElem?_eq_some_iff.1 hm).1
      rcases Nat.lt_trichotomy m j with h | h | h
      · have hmf : listed.getD m false = false := by
          cases hc : listed.getD m false with
          | false => rfl
          | true => rw [hc] at hne; simp [h] at hne
        rcases hap m j e d h hm hd with hb | ⟨_, _, hb⟩
        · have := hpre m hb; rw [hmf] at this; cases this
        · exact (disjoint_iff _ _).1 hb x hx hxe
      · subst h
        rw [hjf] at hne
        simp at hne
      · have hmt : listed.getD m false = true := by
          cases hc : listed.getD m false with
          | true => rfl
          | false => rw [hc] at hne; simp at hne; omega
        rcases hap j m d e h hd hm with hb | ⟨_, hb, _⟩
        · exact hpost m hmt hb
        · exact (disjoint_iff _ _).1 hb x hxe hx
    · rw [hset] at hm ⊢
      by_cases hpj : p = j
      · rw [if_pos hpj]
      · rw [if_neg hpj]
        by_cases hmj : m = j
        · subst hmj; exact hpre p hp
        · rw [if_neg hmj] at hm
          exact hdc m p hm hp
    · funext x
      by_cases hx : x ∈ d.2.map (·.1)
      · refine (applyS_write (S := fun m => (listed.setIfInBounds j true).getD m false) _ D 0 j σ0 d hd (by rw [Nat.zero_add, hset, if_pos rfl]) hx (fun m e hjm hm hS => ?_)).symm
        rw [Nat.zero_add, hset, if_neg (by omega)] at hS
        intro hxe
        rcases hap j m d e hjm hd hm with hb | ⟨hb, _, _⟩
        · exact hpost m hS hb
        · exact (disjoint_iff _ _).1 hb x hxe hx
      · rw [updsσ_out _ _ x hx]
        refine applyS_same D 0 σ0 σ0 rfl (fun m e hm hne => ?_)
        rw [Nat.zero_add, hset] at hne
        by_cases hmj : m = j
        · subst hmj
          rw [hd] at hm; injection hm with hm; subst hm
          exact hx
        · rw [if_neg hmj] at hne
          exact absurd rfl hne
  induction fuel with
  | zero =>
    intro listed a w hsz hcnt hdc hA
    have hr : Region.ready .any all.toArray listed = [] := by
      cases hr : Region.ready .any all.toArray listed with
      | nil => rfl
      | cons j js =>
        exfalso
        obtain ⟨o, d, ho, _, hlj, _⟩ := step listed j hsz (by rw [hr]; exact List.mem_cons_self ..) hdc
        have : false ∈ listed.toList := by
          refine List.mem_of_getElem? (i := j) ?_
          rw [Array.getElem?_toList]; exact hlj
        have := List.count_pos_iff.2 this
        omega
    exact ⟨hr, done listed a w hsz hr hA⟩
  | succ fuel ih =>
    intro listed a w hsz hcnt hdc hA
    refine ⟨fun hr => done listed a w hsz hr hA, fun j hj => ?_⟩
    obtain ⟨o, d, ho, hd, hlj, hdoes, hdc', hst⟩ := step listed j hsz hj hdc
    obtain ⟨G, r⟩ := hA
    refine oper_wp hU r hN ho hdoes (fun a' w' hR' => ?_)
    refine ih _ a' w' (by simpa using hsz) ?_ hdc' (by rw [← hst]; exact hR')
    have := count_set (l := listed.toList) (i := j) (by rw [Array.getElem?_toList]; exact hlj)
    rw [Array.toList_setIfInBounds]
    omega

theorem R.drew {G : Ghost} {σ : Slots U} {a : Act} {w : World} (r : R P U N L0 G0 w0 G σ a w) : R P U N L0 G0 w0 G σ a { w with drawn := w.drawn + 1 } := by
  have x : Ext (fun _ => False) G G σ σ w { w with drawn := w.drawn + 1 } := ⟨fun _ _ h => ⟨h, rfl⟩, fun _ _ h _ => ⟨h, rfl, fun _ h => h⟩, fun _ _ => rfl, fun s cs h => ⟨cs, h⟩, fun s e y q h => ⟨e, y, h, rfl⟩⟩
  have s : Step G w G { w with drawn := w.drawn + 1 } := ⟨rfl, rfl, rfl, Nat.le_refl _, fun _ _ _ => rfl, fun _ _ h => ⟨h, rfl⟩, fun _ _ h => .inl h, fun _ _ h => .inr (by rw [h]; rfl)⟩
  exact r.go x s rfl rfl (fun _ _ => rfl) (fun b o h => .inl h) (fun b L h => .inl ⟨L, h⟩) (fun t cs' ht hσ => ⟨cs', hσ, rfl, fun _ _ => rfl⟩) (fun t => .inl ⟨rfl, rfl, fun h => h, fun _ h => h⟩)

end
end Go.VI
