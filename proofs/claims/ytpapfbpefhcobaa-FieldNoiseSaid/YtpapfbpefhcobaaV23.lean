import Derived.Test.YtpapfbpefhcobaaV22
/-! A function, whole. -/
set_option linter.unusedVariables false
set_option linter.unusedSimpArgs false
namespace Go.VI
open Go

section
variable {P : Program} {U : Univ} {N : Nat} {L0 : Nat → Nat} {G0 : Ghost} {w0 : World} {G : Ghost} {σ : Slots U} {a : Act} {w : World} {adv : Adv} {Res : Type} {Φ : Tab U}

theorem argsRel_length {I : Nat → Nat → Prop} {who : Nat → Option (Nat × Option Nat)} {loc : Nat → Nat × Nat} {as : List (Arg U.τ)} {vs : List Value} {j : Nat} (h : ArgsRel P U w I who loc as vs j) : as.length = vs.length := by
  induction h with
  | nil j => rfl
  | val a cs u as us j _ _ ih => simp [ih]
  | ptr cs as us j _ _ ih => simp [ih]

/-- The state at the start, slot by slot. -/
theorem start_slots {as : List (Arg U.τ)} {vs : List Value} {j : Nat} (h : ArgsRel P U w G.I G.who G.loc as vs j) : ∀ (i : Nat) (σ : Slots U), i + as.length ≤ vbase →
    (∀ t, (t < i ∨ i + as.length ≤ t) → (t < vbase + j ∨ vbase + j + (ptrs as).length ≤ t) → updsσ σ (startWs as i j) t = σ t) ∧
    (∀ (q : Nat) cs, (ptrs as)[q]? = some cs → updsσ σ (startWs as i j) (vbase + (j + q)) = .box cs ∧ BoxRel P U w G.I G.who (vbase + (j + q)) (G.loc (vbase + (j + q))) cs) ∧
    (∀ σ' : Slots U, (∀ (q : Nat) cs, (ptrs as)[q]? = some cs → σ' (vbase + (j + q)) = .box cs) → ∀ (m : Nat) u, vs[m]? = some u → SlotOk P U G σ' w (i + m) (updsσ σ (startWs as i j) (i + m)) u) ∧
    (∀ m, m < as.length → (updsσ σ (startWs as i j) (i + m)).owner = false) := by
  induction h with
  | nil j =>
    intro i σ hi
    exact ⟨fun _ _ _ => rfl, fun q cs hq => by simp [ptrs] at hq, fun _ _ m u hm => by simp at hm, fun m hm => by simp at hm⟩
  | val ag cs u as us j hv hr ih =>
    intro i σ hi
    simp only [List.length_cons] at hi
    -- the slot's value
    obtain ⟨v, hw, hown, hok⟩ : ∃ v : AV U.τ, startWs (.val ag cs :: as) i j = (i, v) :: startWs as (i + 1) j ∧ v.owner = false ∧ ∀ σ' : Slots U, SlotOk P U G σ' w i v u := by
      cases ag with
      | true => exact ⟨.agg cs, rfl, rfl, fun σ' => hv⟩
      | false =>
        obtain ⟨c, rfl, hc⟩ := hv
        exact ⟨.one c, rfl, rfl, fun σ' => SlotOk.of_pc hc⟩
    rw [hw]
    obtain ⟨h1, h2, h3, h4⟩ := ih (i + 1) (upd σ i v) (by omega)
    have hp : ptrs (.val ag cs :: as) = ptrs as := rfl
    have hat : updsσ (upd σ i v) (startWs as (i + 1) j) i = v := by
      rw [h1 i (.inl (by omega)) (.inl (by omega))]
      simp [upd]
    simp only [updsσ, hp]
    refine ⟨fun t ht ht2 => ?_, h2, fun σ' hσ' m x hm => ?_, fun m hm => ?_⟩
    · simp only [List.length_cons] at ht
      rw [h1 t (by omega) ht2]
      have : t ≠ i := by omega
      simp [upd, this]
    · cases m with
      | zero =>
        simp at hm; subst hm
        rw [Nat.add_zero, hat]
        exact hok σ'
      | succ m =>
        rw [show i + (m + 1) = i + 1 + m by omega]
        exact h3 σ' hσ' m x (by simpa using hm)
    · cases m with
      | zero => exact (show (updsσ (upd σ i v) (startWs as (i + 1) j) i).owner = false by rw [hat]; exact hown)
      | succ m =>
        rw [show i + (m + 1) = i + 1 + m by omega]
        exact h4 m (by simpa using hm)
  | ptr cs as us j hb hr ih =>
    intro i σ hi
    simp only [List.length_cons] at hi
    have hw : startWs (.ptr cs :: as) i j = (vbase + j, .box cs) :: (i, .one (.ref (vbase + j) 0)) :: startWs as (i + 1) (j + 1) := rfl
    rw [hw]
    obtain ⟨h1, h2, h3, h4⟩ := ih (i + 1) (upd (upd σ (vbase + j) (.box cs)) i (.one (.ref (vbase + j) 0))) (by omega)
    have hp : ptrs (.ptr cs :: as) = cs :: ptrs as := rfl
    simp only [updsσ, hp]
    have hat : updsσ (upd (upd σ (vbase + j) (.box cs)) i (.one (.ref (vbase + j) 0))) (startWs as (i + 1) (j + 1)) i = .one (.ref (vbase + j) 0) := by
      rw [h1 i (.inl (by omega)) (.inl (by omega))]
      simp [upd]
    have hbx : updsσ (upd (upd σ (vbase + j) (.box cs)) i (.one (.ref (vbase + j) 0))) (startWs as (i + 1) (j + 1)) (vbase + j) = .box cs := by
      rw [h1 (vbase + j) (.inr (by omega)) (.inl (by omega))]
      have : vbase + j ≠ i := by omega
      simp [upd, this]
    refine ⟨fun t ht ht2 => ?_, fun q l hq => ?_, fun σ' hσ' m x hm => ?_, fun m hm => ?_⟩
    · simp only [List.length_cons] at ht ht2
      rw [h1 t (by omega) (by omega)]
      have k1 : t ≠ i := by omega
      have k2 : t ≠ vbase + j := by omega
      simp [upd, k1, k2]
    · cases q with
      | zero =>
        simp at hq; subst hq
        rw [Nat.add_zero]
        exact ⟨hbx, hb⟩
      | succ q =>
        rw [show j + (q + 1) = j + 1 + q by omega]
        exact h2 q l (by simpa using hq)
    · cases m with
      | zero =>
        simp at hm; subst hm
        rw [Nat.add_zero, hat]
        have := hσ' 0 cs rfl
        rw [Nat.add_zero] at this
        exact ⟨⟨cs, this⟩, rfl⟩
      | succ m =>
        rw [show i + (m + 1) = i + 1 + m by omega]
        exact h3 σ' (fun q l hq => by have := hσ' (q + 1) l (by simpa using hq); rwa [show j + (q + 1) = j + 1 + q by omega] at this) m x (by simpa using hm)
    · cases m with
      | zero => exact (show (updsσ (upd (upd σ (vbase + j) (.box cs)) i (.one (.ref (vbase + j) 0))) (startWs as (i + 1) (j + 1)) i).owner = false by rw [hat]; rfl)
      | succ m =>
        rw [show i + (m + 1) = i + 1 + m by omega]
        exact h4 m (by simpa using hm)

def resOf (tmps : Array Value) : ResultVar → Sem Value
  | .tmp t => pure (tmps.getD t undef)
  | .cell x t => do loadVar t (← asAddr (tmps.getD x undef))

theorem results_run (fn : Func) (tmps : Array Value) : (results fn tmps).run P w = ((fn.results.toList.mapM (resOf tmps)).run P w).andThen fun us w' => .ok (if h : us.toArray.size = 1 then us.toArray[0] else .tuple us.toArray) w' := by
  have e : (fun (x : ResultVar) => (match x with | .tmp t => pure (tmps.getD t undef) | .cell a t => do loadVar t (← asAddr (tmps.getD a undef)) : Sem Value)) = resOf tmps := by
    funext x; cases x <;> rfl
  have h : results fn tmps = (do
      let vs ← fn.results.mapM (resOf tmps)
      pure (if h : vs.size = 1 then vs[0] else .tuple vs)) := by
    rw [← e]; rfl
  rw [h, Array.mapM_eq_mapM_toList]
  simp only [Sem.run_bind, Sem.run_map]
  cases (fn.results.toList.mapM (resOf tmps)).run P w <;> rfl

theorem resVal_ok (r : R P U N L0 G0 w0 G σ a w) {st : St U} (hst : st.get = σ) {rv : ResultVar} {ag : Bool} {cs : List (CV U.τ)} (h : resVal P rv st = some (ag, cs)) :
    ∃ u, (resOf a.tmps rv).run P w = .ok u w ∧ ValOk P U w G.I ag cs u := by
  cases rv with
  | tmp t =>
    simp only [resVal] at h
    rw [hst] at h
    refine ⟨_, rfl, ?_⟩
    have hs := r.slots t
    cases hv : σ t with
    | box cs' => rw [hv] at h; simp [asVal, cellsOf] at h
    | bblk e y q => rw [hv] at h; simp [asVal, cellsOf] at h
    | one c => rw [hv] at h hs; exact cellsOf_ok hs h
    | agg cs' => rw [hv] at h hs; exact cellsOf_ok hs h
    | _ => rw [hv] at h; simp [asVal, cellsOf] at h
  | cell x t =>
    simp only [resVal] at h
    cases hx : Nat.ble vbase x with
    | true => rw [hx] at h; cases h
    | false =>
      rw [hx, cond_false, hst] at h
      have hxv : x < vbase := by
        rcases Nat.lt_or_ge x vbase with h1 | h1
        · exact h1
        · rw [Nat.ble_eq_true_of_le h1] at hx; cases hx
      have main : ∀ s off, (∃ cs', σ s = .box cs') → a.tmps.getD x undef = .pointer (some ⟨(G.loc s).1, (G.loc s).2 + off, none⟩) →
          (match σ s with | .box cs => cond (Nat.ble 1 (P.cellsOf t)) ((partOf P t cs off).bind fun v => cellsOf v) none | _ => none) = some (ag, cs) →
          ∃ u, (resOf a.tmps (.cell x t)).run P w = .ok u w ∧ ValOk P U w G.I ag cs u := by
        rintro s off ⟨cs', hs⟩ hp h
        rw [hs] at h
        simp only at h
        cases hz : Nat.ble 1 (P.cellsOf t) with
        | false => rw [hz] at h; cases h
        | true =>
          rw [hz, cond_true] at h
          have hz := Nat.le_of_ble_eq_true hz
          cases hpt : partOf P t cs' off with
          | none => rw [hpt] at h; cases h
          | some v =>
            rw [hpt] at h
            simp only [Option.bind_some] at h
            have hbx := r.slots s
            rw [hs] at hbx
            obtain ⟨k1, u, k2, k3, k4⟩ := loadVar_ok (σ := σ) (G := G) (w := w) hpt hz (b := (G.loc s).1) (base := (G.loc s).2) (fun j c hj => by
              obtain ⟨y, hy, hk⟩ := hbx.2.cells j c hj
              exact ⟨y, hy, hk.plain⟩)
            refine ⟨u, by simp [resOf, hp, asAddr, k2], ?_⟩
            have hcv : cellsOf v.plain = cellsOf v := by
              cases v with
              | one c => cases c <;> first | rfl | (rename_i f; cases f <;> rfl)
              | _ => rfl
            rw [← hcv] at h
            exact cellsOf_ok (k3 0) h
      have hs := r.slots x
      cases hv : σ x with
      | box cs' =>
        rw [hv] at h hs
        exact main x 0 ⟨cs', hv⟩ (hs.1 hxv) h
      | one c =>
        rw [hv] at h hs
        cases c with
        | ref s off => exact main s off hs.1 hs.2 h
        | _ => simp [asVal] at h
      | _ => rw [hv] at h; simp [asVal] at h

theorem resVals_ok (r : R P U N L0 G0 w0 G σ a w) {st : St U} (hst : st.get = σ) : ∀ (rs : List ResultVar) (vs : List (Bool × List (CV U.τ))), resVals P rs st = some vs →
    ∃ us, (rs.mapM (resOf a.tmps)).run P w = .ok us w ∧ us.length = vs.length ∧ ∀ (j : Nat) ag cs, vs[j]? = some (ag, cs) → ∃ u, us[j]? = some u ∧ ValOk P U w G.I ag cs u
  | [], vs, h => by
    simp only [resVals, Option.some.injEq] at h
    subst h
    exact ⟨[], rfl, rfl, fun j ag cs hj => by simp at hj⟩
  | rv :: rs, vs, h => by
    simp only [resVals] at h
    cases h1 : resVal P rv st with
    | none => rw [h1] at h; cases h
    | some x =>
      cases h2 : resVals P rs st with
      | none => rw [h1, h2] at h; cases h
      | some xs =>
        rw [h1, h2] at h
        injection h with h; subst h
        obtain ⟨ag, cs⟩ := x
        obtain ⟨u, k1, k2⟩ := resVal_ok r hst h1
        obtain ⟨us, k3, k4, k5⟩ := resVals_ok r hst rs xs h2
        refine ⟨u :: us, ?_, by simp [k4], fun j ag' cs' hj => ?_⟩
        · simp only [List.mapM_cons, Sem.run_bind, k1, k3, Result.andThen_ok, Sem.run_pure]
        · cases j with
          | zero => simp at hj; obtain ⟨rfl, rfl⟩ := hj; exact ⟨u, rfl, k2⟩
          | succ j => simpa using k5 j ag' cs' (by simpa using hj)

theorem boxesAt_ok {st : St U} : ∀ (m i : Nat) (bs : List (List (CV U.τ))), boxesAt st m i = some bs → bs.length = m ∧ ∀ (j : Nat) cs, bs[j]? = some cs → st.get (vbase + (i + j)) = .box cs
  | 0, i, bs, h => by
    simp only [boxesAt, Option.some.injEq] at h
    subst h
    exact ⟨rfl, fun j cs hj => by simp at hj⟩
  | m + 1, i, bs, h => by
    simp only [boxesAt] at h
    split at h
    · rename_i cs r h1 h2
      injection h with h; subst h
      obtain ⟨k1, k2⟩ := boxesAt_ok m (i + 1) r h2
      refine ⟨by simp [k1], fun j cs' hj => ?_⟩
      cases j with
      | zero => simp at hj; subst hj; rw [Nat.add_zero]; exact h1
      | succ j => rw [show i + (j + 1) = i + 1 + j by omega]; exact k2 j cs' (by simpa using hj)
    · cases h

theorem nptr_eq : ∀ (as : List (Arg U.τ)), nptr as = (ptrs as).length
  | [] => rfl
  | .ptr _ :: r => by simp [nptr, ptrs, nptr_eq r]
  | .val _ _ :: r => by simp [nptr, ptrs, nptr_eq r]

theorem results_ok (r : R P U N L0 G0 w0 G σ a w) {st : St U} (hst : st.get = σ) {fn : Func} {m : Nat} {o : Out U.τ} (h : outOf P fn.results.toList m st = some o) :
    (∃ u, (results fn a.tmps).run P w = .ok u w ∧ RetOk P U w G.I o.ret u) ∧ o.boxes.length = m ∧ ∀ (j : Nat) cs, o.boxes[j]? = some cs → σ (vbase + j) = .box cs := by
  unfold outOf at h
  cases h1 : resVals P fn.results.toList st with
  | none => rw [h1] at h; cases h
  | some vs =>
    cases h2 : boxesAt st m 0 with
    | none => rw [h1, h2] at h; cases h
    | some bs =>
      rw [h1, h2] at h
      injection h with h; subst h
      obtain ⟨us, k1, k2, k3⟩ := resVals_ok r hst _ vs h1
      obtain ⟨k4, k5⟩ := boxesAt_ok m 0 bs h2
      have hbox : ∀ (j : Nat) cs, bs[j]? = some cs → σ (vbase + j) = .box cs := fun j cs hj => by
        have := k5 j cs hj
        rwa [Nat.zero_add, hst] at this
      refine ⟨?_, k4, hbox⟩
      have hrun : (results fn a.tmps).run P w = .ok (if h : us.toArray.size = 1 then us.toArray[0] else .tuple us.toArray) w := by
        rw [results_run, k1]; rfl
      have one : ∀ x, vs = [x] → ∃ u, us = [u] ∧ ValOk P U w G.I x.1 x.2 u := by
        intro x hx
        subst hx
        obtain ⟨u, g1, g2⟩ := k3 0 x.1 x.2 rfl
        refine ⟨u, ?_, g2⟩
        cases us with
        | nil => simp at k2
        | cons y ys =>
          simp at k2 g1
          rw [k2, g1]
      have tupCase : (∀ x, vs ≠ [x]) → ∃ u, (results fn a.tmps).run P w = .ok u w ∧ RetOk P U w G.I (.tup vs) u := by
        intro hne
        refine ⟨_, hrun, ?_⟩
        have : ¬ us.toArray.size = 1 := by
          simp only [List.size_toArray]
          intro h1
          rw [k2] at h1
          obtain ⟨x, hx⟩ := List.length_eq_one_iff.1 h1
          exact hne x hx
        rw [dif_neg this]
        exact ⟨us.toArray, rfl, by simpa using k2, fun j ag cs hj => by
          obtain ⟨u, g1, g2⟩ := k3 j ag cs hj
          exact ⟨u, by simpa using g1, g2⟩⟩
      simp only
      cases hvs : vs with
      | nil => rw [hvs] at tupCase; exact tupCase (by simp)
      | cons x xs =>
        cases xs with
        | nil =>
          obtain ⟨u, g1, g2⟩ := one x hvs
          subst g1
          obtain ⟨ag, cs⟩ := x
          cases ag with
          | true => exact ⟨u, hrun, g2⟩
          | false =>
            obtain ⟨c', g3, g4⟩ := g2
            simp only at g3
            subst g3
            exact ⟨u, hrun, g4⟩
        | cons y ys =>
          have := tupCase (by rw [hvs]; simp)
          rw [hvs] at this
          have hmk : mkRet (x :: y :: ys) = .tup (x :: y :: ys) := by
            obtain ⟨ag, cs⟩ := x
            cases ag with
            | true => rfl
            | false => cases cs with
              | nil => rfl
              | cons c cs => cases cs <;> rfl
          rw [hmk]
          exact this

/-- What the evaluator makes of a function is what a call of it comes to. -/
theorem evFn_sound (hU : UnivOk P U) (hΦ : SoundTab P U Φ) (hm : P.follows .mixedOrders = true) {n f : Nat} {fn : Func} (hf : P.funcs[f]? = some fn) (hcall : ∀ (vs : Array Value) (w : World), (callFunc f vs).run P w = .ok (.enter f vs) w)
    {args : List (Arg U.τ)} {k : Out U.τ → Option Res} {out : Res} (h : evFn P Φ adv n fn args k = some out) : ∃ o, CallOk P U f args o ∧ k o = some out := by
  unfold evFn at h
  cases hb : fn.body with
  | none => rw [hb] at h; cases h
  | some c =>
    rw [hb] at h
    simp only at h
    cases hc : (Nat.ble adv.n fn.ntmps && Nat.ble fn.ntmps vbase && Nat.ble args.length fn.ntmps) with
    | false => rw [hc] at h; cases h
    | true =>
      rw [hc, cond_true, forceSt_eq] at h
      simp only [Bool.and_eq_true] at hc
      obtain ⟨⟨hn1, hn2⟩, hn3⟩ := hc
      have hn1 := Nat.le_of_ble_eq_true hn1
      have hn2 := Nat.le_of_ble_eq_true hn2
      have hn3 := Nat.le_of_ble_eq_true hn3
      obtain ⟨e, st', h1, h2⟩ := ev_leaves hU hΦ hm c _ _ _ _ _ h
      have hfin : (e = .normal ∨ e = .ret) ∧ (match outOf P fn.results.toList (nptr args) st' with | some o => k o | none => none) = some out := by
        cases e with
        | normal => exact ⟨.inl rfl, h1⟩
        | ret => exact ⟨.inr rfl, h1⟩
        | _ => cases h1
      obtain ⟨he, hk⟩ := hfin
      cases ho : outOf P fn.results.toList (nptr args) st' with
      | none => rw [ho] at hk; cases hk
      | some o =>
        rw [ho] at hk
        refine ⟨o, ⟨hcall, fun G0 w vs hargs himm hwho => ?_⟩, hk⟩
        have hlen := argsRel_length hargs
        let L0 : Nat → Nat := fun t => ((ptrs args)[t - vbase]?.map List.length).getD 0
        let a0 : Act := { tmps := vs.toArray ++ Array.replicate (fn.ntmps - vs.toArray.size) undef, defers := [] }
        obtain ⟨g1, g2, g3, g4⟩ := start_slots hargs 0 (fun _ => .undef) (by omega)
        have hget : (St.puts ([] : St U) (startWs args 0 0)).get = updsσ (fun _ => .undef) (startWs args 0 0) := by
          rw [get_puts]; rfl
        -- a slot beyond the arguments and the boxes
        have hbox : ∀ t cs, vbase ≤ t → updsσ (fun _ => .undef) (startWs args 0 0) t = .box cs → (ptrs args)[t - vbase]? = some cs := by
          intro t cs ht hσ
          by_cases hlt : t < vbase + (ptrs args).length
          · have hlt2 : t - vbase < (ptrs args).length := by omega
            obtain ⟨l, hq⟩ : ∃ l, (ptrs args)[t - vbase]? = some l := ⟨_, List.getElem?_eq_getElem hlt2⟩
            have := (g2 (t - vbase) _ hq).1
            rw [show vbase + (0 + (t - vbase)) = t by omega, hσ] at this
            injection this with this
            rw [hq, ← this]
          · have e1 : 0 + args.length ≤ t := by omega
            have e2 : vbase + 0 + (ptrs args).length ≤ t := by omega
            rw [g1 t (Or.inr e1) (Or.inr e2)] at hσ
            cases hσ
        have r0 : R P U fn.ntmps L0 G0 w G0 (updsσ (fun _ => .undef) (startWs args 0 0)) a0 w := by
          refine ⟨rfl, ?_, hn2, fun t => ?_, himm, hwho, .refl G0 w, fun _ _ => rfl, fun t cs ht hσ => ?_, fun _ _ _ _ _ _ => rfl⟩
          · simp [a0]; omega
          · by_cases ht : t < args.length
            · have hv : vs[t]? = some vs[t] := List.getElem?_eq_getElem (by omega)
              have := g3 (updsσ (fun _ => .undef) (startWs args 0 0)) (fun q cs hq => (g2 q cs hq).1) t _ hv
              rw [Nat.zero_add] at this
              have hval : a0.tmps.getD t undef = vs[t] := by
                rw [Array.getD_eq_getD_getElem?, Array.getElem?_append_left (by simp; omega)]
                simp [hv]
              rw [hval]
              exact this
            · by_cases hp : vbase ≤ t ∧ t < vbase + (ptrs args).length
              · have hlt2 : t - vbase < (ptrs args).length := by omega
                obtain ⟨l, hq⟩ : ∃ l, (ptrs args)[t - vbase]? = some l := ⟨_, List.getElem?_eq_getElem hlt2⟩
                obtain ⟨k1, k2⟩ := g2 (t - vbase) _ hq
                rw [show vbase + (0 + (t - vbase)) = t by omega] at k1 k2
                rw [k1]
                exact ⟨fun h => by omega, k2⟩
              · rw [g1 t (.inr (by omega)) (by omega)]
                trivial
          · have := hbox t cs ht hσ
            simp [L0, this]
        have hA : After P U fn.ntmps L0 G0 w (St.puts ([] : St U) (startWs args 0 0)).get a0 w := by rw [hget]; exact ⟨G0, r0⟩
        refine calls_of_wp hf hb ?_
        refine wp_mono (h2 hn1 a0 w hA) fun e' a' w' ⟨he', G, r⟩ => ?_
        obtain ⟨⟨u, k1, k2⟩, k3, k4⟩ := results_ok r rfl ho
        have fin : a'.defers = [] ∧ ∃ v, (results fn a'.tmps).run P w' = .ok v w' ∧ (∃ u G', Ending.returned v = .returned u ∧ Step G0 w G' w' ∧ RetOk P U w' G'.I o.ret u ∧ o.boxes.length = (ptrs args).length ∧
            (∀ (j : Nat) cs, o.boxes[j]? = some cs → BoxRel P U w' G'.I G'.who (vbase + j) (G0.loc (vbase + j)) cs) ∧
            (∀ (j : Nat) cs, (ptrs args)[j]? = some cs → (∃ l, o.boxes[j]? = some l ∧ l.length = cs.length) ∧ ∀ q, (q < (G0.loc (vbase + j)).2 ∨ (G0.loc (vbase + j)).2 + cs.length ≤ q) → w'.cell? ⟨(G0.loc (vbase + j)).1, q, none⟩ = w.cell? ⟨(G0.loc (vbase + j)).1, q, none⟩) ∧
            (∀ b q, G'.I b q → (w'.cell? ⟨b, q, none⟩).isSome = true) ∧ (∀ b L, G'.who b = some L → b < w'.heap.size)) := by
          refine ⟨r.defers, u, k1, u, G, rfl, r.step, k2, by rw [k3, nptr_eq], fun j cs hj => ?_, fun j cs hj => ?_, r.imm, r.who⟩
          · have hs := r.slots (vbase + j)
            rw [k4 j cs hj] at hs
            have := hs.2
            rwa [r.loc _ (by omega)] at this
          · have hjl := (List.getElem?_eq_some_iff.1 hj).1
            have hjl2 : j < o.boxes.length := by rw [k3, nptr_eq]; exact hjl
            have hl : o.boxes[j]? = some (o.boxes[j]'hjl2) := List.getElem?_eq_getElem hjl2
            have hσ := k4 j _ hl
            have hln := r.lens (vbase + j) _ (by omega) hσ
            have hL : L0 (vbase + j) = cs.length := by simp [L0, hj]
            refine ⟨⟨_, hl, by rw [hln, hL]⟩, fun q hq => ?_⟩
            have := r.rest (vbase + j) _ (by omega) hσ q (by rw [r.loc _ (by omega), hln, hL]; exact hq)
            rwa [r.loc _ (by omega)] at this
        subst he'
        rcases he with rfl | rfl
        · exact fin
        · exact fin

end
end Go.VI
