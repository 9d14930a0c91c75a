import Derived.Test.YtpapfbpefhcobaaV21
/-! Code, carried out. -/
set_option linter.unusedVariables false
set_option linter.unusedSimpArgs false
namespace Go.VI
open Go

section
variable {P : Program} {U : Univ} {adv : Adv} {Res : Type} {Φ : Tab U}

def Kont (kn : St U → Option Res) (ke : Nat → St U → Option Res) (kr : St U → Option Res) : Exit → St U → Option Res
  | .normal => kn
  | .exit id => ke id
  | .ret => kr
  | _ => fun _ => none

/-- The code leaves by e, in the state st', from wherever the state is st. -/
def Leaves (P : Program) (U : Univ) (adv : Adv) (c : Code) (st : St U) (e : Exit) (st' : St U) : Prop :=
  ∀ {N : Nat} {L0 : Nat → Nat} {G0 : Ghost} {w0 : World}, adv.n ≤ N → ∀ a w, After P U N L0 G0 w0 st.get a w → c.wp P (fun e' a' w' => e' = e ∧ After P U N L0 G0 w0 st'.get a' w') a w

theorem region_leaves (hU : UnivOk P U) (hΦ : SoundTab P U Φ) (hm : P.follows .mixedOrders = true) {id : Nat} {ops : Array Oper} {draw : Bool} {st : St U} {k : St U → Option Res} {out : Res} (h : evRegion P Φ adv id ops.toList draw st k = some out) :
    ∃ st', k st' = some out ∧ Leaves P U adv (.region id ops draw) st .normal st' := by
  unfold evRegion at h
  cases hc : (draw && !(edgesOk ops.toList 0)) with
  | true => rw [hc] at h; cases h
  | false =>
    rw [hc, cond_false] at h
    obtain ⟨D, st2, h1, h2, h3⟩ := evOps_inv hΦ _ _ _ _ h
    rw [forceSt_eq] at h2
    refine ⟨_, h2, fun {N L0 G0 w0} hN a w hA => ?_⟩
    have hA' := hA.freshen ops.toList
    have hQ : ∀ a w, After P U N L0 G0 w0 st2.get a w → (fun (e' : Exit) a' w' => e' = Exit.normal ∧ After P U N L0 G0 w0 (settle (adv.keep.getD id []) st2).get a' w') .normal a w := fun a w h => ⟨rfl, h.settle _⟩
    cases draw with
    | false =>
      have := lex_wpOps hU (Q := fun (e' : Exit) a' w' => e' = Exit.normal ∧ After P U N L0 G0 w0 (settle (adv.keep.getD id []) st2).get a' w') hN hQ ops.toList 0 _ D a w (fun j => by simp) h1 hA'
      refine wp_region ?_
      rw [List.range_eq_range']
      simpa using this
    | true =>
      obtain ⟨_, hap⟩ := h3 rfl
      have hed : edgesOk ops.toList 0 = true := by cases he : edgesOk ops.toList 0 <;> rw [he] at hc <;> first | rfl | cases hc
      refine wp_region_any hm ?_
      have hB : (Region.before ops.toList.toArray) = Region.before ops := by simp
      have := draw_wpAny hU (Q := fun (e' : Exit) a' w' => e' = Exit.normal ∧ After P U N L0 G0 w0 (settle (adv.keep.getD id []) st2).get a' w') hN h1 (fun p m d d' hpm hp hm => by
        have := hap p m d d' hpm hp hm
        simpa using this) hed hQ ops.size (Array.replicate ops.size false) a { w with drawn := w.drawn + 1 } (by simp) (by simp) (fun m p hmt => by
          rw [Array.getD_eq_getD_getElem?, Array.getElem?_replicate] at hmt
          split at hmt <;> simp at hmt) (by
          have : applyS (fun m => (Array.replicate ops.size false).getD m false) D 0 (freshen ops.toList st).get = (freshen ops.toList st).get := applyS_none D 0 _ (fun m _ => by
            rw [Array.getD_eq_getD_getElem?, Array.getElem?_replicate]
            split <;> rfl)
          rw [this]
          obtain ⟨G, r⟩ := hA'
          exact ⟨G, r.drew⟩)
      simpa using this

/-- Inside a loop, at the head of a round. -/
def LoopAt (P : Program) (c : Code) (Q : Exit → Act → World → Prop) (a : Act) (w : World) : Prop :=
  ∀ (b : Frame) (k : List Item) (cs : List Frame), ∃ e a' w', Q e a' w' ∧ Arrives P (lone (b.at a (.code c :: .inLoop c :: k)) cs w) b k cs e a' w'

theorem LoopAt.loop {c : Code} {Q : Exit → Act → World → Prop} {a : Act} {w : World} (h : LoopAt P c Q a w) : (Code.loop c).wp P Q a w :=
  fun b k cs => let ⟨e, a', w', hq, harr⟩ := h b k cs; ⟨e, a', w', hq, .of_steps (.one step_loop) harr⟩

theorem LoopAt.round {c : Code} {Q : Exit → Act → World → Prop} {a : Act} {w : World} (h : c.wp P (Exit.then (LoopAt P c Q) Q) a w) : LoopAt P c Q a w := by
  intro b k cs
  obtain ⟨e, a₁, w₁, hq, harr⟩ := h b (.inLoop c :: k) cs
  cases e with
  | normal =>
    obtain ⟨e₂, a₂, w₂, hq₂, harr₂⟩ := hq b k cs
    exact ⟨e₂, a₂, w₂, hq₂, .of_steps (Steps.trans harr (.one step_inLoop)) harr₂⟩
  | exit id => exact ⟨_, a₁, w₁, hq, .pass (x := .inLoop c) rfl (fun _ _ => .inl (by simp)) harr⟩
  | goto l => exact ⟨_, a₁, w₁, hq, .pass (x := .inLoop c) rfl (fun _ _ => .inl (by simp)) harr⟩
  | ret => exact ⟨_, a₁, w₁, hq, .pass (x := .inLoop c) rfl (fun _ _ => .inl (by simp)) harr⟩
  | panic ch => exact ⟨_, a₁, w₁, hq, .pass (x := .inLoop c) rfl (fun _ _ => .inl (by simp)) harr⟩
  | outgrown => exact ⟨_, a₁, w₁, hq, .pass (x := .inLoop c) rfl (fun _ _ => .inl (by simp)) harr⟩

theorem ev_leaves (hU : UnivOk P U) (hΦ : SoundTab P U Φ) (hm : P.follows .mixedOrders = true) {n : Nat} : ∀ (c : Code) (kn : St U → Option Res) (ke : Nat → St U → Option Res) (kr : St U → Option Res) (st : St U) (out : Res),
    ev P Φ adv n c kn ke kr st = some out → ∃ e st', Kont kn ke kr e st' = some out ∧ Leaves P U adv c st e st' := by
  intro c
  induction c with
  | skip => intro kn ke kr st out h; exact ⟨.normal, st, h, fun hN a w hA => wp_skip ⟨rfl, hA⟩⟩
  | region id ops draw =>
    intro kn ke kr st out h
    obtain ⟨st', h1, h2⟩ := region_leaves hU hΦ hm h
    exact ⟨.normal, st', h1, h2⟩
  | seq x y ihx ihy =>
    intro kn ke kr st out h
    simp only [ev] at h
    obtain ⟨e, st1, h1, h2⟩ := ihx _ _ _ _ _ h
    have stop : e ≠ .normal → Kont kn ke kr e st1 = some out → ∃ e st', Kont kn ke kr e st' = some out ∧ Leaves P U adv (.seq x y) st e st' := fun hne hk =>
      ⟨e, st1, hk, fun hN a w hA => wp_seq (wp_mono (h2 hN a w hA) fun e' a' w' ⟨he, hA'⟩ => by
        subst he
        cases e' <;> first | exact absurd rfl hne | exact ⟨rfl, hA'⟩)⟩
    cases e with
    | normal =>
      obtain ⟨e2, st2, h3, h4⟩ := ihy _ _ _ _ _ h1
      exact ⟨e2, st2, h3, fun hN a w hA => wp_seq (wp_mono (h2 hN a w hA) fun e' a' w' ⟨he, hA'⟩ => by
        subst he
        exact h4 hN a' w' hA')⟩
    | exit id => exact stop (by simp) h1
    | ret => exact stop (by simp) h1
    | _ => cases h1
  | cond c x y ihx ihy =>
    intro kn ke kr st out h
    simp only [ev] at h
    cases c with
    | tmp t =>
      simp only at h
      cases hs : st.get t with
      | one v =>
        cases v with
        | bool b =>
          rw [hs] at h
          simp only at h
          have hval : ∀ {N : Nat} {L0 : Nat → Nat} {G0 : Ghost} {w0 : World} {a : Act} {w : World}, After P U N L0 G0 w0 st.get a w → a.eval (.tmp t) = .bool b := by
            rintro N L0 G0 w0 a w ⟨G, r⟩
            have h1 := r.slots t
            rw [hs] at h1
            exact PC.of_bool (by
              rcases h1 with h1 | ⟨_, _, h1, _⟩
              · exact h1
              · simp [cont] at h1)
          cases b with
          | true =>
            rw [if_pos rfl] at h
            obtain ⟨e, st', h1, h2⟩ := ihx _ _ _ _ _ h
            exact ⟨e, st', h1, fun hN a w hA => wp_cond_true (hval hA) (h2 hN a w hA)⟩
          | false =>
            rw [if_neg (by simp)] at h
            obtain ⟨e, st', h1, h2⟩ := ihy _ _ _ _ _ h
            exact ⟨e, st', h1, fun hN a w hA => wp_cond_false (hval hA) (h2 hN a w hA)⟩
        | _ => rw [hs] at h; cases h
      | _ => rw [hs] at h; cases h
    | const v =>
      cases v with
      | bool b =>
        cases b with
        | true =>
          obtain ⟨e, st', h1, h2⟩ := ihx _ _ _ _ _ h
          exact ⟨e, st', h1, fun hN a w hA => wp_cond_true rfl (h2 hN a w hA)⟩
        | false =>
          obtain ⟨e, st', h1, h2⟩ := ihy _ _ _ _ _ h
          exact ⟨e, st', h1, fun hN a w hA => wp_cond_false rfl (h2 hN a w hA)⟩
      | _ => cases h
    | _ => cases h
  | block id c ih =>
    intro kn ke kr st out h
    simp only [ev] at h
    obtain ⟨e, st', h1, h2⟩ := ih _ _ _ _ _ h
    cases e with
    | normal => exact ⟨.normal, st', h1, fun hN a w hA => wp_block (wp_mono (h2 hN a w hA) fun e' a' w' ⟨he, hA'⟩ => by subst he; exact ⟨rfl, hA'⟩)⟩
    | ret => exact ⟨.ret, st', h1, fun hN a w hA => wp_block (wp_mono (h2 hN a w hA) fun e' a' w' ⟨he, hA'⟩ => by subst he; exact ⟨rfl, hA'⟩)⟩
    | exit id' =>
      simp only [Kont] at h1
      by_cases hid : id' = id
      · subst hid
        rw [Nat.beq_refl, cond_true] at h1
        exact ⟨.normal, st', h1, fun hN a w hA => wp_block (wp_mono (h2 hN a w hA) fun e' a' w' ⟨he, hA'⟩ => by subst he; simp only [Exit.inBlock, if_true]; exact ⟨trivial, hA'⟩)⟩
      · rw [beq_ne hid, cond_false] at h1
        exact ⟨.exit id', st', h1, fun hN a w hA => wp_block (wp_mono (h2 hN a w hA) fun e' a' w' ⟨he, hA'⟩ => by subst he; simp only [Exit.inBlock, hid, if_false]; exact ⟨trivial, hA'⟩)⟩
    | _ => cases h1
  | loop c ih =>
    intro kn ke kr st out h
    simp only [ev] at h
    rw [forceSt_eq] at h
    have key : ∀ (m : Nat) (st : St U), loopN m (fun k => ev P Φ adv n c k ke kr) st = some out → ∃ e st', e ≠ .normal ∧ Kont kn ke kr e st' = some out ∧
        ∀ {N : Nat} {L0 : Nat → Nat} {G0 : Ghost} {w0 : World}, adv.n ≤ N → ∀ a w, After P U N L0 G0 w0 st.get a w → LoopAt P c (fun e' a' w' => e' = e ∧ After P U N L0 G0 w0 st'.get a' w') a w := by
      intro m
      induction m with
      | zero => intro st h; cases h
      | succ m ihm =>
        intro st h
        simp only [loopN] at h
        obtain ⟨e, st1, h1, h2⟩ := ih _ _ _ _ _ h
        cases e with
        | normal =>
          simp only [Kont, forceSt_eq] at h1
          obtain ⟨e2, st2, h3, h4, h5⟩ := ihm _ h1
          exact ⟨e2, st2, h3, h4, fun hN a w hA => LoopAt.round (wp_mono (h2 hN a w hA) fun e' a' w' ⟨he, hA'⟩ => by
            subst he
            exact h5 hN a' w' hA'.loosen)⟩
        | exit id => exact ⟨.exit id, st1, by simp, h1, fun hN a w hA => LoopAt.round (wp_mono (h2 hN a w hA) fun e' a' w' ⟨he, hA'⟩ => by subst he; exact ⟨rfl, hA'⟩)⟩
        | ret => exact ⟨.ret, st1, by simp, h1, fun hN a w hA => LoopAt.round (wp_mono (h2 hN a w hA) fun e' a' w' ⟨he, hA'⟩ => by subst he; exact ⟨rfl, hA'⟩)⟩
        | _ => cases h1
    obtain ⟨e, st', _, h2, h3⟩ := key n _ h
    exact ⟨e, st', h2, fun hN a w hA => (h3 hN a w hA.loosen).loop⟩
  | exit id => intro kn ke kr st out h; exact ⟨.exit id, st, h, fun hN a w hA => wp_exit ⟨rfl, hA⟩⟩
  | ret => intro kn ke kr st out h; exact ⟨.ret, st, h, fun hN a w hA => wp_ret ⟨rfl, hA⟩⟩
  | label l => intro kn ke kr st out h; exact ⟨.normal, st, h, fun hN a w hA => wp_label ⟨rfl, hA⟩⟩
  | _ => intro kn ke kr st out h; cases h

end
end Go.VI
