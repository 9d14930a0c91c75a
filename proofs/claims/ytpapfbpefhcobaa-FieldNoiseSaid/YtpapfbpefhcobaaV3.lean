import Derived.Test.YtpapfbpefhcobaaV2
/-! What a tree does in a state, and what a call is held to. -/
set_option linter.unusedVariables false
set_option linter.unusedSimpArgs false
namespace Go.VI
open Go

section
variable (P : Program) (U : Univ)

inductive ArgsRel (w : World) (I : Nat → Nat → Prop) (who : Nat → Option (Nat × Option Nat)) (loc : Nat → Nat × Nat) : List (Arg U.τ) → List Value → Nat → Prop
  | nil (j : Nat) : ArgsRel w I who loc [] [] j
  | val (a : Bool) (cs : List (CV U.τ)) (u : Value) (as : List (Arg U.τ)) (us : List Value) (j : Nat) : ValOk P U w I a cs u → ArgsRel w I who loc as us j → ArgsRel w I who loc (.val a cs :: as) (u :: us) j
  | ptr (cs : List (CV U.τ)) (as : List (Arg U.τ)) (us : List Value) (j : Nat) : BoxRel P U w I who (vbase + j) (loc (vbase + j)) cs → ArgsRel w I who loc as us (j + 1) →
      ArgsRel w I who loc (.ptr cs :: as) (.pointer (some ⟨(loc (vbase + j)).1, (loc (vbase + j)).2, none⟩) :: us) j

def ptrs {τ : Nat → Type} : List (Arg τ) → List (List (CV τ))
  | [] => []
  | .ptr cs :: r => cs :: ptrs r
  | _ :: r => ptrs r

def RetOk (w : World) (I : Nat → Nat → Prop) (v : AV U.τ) (u : Value) : Prop :=
  match v with
  | .one c => PC P U w I c u
  | .agg cs => ValOk P U w I true cs u
  | .tup vs => ∃ us, u = .tuple us ∧ us.size = vs.length ∧ ∀ (j : Nat) a cs, vs[j]? = some (a, cs) → ∃ x, us[j]? = some x ∧ ValOk P U w I a cs x
  | _ => False

/-- What a call with these arguments, told without addresses, leaves and hands back. -/
def CallOk (f : Nat) (as : List (Arg U.τ)) (out : Out U.τ) : Prop :=
  (∀ (vs : Array Value) (w : World), (callFunc f vs).run P w = .ok (.enter f vs) w) ∧
  ∀ (G0 : Ghost) (w : World) (vs : List Value), ArgsRel P U w G0.I G0.who G0.loc as vs 0 → (∀ b o, G0.I b o → (w.cell? ⟨b, o, none⟩).isSome = true) → (∀ b L, G0.who b = some L → b < w.heap.size) →
    Calls P f vs.toArray w fun e w' => ∃ u G', e = .returned u ∧ Step G0 w G' w' ∧ RetOk P U w' G'.I out.ret u ∧
      out.boxes.length = (ptrs as).length ∧
      (∀ (j : Nat) cs, out.boxes[j]? = some cs → BoxRel P U w' G'.I G'.who (vbase + j) (G0.loc (vbase + j)) cs) ∧
      (∀ (j : Nat) cs, (ptrs as)[j]? = some cs → (∃ l, out.boxes[j]? = some l ∧ l.length = cs.length) ∧ ∀ o, (o < (G0.loc (vbase + j)).2 ∨ (G0.loc (vbase + j)).2 + cs.length ≤ o) → w'.cell? ⟨(G0.loc (vbase + j)).1, o, none⟩ = w.cell? ⟨(G0.loc (vbase + j)).1, o, none⟩) ∧
      (∀ b o, G'.I b o → (w'.cell? ⟨b, o, none⟩).isSome = true) ∧ (∀ b L, G'.who b = some L → b < w'.heap.size)

def SoundTab (Φ : Tab U) : Prop := ∀ (R : Type) f as k (r : R), Φ R f as k = some r → ∃ out, CallOk P U f as out ∧ k out = some r

inductive Does (σ : Slots U) : Tree U → List Nat → List (Nat × AV U.τ) → Prop
  | done (ws : List (Nat × AV U.τ)) : Does σ (.done ws) [] ws
  | read (s : Nat) (f : AV U.τ → Tree U) (rd : List Nat) (ws : List (Nat × AV U.τ)) : Does σ (f (σ s)) rd ws → Does σ (.read s f) (s :: rd) ws
  | split (s : Nat) (f : Bool → Tree U) (b : Bool) (rd : List Nat) (ws : List (Nat × AV U.τ)) : σ s = .one (.bool b) → Does σ (f b) rd ws → Does σ (.split s f) (s :: rd) ws
  | iteT (p : Prop) (d : Decidable p) (a b : Tree U) (rd : List Nat) (ws : List (Nat × AV U.τ)) : p → Does σ a rd ws → Does σ (.ite p d a b) rd ws
  | iteF (p : Prop) (d : Decidable p) (a b : Tree U) (rd : List Nat) (ws : List (Nat × AV U.τ)) : ¬ p → Does σ b rd ws → Does σ (.ite p d a b) rd ws
  | opt {α : Type} (x : α) (f : α → Tree U) (rd : List Nat) (ws : List (Nat × AV U.τ)) : Does σ (f x) rd ws → Does σ (.opt (some x) f) rd ws
  | call (f : Nat) (as : List (Arg U.τ)) (g : Out U.τ → Tree U) (out : Out U.τ) (rd : List Nat) (ws : List (Nat × AV U.τ)) : CallOk P U f as out → Does σ (g out) rd ws → Does σ (.call f as g) rd ws
end

section
variable {P : Program} {U : Univ}

theorem Does.same {σ σ' : Slots U} {t : Tree U} {rd : List Nat} {ws : List (Nat × AV U.τ)} (h : Does P U σ t rd ws) (hs : ∀ s ∈ rd, σ' s = σ s) : Does P U σ' t rd ws := by
  induction h with
  | done ws => exact .done ws
  | read s f rd ws h ih =>
    refine .read s f rd ws ?_
    rw [hs s (List.mem_cons_self ..)]
    exact ih fun x hx => hs x (List.mem_cons_of_mem _ hx)
  | split s f b rd ws h1 h ih => exact .split s f b rd ws (by rw [hs s (List.mem_cons_self ..)]; exact h1) (ih fun x hx => hs x (List.mem_cons_of_mem _ hx))
  | iteT p d a b rd ws hp h ih => exact .iteT p d a b rd ws hp (ih hs)
  | iteF p d a b rd ws hp h ih => exact .iteF p d a b rd ws hp (ih hs)
  | opt x f rd ws h ih => exact .opt x f rd ws (ih hs)
  | call f as g out rd ws hc h ih => exact .call f as g out rd ws hc (ih hs)

theorem evT_inv {Res : Type} {Φ : Tab U} (hΦ : SoundTab P U Φ) : ∀ (t : Tree U) (st : St U) (log : List Nat) (k : St U → List Nat → List (Nat × AV U.τ) → Option Res) (out : Res),
    evT Φ t st log k = some out → ∃ st' rd ws, st'.get = st.get ∧ Does P U st.get t rd ws ∧ k st' (rd.reverse ++ log) ws = some out := by
  intro t
  induction t with
  | fail => intro st log k out h; simp [evT] at h
  | done ws => intro st log k out h; exact ⟨st, [], ws, rfl, .done ws, h⟩
  | read s f ih =>
    intro st log k out h
    obtain ⟨st', rd, ws, h1, h2, h3⟩ := ih _ _ _ _ _ h
    exact ⟨st', s :: rd, ws, h1, .read s f rd ws h2, by simpa using h3⟩
  | split s f ih =>
    intro st log k out h
    simp only [evT] at h
    cases hs : st.get s with
    | one c =>
      cases c with
      | bool b =>
        rw [hs] at h
        have hg : ∀ b', b = b' → (st.put s (.one (.bool b'))).get = st.get := by
          intro b' hb; subst hb
          rw [get_put]; funext t
          by_cases ht : t = s
          · subst ht; simp [upd, hs]
          · simp [upd, ht]
        cases b with
        | true =>
          simp only [if_true] at h
          obtain ⟨st', rd, ws, h1, h2, h3⟩ := ih _ _ _ _ _ h
          rw [hg true rfl] at h1 h2
          exact ⟨st', s :: rd, ws, h1, .split s f true rd ws hs h2, by simpa using h3⟩
        | false =>
          simp only [Bool.false_eq_true, if_false] at h
          obtain ⟨st', rd, ws, h1, h2, h3⟩ := ih _ _ _ _ _ h
          rw [hg false rfl] at h1 h2
          exact ⟨st', s :: rd, ws, h1, .split s f false rd ws hs h2, by simpa using h3⟩
      | _ => rw [hs] at h; simp at h
    | _ => rw [hs] at h; simp at h
  | ite p d a b iha ihb =>
    intro st log k out h
    simp only [evT] at h
    by_cases hp : p
    · rw [if_pos hp] at h
      obtain ⟨st', rd, ws, h1, h2, h3⟩ := iha _ _ _ _ h
      exact ⟨st', rd, ws, h1, .iteT p d a b rd ws hp h2, h3⟩
    · rw [if_neg hp] at h
      obtain ⟨st', rd, ws, h1, h2, h3⟩ := ihb _ _ _ _ h
      exact ⟨st', rd, ws, h1, .iteF p d a b rd ws hp h2, h3⟩
  | opt o f ih =>
    intro st log k out h
    simp only [evT] at h
    cases o with
    | none => simp at h
    | some x =>
      obtain ⟨st', rd, ws, h1, h2, h3⟩ := ih _ _ _ _ _ h
      exact ⟨st', rd, ws, h1, .opt x f rd ws h2, h3⟩
  | call f as g ih =>
    intro st log k out h
    simp only [evT] at h
    obtain ⟨o, ho, hk⟩ := hΦ _ _ _ _ _ h
    obtain ⟨st', rd, ws, h1, h2, h3⟩ := ih _ _ _ _ _ hk
    exact ⟨st', rd, ws, h1, .call f as g o rd ws ho h2, h3⟩

theorem Does.of_fail {σ : Slots U} {rd : List Nat} {ws : List (Nat × AV U.τ)} (h : Does P U σ .fail rd ws) : False := by cases h

theorem Does.of_done {σ : Slots U} {rd : List Nat} {ws vs : List (Nat × AV U.τ)} (h : Does P U σ (.done vs) rd ws) : ws = vs := by cases h; rfl

theorem Does.of_read {σ : Slots U} {s : Nat} {f : AV U.τ → Tree U} {rd : List Nat} {ws : List (Nat × AV U.τ)} (h : Does P U σ (.read s f) rd ws) : ∃ rd', Does P U σ (f (σ s)) rd' ws := by
  cases h with | read _ _ rd' _ h => exact ⟨rd', h⟩

theorem Does.of_split {σ : Slots U} {s : Nat} {f : Bool → Tree U} {rd : List Nat} {ws : List (Nat × AV U.τ)} (h : Does P U σ (.split s f) rd ws) : ∃ b rd', σ s = .one (.bool b) ∧ Does P U σ (f b) rd' ws := by
  cases h with | split _ _ b rd' _ h1 h => exact ⟨b, rd', h1, h⟩

theorem Does.of_guard {σ : Slots U} {p : Prop} {d : Decidable p} {t : Tree U} {rd : List Nat} {ws : List (Nat × AV U.τ)} (h : Does P U σ (@Tree.guard U p d t) rd ws) : p ∧ Does P U σ t rd ws := by
  cases h with
  | iteT _ _ _ _ _ _ hp h => exact ⟨hp, h⟩
  | iteF _ _ _ _ _ _ hp h => exact h.of_fail.elim

theorem Does.of_ite {σ : Slots U} {p : Prop} {d : Decidable p} {t u : Tree U} {rd : List Nat} {ws : List (Nat × AV U.τ)} (h : Does P U σ (.ite p d t u) rd ws) : (p ∧ Does P U σ t rd ws) ∨ (¬ p ∧ Does P U σ u rd ws) := by
  cases h with
  | iteT _ _ _ _ _ _ hp h => exact .inl ⟨hp, h⟩
  | iteF _ _ _ _ _ _ hp h => exact .inr ⟨hp, h⟩

theorem Does.of_opt {σ : Slots U} {α : Type} {o : Option α} {f : α → Tree U} {rd : List Nat} {ws : List (Nat × AV U.τ)} (h : Does P U σ (.opt o f) rd ws) : ∃ x, o = some x ∧ Does P U σ (f x) rd ws := by
  cases h with | opt x _ _ _ h => exact ⟨x, rfl, h⟩

theorem Does.of_call {σ : Slots U} {f : Nat} {as : List (Arg U.τ)} {g : Out U.τ → Tree U} {rd : List Nat} {ws : List (Nat × AV U.τ)} (h : Does P U σ (.call f as g) rd ws) : ∃ out, CallOk P U f as out ∧ Does P U σ (g out) rd ws := by
  cases h with | call _ _ _ out _ _ h1 h => exact ⟨out, h1, h⟩

/-- 'cond' with failure on one side. -/
theorem Does.of_cond {σ : Slots U} {b : Bool} {t : Tree U} {rd : List Nat} {ws : List (Nat × AV U.τ)} (h : Does P U σ (cond b t .fail) rd ws) : b = true ∧ Does P U σ t rd ws := by
  cases b with
  | true => exact ⟨rfl, h⟩
  | false => exact h.of_fail.elim

theorem Does.of_cond' {σ : Slots U} {b : Bool} {t : Tree U} {rd : List Nat} {ws : List (Nat × AV U.τ)} (h : Does P U σ (cond b .fail t) rd ws) : b = false ∧ Does P U σ t rd ws := by
  cases b with
  | false => exact ⟨rfl, h⟩
  | true => exact h.of_fail.elim

/-- What an operand's value stands for; t: the slot that it was read of. -/
structure Opd (G : Ghost) (σ : Slots U) (w : World) (x : Operand) (v : AV U.τ) (u : Value) : Prop where
  own : v.owner = false
  ok : ∃ t, SlotOk P U G σ w t v u ∧ (opTmp x = some t ∧ t < vbase ∧ v = asVal t (σ t) ∨ opTmp x = none ∧ ∀ t', SlotOk P U G σ w t' v u)

theorem constCV_ok {w : World} {I : Nat → Nat → Prop} {ty : TypeId} {v : Value} (h : one1B v = true) : PC P U w I (constCV P ty v) v := by
  have h1 : one1 v := by cases v <;> first | trivial | (simp [one1B] at h)
  unfold constCV
  split
  · exact .bool _
  · rename_i k n
    cases hb : (decide (k.min ≤ n) && decide (n ≤ k.max)) with
    | true => simp at hb; exact .int k n hb
    | false => exact .any _ h1
  · rename_i s
    cases hb : Nat.ble s.data.toList.length 9223372036854775807 with
    | true =>
      have := Nat.le_of_ble_eq_true hb
      have hs : (Value.string s) = .string ⟨⟨s.data.toList⟩⟩ := rfl
      rw [hs]
      exact .str _ (by unfold maxLenI; omega)
    | false => exact .any _ h1
  · split
    · split
      · exact .nil _ _ .tight rfl (by simp)
      · exact .nil _ _ .tight rfl (by simp)
    · exact .any _ h1
  · exact .any _ h1

theorem zipConst_ok {w : World} {I : Nat → Nat → Prop} : ∀ (vs : List Value) (ts : List TypeId), vs.all one1B = true → (zipConst (U := U) P ts vs).length = vs.length ∧ ∀ (j : Nat) c, (zipConst (U := U) P ts vs)[j]? = some c → ∃ v, vs[j]? = some v ∧ PC P U w I c v
  | [], ts, _ => by cases ts <;> exact ⟨rfl, fun j c h => by simp [zipConst] at h⟩
  | v :: vs, ts, h => by
    have hv : one1B v = true := by simp at h; exact h.1
    have hvs : vs.all one1B = true := by simp at h ⊢; exact h.2
    cases ts with
    | nil =>
      obtain ⟨h1, h2⟩ := zipConst_ok (w := w) (I := I) vs [] hvs
      refine ⟨by simp [zipConst, h1], fun j c hj => ?_⟩
      cases j with
      | zero =>
        simp [zipConst] at hj; subst hj
        exact ⟨v, rfl, .any v (by cases v <;> first | trivial | (simp [one1B] at hv))⟩
      | succ j => simp [zipConst] at hj; simpa using h2 j c hj
    | cons t ts =>
      obtain ⟨h1, h2⟩ := zipConst_ok (w := w) (I := I) vs ts hvs
      refine ⟨by simp [zipConst, h1], fun j c hj => ?_⟩
      cases j with
      | zero =>
        simp [zipConst] at hj; subst hj
        exact ⟨v, rfl, constCV_ok hv⟩
      | succ j => simp [zipConst] at hj; simpa using h2 j c hj

theorem SlotOk.of_pc {G : Ghost} {σ : Slots U} {w : World} {t : Nat} {c : CV U.τ} {u : Value} (h : PC P U w G.I c u) : SlotOk P U G σ w t (.one c) u := by
  cases c with
  | any => trivial
  | ref s off => cases h <;> simp [cont] at *
  | sref s => cases h <;> simp [cont] at *
  | eref s i => cases h <;> simp [cont] at *
  | bool b => exact .inl h
  | int k n => exact .inl h
  | str s => exact .inl h
  | fn f => exact .inl h
  | sl e xs f => exact .inl h
  | bs e s f => exact .inl h

variable {N : Nat} {L0 : Nat → Nat} {G0 : Ghost} {w0 : World} {G : Ghost} {σ : Slots U} {a : Act} {w : World}

theorem R.opd (r : R P U N L0 G0 w0 G σ a w) {ty : TypeId} {x : Operand} {k : AV U.τ → Tree U} {rd : List Nat} {ws : List (Nat × AV U.τ)} (h : Does P U σ (rdO P ty x k) rd ws) :
    ∃ v rd', Opd (P := P) G σ w x v (a.eval x) ∧ Does P U σ (k v) rd' ws := by
  cases x with
  | tmp t =>
    obtain ⟨hb, h⟩ := Does.of_cond' (b := Nat.ble vbase t) h
    obtain ⟨rd', h⟩ := h.of_read
    have ht : t < vbase := by
      rcases Nat.lt_or_ge t vbase with h1 | h1
      · exact h1
      · rw [Nat.ble_eq_true_of_le h1] at hb; cases hb
    refine ⟨_, rd', ⟨?_, t, ?_, .inl ⟨rfl, ht, rfl⟩⟩, h⟩
    · cases hσ : σ t <;> rfl
    · have hs := r.slots t
      cases hσ : σ t with
      | box cs =>
        rw [hσ] at hs
        exact ⟨⟨cs, hσ⟩, hs.1 ht⟩
      | bblk e y q =>
        rw [hσ] at hs
        obtain ⟨cap, h1, h2, h3⟩ := hs.1 ht
        exact ⟨e, y, q, cap, hσ, h1, h2, h3⟩
      | _ => rw [hσ] at hs; exact hs
  | const v =>
    have one : ∀ v : Value, (∀ cs, v ≠ .agg cs) → Does P U σ (k (.one (constCV P ty v))) rd ws → ∃ v' rd', Opd (P := P) G σ w (.const v) v' (a.eval (.const v)) ∧ Does P U σ (k v') rd' ws := by
      intro v hv h
      refine ⟨_, rd, ⟨rfl, 0, ?_, .inr ⟨rfl, fun t' => ?_⟩⟩, h⟩
      all_goals
        cases hb : one1B v with
        | true => exact SlotOk.of_pc (constCV_ok hb)
        | false =>
          cases v <;> first | (simp [one1B] at hb; done) | skip
          · exact absurd rfl (hv _)
          · trivial
    cases v with
    | agg cs =>
      obtain ⟨hb, h⟩ := Does.of_cond h
      refine ⟨_, rd, ⟨rfl, 0, ?_, .inr ⟨rfl, fun t' => ?_⟩⟩, h⟩
      all_goals
        obtain ⟨h1, h2⟩ := zipConst_ok (P := P) (U := U) (w := w) (I := G.I) cs.toList (flat P 6 ty) hb
        refine ⟨cs, rfl, by rw [h1]; simp, fun j c hj => ?_⟩
        obtain ⟨v, a1, a2⟩ := h2 j c hj
        exact ⟨v, by simpa using a1, a2⟩
    | _ => exact one _ (fun cs hc => by cases hc) h
  | global g => exact h.of_fail.elim
  | func f => exact ⟨_, rd, ⟨rfl, 0, SlotOk.of_pc (.fn f), .inr ⟨rfl, fun _ => SlotOk.of_pc (.fn f)⟩⟩, h⟩

theorem R.opd1 (r : R P U N L0 G0 w0 G σ a w) {ty : TypeId} {x : Operand} {k : CV U.τ → Tree U} {rd : List Nat} {ws : List (Nat × AV U.τ)} (h : Does P U σ (rd1 P ty x k) rd ws) :
    ∃ c rd', Opd (P := P) G σ w x (.one c) (a.eval x) ∧ Does P U σ (k c) rd' ws := by
  obtain ⟨v, rd', h1, h2⟩ := r.opd h
  cases v with
  | one c => exact ⟨c, rd', h1, h2⟩
  | _ => exact h2.of_fail.elim

theorem Opd.int {x : Operand} {k : IntKind} {n : Int} {u : Value} (h : Opd (P := P) G σ w x (.one (.int k n)) u) : u = .int k n ∧ k.has n := by
  obtain ⟨t, h1, _⟩ := h.ok
  rcases h1 with h1 | ⟨e, css, h2, _⟩
  · cases h1 with
    | int _ _ hh => exact ⟨rfl, hh⟩
    | nil _ _ _ hc => simp [cont] at hc
    | emp _ _ _ _ hc => simp [cont] at hc
    | row _ _ _ _ _ _ _ hc => simp [cont] at hc
  · simp [cont] at h2

theorem Opd.bool {x : Operand} {b : Bool} {u : Value} (h : Opd (P := P) G σ w x (.one (.bool b)) u) : u = .bool b := by
  obtain ⟨t, h1, _⟩ := h.ok
  rcases h1 with h1 | ⟨e, css, h2, _⟩
  · cases h1 with
    | bool _ => rfl
    | nil _ _ _ hc => simp [cont] at hc
    | emp _ _ _ _ hc => simp [cont] at hc
    | row _ _ _ _ _ _ _ hc => simp [cont] at hc
  · simp [cont] at h2

theorem Opd.str {x : Operand} {s : List UInt8} {u : Value} (h : Opd (P := P) G σ w x (.one (.str s)) u) : u = .string ⟨⟨s⟩⟩ ∧ (s.length : Int) ≤ maxLenI := by
  obtain ⟨t, h1, _⟩ := h.ok
  rcases h1 with h1 | ⟨e, css, h2, _⟩
  · cases h1 with
    | str _ hh => exact ⟨rfl, hh⟩
    | nil _ _ _ hc => simp [cont] at hc
    | emp _ _ _ _ hc => simp [cont] at hc
    | row _ _ _ _ _ _ _ hc => simp [cont] at hc
  · simp [cont] at h2

theorem Opd.fn {x : Operand} {f : Nat} {u : Value} (h : Opd (P := P) G σ w x (.one (.fn f)) u) : u = .func (.func f) #[] #[] := by
  obtain ⟨t, h1, _⟩ := h.ok
  rcases h1 with h1 | ⟨e, css, h2, _⟩
  · cases h1 with
    | fn _ => rfl
    | nil _ _ _ hc => simp [cont] at hc
    | emp _ _ _ _ hc => simp [cont] at hc
    | row _ _ _ _ _ _ _ hc => simp [cont] at hc
  · simp [cont] at h2

theorem Opd.ref {x : Operand} {s off : Nat} {u : Value} (h : Opd (P := P) G σ w x (.one (.ref s off)) u) : (∃ cs, σ s = .box cs) ∧ u = .pointer (some ⟨(G.loc s).1, (G.loc s).2 + off, none⟩) := by
  obtain ⟨t, h1, _⟩ := h.ok
  exact h1

theorem Opd.sref {x : Operand} {s : Nat} {u : Value} (h : Opd (P := P) G σ w x (.one (.sref s)) u) : ∃ e y q cap, σ s = .bblk e y q ∧ u = .slice (some ⟨(G.loc s).1, (G.loc s).2, none⟩) y.length cap ∧ y.length ≤ cap ∧ (q = true → cap = y.length) := by
  obtain ⟨t, h1, _⟩ := h.ok
  exact h1

theorem Opd.eref {x : Operand} {s i : Nat} {u : Value} (h : Opd (P := P) G σ w x (.one (.eref s i)) u) : (∃ e y q, σ s = .bblk e y q) ∧ u = .pointer (some ⟨(G.loc s).1, (G.loc s).2 + i, none⟩) := by
  obtain ⟨t, h1, _⟩ := h.ok
  exact h1

theorem Opd.im {x : Operand} {cs : List (CV U.τ)} {u : Value} (h : Opd (P := P) G σ w x (.im cs) u) : ∃ b off, u = .pointer (some ⟨b, off, none⟩) ∧ ∀ (j : Nat) c, cs[j]? = some c → G.I b (off + j) ∧ ∃ y, w.cell? ⟨b, off + j, none⟩ = some y ∧ PC P U w G.I c y := by
  obtain ⟨t, h1, _⟩ := h.ok
  exact h1

theorem Opd.agg {x : Operand} {cs : List (CV U.τ)} {u : Value} (h : Opd (P := P) G σ w x (.agg cs) u) : ValOk P U w G.I true cs u := by
  obtain ⟨t, h1, _⟩ := h.ok
  exact h1

theorem cont_plain {c : CV U.τ} {e : Nat} {css : List (List (CV U.τ))} (h : cont c = some (e, css, .app)) : cont c.plain = some (e, css, .ro) := by
  cases c with
  | sl e xs f => simp only [cont, Option.some.injEq, Prod.mk.injEq] at h; obtain ⟨rfl, rfl, rfl⟩ := h; rfl
  | bs e s f => simp only [cont, Option.some.injEq, Prod.mk.injEq] at h; obtain ⟨rfl, rfl, rfl⟩ := h; rfl
  | _ => simp [cont] at h

theorem AppOk.plain {I : Nat → Nat → Prop} {who : Nat → Option (Nat × Option Nat)} {L : Nat × Option Nat} {c : CV U.τ} {u : Value} (h : AppOk P U w I who L c u) : PC P U w I c.plain u := by
  obtain ⟨e, css, h1, h2, h3⟩ := h
  rcases h3 with ⟨rfl, rfl⟩ | ⟨b, off, cap, rfl, h4, h5, h6⟩
  · exact .nil _ e .ro (cont_plain h1) (by simp)
  · exact PC.of_cont (cont_plain h1) (by simp) h4 (by simp) h2 h5

theorem PC.plain {I : Nat → Nat → Prop} {c : CV U.τ} {u : Value} (h : PC P U w I c u) : PC P U w I c.plain u := by
  cases c with
  | sl e xs f =>
    cases f with
    | app => exact absurd rfl (h.slice rfl).1
    | _ => exact h
  | bs e xs f =>
    cases f with
    | app => exact absurd rfl (h.slice rfl).1
    | _ => exact h
  | _ => exact h

theorem CellOk.plain {I : Nat → Nat → Prop} {who : Nat → Option (Nat × Option Nat)} {L : Nat × Option Nat} {c : CV U.τ} {u : Value} (h : CellOk P U w I who L c u) : PC P U w I c.plain u := by
  rcases h with h | h
  · exact h.plain
  · exact h.plain

/-- A single value as plain data. -/
theorem SlotOk.plainOne {t : Nat} {c : CV U.τ} {u : Value} (h : SlotOk P U G σ w t (.one c) u) (h1 : c ≠ .any) (h2 : ∀ s o, c ≠ .ref s o) (h3 : ∀ s, c ≠ .sref s) (h4 : ∀ s i, c ≠ .eref s i) : PC P U w G.I c.plain u := by
  cases c with
  | any => exact absurd rfl h1
  | ref s o => exact absurd rfl (h2 s o)
  | sref s => exact absurd rfl (h3 s)
  | eref s i => exact absurd rfl (h4 s i)
  | bool b => exact CellOk.plain h
  | int k n => exact CellOk.plain h
  | str s => exact CellOk.plain h
  | fn f => exact CellOk.plain h
  | sl e xs f => exact CellOk.plain h
  | bs e s f => exact CellOk.plain h

theorem cellsOf_ok {t : Nat} {v : AV U.τ} {u : Value} {ag : Bool} {cs : List (CV U.τ)} (h : SlotOk P U G σ w t v u) (hc : cellsOf v = some (ag, cs)) : ValOk P U w G.I ag cs u := by
  cases v with
  | one c =>
    cases c with
    | any => simp [cellsOf] at hc
    | ref s o => simp [cellsOf] at hc
    | sref s => simp [cellsOf] at hc
    | eref s i => simp [cellsOf] at hc
    | _ =>
      simp only [cellsOf, Option.some.injEq, Prod.mk.injEq] at hc
      obtain ⟨rfl, rfl⟩ := hc
      exact ⟨_, rfl, CellOk.plain h⟩
  | agg cs' =>
    simp only [cellsOf, Option.some.injEq, Prod.mk.injEq] at hc
    obtain ⟨rfl, rfl⟩ := hc
    exact h
  | _ => simp [cellsOf] at hc

theorem R.cells (r : R P U N L0 G0 w0 G σ a w) {ty : TypeId} {x : Operand} {k : Bool → List (CV U.τ) → Tree U} {rd : List Nat} {ws : List (Nat × AV U.τ)} (h : Does P U σ (rdCells P ty x k) rd ws) :
    ∃ ag cs rd', ValOk P U w G.I ag cs (a.eval x) ∧ Does P U σ (k ag cs) rd' ws := by
  obtain ⟨v, rd', h1, h2⟩ := r.opd h
  cases hc : cellsOf v with
  | none => rw [hc] at h2; exact h2.of_fail.elim
  | some p =>
    obtain ⟨ag, cs⟩ := p
    rw [hc] at h2
    obtain ⟨t, h3, _⟩ := h1.ok
    exact ⟨ag, cs, rd', cellsOf_ok h3 hc, h2⟩

theorem R.int (r : R P U N L0 G0 w0 G σ a w) {ty : TypeId} {x : Operand} {k : IntKind → Int → Tree U} {rd : List Nat} {ws : List (Nat × AV U.τ)} (h : Does P U σ (rdInt P ty x k) rd ws) :
    ∃ i n rd', a.eval x = .int i n ∧ i.has n ∧ Does P U σ (k i n) rd' ws := by
  obtain ⟨c, rd', h1, h2⟩ := r.opd1 h
  cases c with
  | int i n => exact ⟨i, n, rd', h1.int.1, h1.int.2, h2⟩
  | _ => exact h2.of_fail.elim

/-- What a write of one slot is. -/
theorem Does.of_wr {dst : Option Nat} {v : AV U.τ} {more : List (Nat × AV U.τ)} {rd : List Nat} {ws : List (Nat × AV U.τ)} (h : Does P U σ (wr dst v more) rd ws) :
    (dst = none ∧ ws = more) ∨ ∃ d, dst = some d ∧ ws = (d, v) :: more ∧ (σ d).owner = false := by
  cases dst with
  | none => exact .inl ⟨rfl, h.of_done⟩
  | some d =>
    obtain ⟨rd', h⟩ := h.of_read
    obtain ⟨hb, h⟩ := Does.of_cond' h
    exact .inr ⟨d, rfl, h.of_done, hb⟩

theorem getD_put {t d : Nat} {u : Value} (hd : d < a.tmps.size) : (a.put (some d) u).tmps.getD t undef = if t = d then u else a.tmps.getD t undef := by
  simp only [Act.put, Array.getD_eq_getD_getElem?, Array.getElem?_setIfInBounds]
  by_cases h : d = t
  · subst h; simp [hd]
  · simp [h, Ne.symm h]

/-- A value that does not hang on its slot, into a slot that owns nothing. -/
theorem R.put (r : R P U N L0 G0 w0 G σ a w) {d : Nat} {v : AV U.τ} {u : Value} (hd : d < N) (ho : (σ d).owner = false) (hv : v.owner = false) (h : ∀ t, SlotOk P U G σ w t v u) :
    R P U N L0 G0 w0 G (upd σ d v) (a.put (some d) u) w := by
  have hn : ∀ s, (σ s).owner = true → s ≠ d := fun s hs he => by subst he; rw [ho] at hs; cases hs
  have x : Ext (fun _ => False) G G σ (upd σ d v) w w :=
    ⟨fun _ _ h => ⟨h, rfl⟩, fun _ _ h _ => ⟨h, rfl, fun _ h => h⟩, fun _ _ => rfl, fun s cs hs => ⟨cs, by simp [upd, hn s (by rw [hs]; rfl), hs]⟩,
      fun s e y q hs => ⟨e, y, by simp [upd, hn s (by rw [hs]; rfl), hs], rfl⟩⟩
  refine r.go x (.refl G w) rfl (by simp [Act.put]) (fun _ _ => rfl) (fun b o h => .inl h) (fun b L h => .inl ⟨L, h⟩) (fun t cs' ht hσ => ?_) (fun t => ?_)
  · have : t ≠ d := fun he => by have := r.small; omega
    simp only [upd, this, if_false] at hσ
    exact ⟨cs', hσ, rfl, fun _ _ => rfl⟩
  · rw [getD_put (Nat.lt_of_lt_of_le hd r.size)]
    by_cases ht : t = d
    · subst ht
      right
      simp only [upd, if_true]
      exact (h t).mono x (fun h => h) (fun _ h => h) (fun hh => by rw [hv] at hh; cases hh)
    · left
      simp [upd, ht]

end
end Go.VI
