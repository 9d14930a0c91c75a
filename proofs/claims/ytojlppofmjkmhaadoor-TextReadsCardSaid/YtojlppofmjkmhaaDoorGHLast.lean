import Derived.OrdersHeld
import Derived.Deep.RegionHeld
set_option linter.unusedVariables false
namespace Go.VI
open Go
section
variable {P : Program} {md : Region.Mode} {ops : Array Oper} {Q : Exit → Act → World → Prop} {S : World → Prop} {L : Nat}
def wpBut (P : Program) (md : Region.Mode) (ops : Array Oper) (Q : Exit → Act → World → Prop) (S : World → Prop) (L : Nat) : Nat → Array Bool → Act → World → Prop
  | 0, li, a, w => Region.ready md ops li = [] ∧ Q .normal a w
  | k + 1, li, a, w => (Region.ready md ops li = [] → Q .normal a w) ∧ ∀ i ∈ Region.ready md ops li, wpOp P ops Q i (fun b u => (i ≠ L → S u) ∧ wpBut P md ops Q S L k (li.setIfInBounds i true) b u) a w
theorem wpBut.any : ∀ (k : Nat) (li : Array Bool) (a : Act) (w : World), wpBut P md ops Q S L k li a w → wpAny P md ops Q k li a w
  | 0, _, _, _, h => h
  | k + 1, _, _, _, h => ⟨h.1, fun i hi => wpOp_mono (fun b u hh => (hh.2).any) (h.2 i hi)⟩
theorem wpBut.first {i : Nat} {o : Oper} {v : Value} (ho : ops[i]? = some o) (hns : Region.noSelect ops = true) (hQ : ∀ c a w, Q (.panic c) (a.put o.dst v) w → Q (.panic c) a w)
    {oL : Oper} (hoL : ops[L]? = some oL) (hwait : (oL.after.any fun e => Region.binds md e && Nat.beq e.on i) = true) :
    ∀ (k : Nat) (li : Array Bool) (a : Act) (w : World), (∀ j oj, ops[j]? = some oj → j ≠ i → li.getD j true = false → (∀ e ∈ oj.after, Region.binds md e = true → e.on ≠ i) → o.apart ops oj = true) →
      i ∈ Region.ready md ops li → i ≠ L → YieldsIf P ops S o v a → S w → wpBut P md ops Q S L k (li.setIfInBounds i true) (a.put o.dst v) w → wpBut P md ops Q S L (k + 1) li a w := by
  have hsel := Region.noSelect_spec hns
  intro k
  induction k with
  | zero =>
    intro li a w _ hr _ hy hS H
    refine ⟨fun e => by rw [e] at hr; exact absurd hr (by simp), fun j hj => ?_⟩
    rcases Nat.decEq j i with hji | hji
    · have := ready_mono hj hji
      rw [H.1] at this
      exact absurd this (by simp)
    · rw [hji]; exact hy.wpOp ho hS ⟨fun _ => hS, H⟩
  | succ k ih =>
    intro li a w hfree hr hiL hy hS H
    refine ⟨fun e => by rw [e] at hr; exact absurd hr (by simp), fun j hj => ?_⟩
    rcases Nat.decEq j i with hji | hji
    · have hstep := H.2 j (ready_mono hj hji)
      obtain ⟨hjun, oj, hoj, hall⟩ := mem_ready.1 hj
      have hno : ∀ e ∈ oj.after, Region.binds md e = true → e.on ≠ i := fun e he hb hei => by
        have k1 := hall e he hb
        have k0 := (mem_ready.1 hr).1
        rw [hei] at k1
        by_cases hlt : i < li.size
        · simp only [Array.getD_eq_getD_getElem?, Array.getElem?_eq_getElem hlt, Option.getD_some] at k0 k1
          rw [k0] at k1; exact absurd k1 (by simp)
        · simp [Array.getElem?_eq_none (Nat.le_of_not_lt hlt)] at k1
      have hjL : j ≠ L := fun e => by
        rw [e, hoL] at hoj
        have hoj := Option.some.inj hoj
        rw [Array.any_eq_true'] at hwait
        obtain ⟨x, hx, hb⟩ := hwait
        rw [Bool.and_eq_true] at hb
        rw [hoj] at hx
        exact hno x hx hb.1 (Nat.eq_of_beq_eq_true hb.2)
      have h2 := wpOp_putIf hoj (hfree j oj hoj hji hjun hno) (fun cs b => hsel i o cs b ho) (fun cs b => hsel j oj cs b hoj) hQ hy hstep
      refine wpOp_mono (fun b u hh => ⟨hh.2.1, ih (li.setIfInBounds j true) b u (fun m om hm hmi hun hn => ?_) (ready_mono hr (Ne.symm hji)) hiL hh.1 (hh.2.1 hjL) ?_⟩) h2
      · refine hfree m om hm hmi ?_ hn
        rcases Nat.decEq j m with hjm | hjm
        · rw [getD_set_ne true hjm] at hun; exact hun
        · rw [← hjm]; exact hjun
      · rw [Array.setIfInBounds_comm _ _ hji]
        exact hh.2.2
    · rw [hji]; exact hy.wpOp ho hS ⟨fun _ => hS, H⟩
theorem wpBut.take {i : Nat} {o : Oper} {v : Value} {k : Nat} {li : Array Bool} {a : Act} {w : World} (oL : Oper) (ho : ops[i]? = some o) (hs : Region.noSelect ops = true) (hoL : ops[L]? = some oL)
    (hwait : (oL.after.any fun e => Region.binds md e && Nat.beq e.on i) = true) (hf : Region.free md ops li i = true) (hr : (Region.ready md ops li).contains i = true) (hiL : i ≠ L)
    (hQ : ∀ c a w, Q (.panic c) (a.put o.dst v) w → Q (.panic c) a w) (hy : YieldsIf P ops S o v a) (hS : S w)
    (h : wpBut P md ops Q S L k (li.setIfInBounds i true) (a.put o.dst v) w) : wpBut P md ops Q S L (k + 1) li a w :=
  wpBut.first ho hs hQ hoL hwait k li a w (Region.free_spec ho hf) (by simpa using hr) hiL hy hS h
theorem wpBut.one {i : Nat} {o : Oper} {k : Nat} {li : Array Bool} {a : Act} {w : World} (hr : Region.ready md ops li = [i]) (ho : ops[i]? = some o)
    (h : ∀ K' : Act → World → Prop, Shut (∀ b u, (i ≠ L → S u) → wpBut P md ops Q S L k (li.setIfInBounds i true) b u → K' b u) → if Region.wanted o (yielded ops a.tmps) = true then Oper.wp P o a w K' Q else K' (a.put o.dst undef) w) :
    wpBut P md ops Q S L (k + 1) li a w := by
  refine ⟨fun e => by rw [hr] at e; exact absurd e (by simp), fun j hj => ?_⟩
  rw [hr, List.mem_singleton] at hj
  subst hj
  exact wpOp_step ho (fun K' hK => h K' (fun b u hS hW => hK b u ⟨hS, hW⟩))
theorem wpBut.done {li : Array Bool} {a : Act} {w : World} (hr : Region.ready md ops li = []) (h : Q .normal a w) : ∀ k, wpBut P md ops Q S L k li a w
  | 0 => ⟨hr, h⟩
  | _ + 1 => ⟨fun _ => h, by rw [hr]; simp⟩
theorem wpBut.start {id : Nat} {a : Act} {w : World} (hm : P.follows .mixedOrders = true) (h : wpBut P .any ops Q S L ops.size (Array.replicate ops.size false) a w.drew) : (Code.region id ops true).wp P Q a w :=
  wp_region_any hm h.any
end
end Go.VI
