import Derived.Test.YtbjjekbhopgonaaGreatG2FQ15
import Derived.Test.YtbjjekbhopgonaaGreatG2M0
import Derived.Test.YtbjjekbhopgonaaGreatG2FQ11
import Derived.Test.YtbjjekbhopgonaaGreatG2FQ4
import Derived.Test.YtbjjekbhopgonaaGreatG2FQ9
import Derived.Test.YtbjjekbhopgonaaGreatG2FQ3
import Derived.Test.YtbjjekbhopgonaaGreatG2FQ2
import Derived.Test.YtbjjekbhopgonaaGreatG2FH
import Derived.Test.YtbjjekbhopgonaaGreatG2M1
import Derived.Test.YtbjjekbhopgonaaGreatG2FQ0
import Derived.Test.YtbjjekbhopgonaaGreatG2FQ8
import Derived.Test.YtbjjekbhopgonaaGreatG2FGood
set_option linter.unusedVariables false
set_option linter.unusedSimpArgs false
set_option maxRecDepth 100000
namespace Go.VP
open Go Go.VI
theorem rpfits_is {p most : Int} {l : List Msg} (g : ∀ m ∈ l, GoodP p m) (hl : l.length ≤ 1000) : g_ref27_Fits (p, l, most, ()) = some ((fitsP p most l, ()), ()) := by
  rw [g_ref27_Fits_eq, rsenc_is g (by omega) (fun _ => hl), Option.bind_some]
  unfold fitsP
  refine bq_step (fun q => ?_) (fun q => ?_)
  · by_cases h : ((encP p l).1.length : Int) ≤ most
    · rw [decide_eq_true (show (encP p l).2.2 = 0 ∧ _ from ⟨q, h⟩)]; dsimp only [trip]; rw [decide_eq_true h]
    · rw [decide_eq_false (show ¬ ((encP p l).2.2 = 0 ∧ _) from fun c => h c.2)]; dsimp only [trip]; rw [decide_eq_false h]
  · rw [decide_eq_false (show ¬ ((encP p l).2.2 = 0 ∧ _) from fun c => q c.1)]
theorem rpack3_loop {n m0 : Nat} {p most : Int} {l : List Msg} {acc : List Bs} {i : Nat} (hl : l.length ≤ 1000) (ha : acc.length ≤ 1000) (g : ∀ m ∈ l, GoodP p m) : ∀ (d k j : Nat), i + j + d = l.length → d < k →
    L_ref27_Pack_3 n m0 k p l most acc i j = L_ref27_Pack_2 n m0 p l most (acc ++ [(encP p ((l.drop i).take (cnt p most (l.drop i) d j))).1]) ((i : Int) + cnt p most (l.drop i) d j) := by
  have htt : ∀ k, (l.take (i + k)).drop i = (l.drop i).take k := fun k => by rw [List.drop_take]; congr 1; omega
  intro d
  induction d with
  | zero =>
    intro k j h hk
    obtain ⟨k, rfl⟩ : ∃ j, k = j + 1 := ⟨k - 1, by omega⟩
    rw [L_ref27_Pack_3_eq, w64 (x := (i : Int) + j) (by omega) (by omega), ifn (by omega), if_pos (by omega), show ((i : Int) + j).toNat = i + j by omega, Int.toNat_natCast, htt, rsenc_is (fun m hm => g m (List.mem_of_mem_drop (List.mem_of_mem_take hm))) (by rw [List.length_take]; omega) (fun _ => by rw [List.length_take]; omega), Option.bind_some, cnt]
    exact if_pos (roomB_of (Nat.le_trans (Nat.mul_le_mul (show acc.length + [(encP p ((l.drop i).take j)).1].length ≤ 1001 by simp; omega) strBo) (by decide)))
  | succ d ih =>
    intro k j h hk
    obtain ⟨k, rfl⟩ : ∃ j, k = j + 1 := ⟨k - 1, by omega⟩
    rw [L_ref27_Pack_3_eq, w64 (x := (i : Int) + j) (by omega) (by omega), w64 (x := (i : Int) + j + 1) (by omega) (by omega), w64 (x := (j : Int) + 1) (by omega) (by omega), ifd (by omega), if_pos (by omega), show ((i : Int) + j + 1).toNat = i + (j + 1) by omega, show ((i : Int) + j).toNat = i + j by omega, Int.toNat_natCast, htt, htt, rpfits_is (fun m hm => g m (List.mem_of_mem_drop (List.mem_of_mem_take hm))) (by rw [List.length_take]; omega), Option.bind_some, cnt]
    dsimp only
    cases hf : fitsP p most ((l.drop i).take (j + 1)) with
    | false =>
      rw [iff_, if_pos (by omega), rsenc_is (fun m hm => g m (List.mem_of_mem_drop (List.mem_of_mem_take hm))) (by rw [List.length_take]; omega) (fun _ => by rw [List.length_take]; omega), Option.bind_some]
      exact if_pos (roomB_of (Nat.le_trans (Nat.mul_le_mul (show acc.length + [(encP p ((l.drop i).take j)).1].length ≤ 1001 by simp; omega) strBo) (by decide)))
    | true =>
      have := ih k (j + 1) (by omega) (by omega)
      rw [show ((j + 1 : Nat) : Int) = (j : Int) + 1 by omega] at this
      rw [ift]
      exact this
theorem rpack2_loop {n : Nat} {p most : Int} {l : List Msg} (hn : 2000 ≤ n) (hl : l.length ≤ 500) (g : ∀ m ∈ l, GoodP p m ∧ fitsP p most [m] = true) : ∀ (d k i : Nat) (acc : List Bs), (l.drop i).length ≤ d → d < k → i ≤ l.length → acc.length ≤ i →
    L_ref27_Pack_2 n k p l most acc i = some ((acc ++ (chunks p most d (l.drop i)).map (fun c => (encP p c).1), 0, 0, ()), ()) := by
  intro d
  induction d with
  | zero =>
    intro k i acc hd hk hi ha
    obtain ⟨k, rfl⟩ : ∃ j, k = j + 1 := ⟨k - 1, by omega⟩
    have hdl : (l.drop i).length = l.length - i := List.length_drop
    rw [L_ref27_Pack_2_eq, ifn (by omega)]
    simp [chunks]
  | succ d ih =>
    intro k i acc hd hk hi ha
    obtain ⟨k, rfl⟩ : ∃ j, k = j + 1 := ⟨k - 1, by omega⟩
    have hdl : (l.drop i).length = l.length - i := List.length_drop
    rw [L_ref27_Pack_2_eq]
    by_cases hz : i = l.length
    · rw [ifn (by omega), List.drop_eq_nil_of_le (by omega)]; simp [chunks]
    · have hgL : ∀ m ∈ l.drop i, GoodP p m ∧ fitsP p most [m] = true := fun m hm => g m (List.mem_of_mem_drop hm)
      have h3 := rpack3_loop (n := n) (m0 := k) (most := most) (acc := acc) (i := i) (l := l) (by omega) (by omega) (fun x hx => (g x hx).1) (l.length - i - 1) n 1 (by omega) (by omega)
      have hcn : cnt p most (l.drop i) (l.length - i - 1) 1 = cntP p most (l.drop i) := by
        unfold cntP
        rw [hdl, show l.length - i = (l.length - i - 1) + 1 by omega, cnt]
        rw [List.drop_eq_getElem_cons (show i < l.length by omega)] at hgL ⊢
        rw [if_pos (show fitsP p most ((l[i] :: l.drop (i + 1)).take (0 + 1)) = true from (hgL _ (List.mem_cons_self ..)).2)]
        rfl
      rw [hcn, show ((1 : Nat) : Int) = 1 from rfl] at h3
      have hc1 : 1 ≤ cntP p most (l.drop i) := by
        rw [List.drop_eq_getElem_cons (show i < l.length by omega)] at hgL ⊢
        exact cntP_pos (hgL _ (List.mem_cons_self ..)).2
      have hc2 := cntP_le (p := p) (most := most) (l := l.drop i)
      have := ih k (i + cntP p most (l.drop i)) (acc ++ [(encP p ((l.drop i).take (cntP p most (l.drop i)))).1]) (by rw [List.length_drop]; omega) (by omega) (by omega) (by rw [List.length_append, List.length_singleton]; omega)
      rw [show ((i + cntP p most (l.drop i) : Nat) : Int) = (i : Int) + cntP p most (l.drop i) by omega] at this
      have hne : l.drop i ≠ [] := fun q => by rw [q] at hdl; simp at hdl; omega
      rw [ifd (by omega), h3, this, chunks, if_neg hne, List.map_cons, List.append_assoc, ← List.drop_drop]
      rfl
theorem rpack_is {p most : Int} {l : List Msg} (hl : l.length ≤ 500) (g : ∀ m ∈ l, GoodP p m) : g_ref27_Pack (p, l, most, ()) = some (trip (packP p most l), ()) := by
  show h_ref27_Pack fuel _ = _
  rw [h_ref27_Pack_eq]
  unfold packP
  refine dq_step (fun h => by unfold checkP; rw [if_pos (Or.inl h)]; rfl) (fun h1 => ?_)
  refine dq_step (fun h => by unfold checkP; rw [if_pos (Or.inr h)]; rfl) (fun h2 => ?_)
  have hp : ¬ (p < 1 ∨ 4 < p) := by omega
  have l1 : ∀ (d k i : Nat), i + d = l.length → d < k → (∀ m ∈ l, rightP p m = true) → badP (fun m => fitsP p most [m]) l 0 = badP (fun m => fitsP p most [m]) (l.drop i) i → L_ref27_Pack_1 fuel k p l most i = some (trip (packP p most l), ()) := by
    intro d
    induction d with
    | zero =>
      intro k i h hk hR hb
      obtain ⟨k, rfl⟩ : ∃ j, k = j + 1 := ⟨k - 1, by omega⟩
      rw [List.drop_eq_nil_of_le (by omega)] at hb
      have hb : badP (fun m => fitsP p most [m]) l 0 = none := hb
      have hc : checkP p most l = (0, 0) := by unfold checkP; rw [if_neg hp, badP_ok hR, hb]
      have hg : ∀ m ∈ l, GoodP p m ∧ fitsP p most [m] = true := fun m hm => ⟨g m hm, badP_none hb m hm⟩
      have := rpack2_loop (n := fuel) (most := most) (Nat.le_of_lt (fuel_ge (by omega))) hl hg l.length fuel 0 [] (by simp) (fuel_ge (by omega)) (by omega) (by simp)
      rw [List.drop_zero, show ((0 : Nat) : Int) = 0 from rfl] at this
      rw [L_ref27_Pack_1_eq, ifn (by omega), this]
      unfold packP
      rw [hc, if_neg (show ¬ ((0 : Int), (0 : Int)).2 ≠ 0 from fun c => c rfl)]
      rfl
    | succ d ih =>
      intro k i h hk hR hb
      obtain ⟨k, rfl⟩ : ∃ j, k = j + 1 := ⟨k - 1, by omega⟩
      have hi : i < l.length := by omega
      have := ih k (i + 1) (by omega) (by omega) hR
      rw [show ((i + 1 : Nat) : Int) = (i : Int) + 1 by omega] at this
      rw [List.drop_eq_getElem_cons hi, badP] at hb
      rw [L_ref27_Pack_1_eq, ifd (by omega), w64 (x := (i : Int) + 1) (by omega) (by omega), if_pos (by omega), show ((i : Int) + 1).toNat = i + 1 by omega, Int.toNat_natCast, one_at hi, rpfits_is (fun m hm => by rw [List.mem_singleton.1 hm]; exact g _ (List.getElem_mem hi)) (by simp), Option.bind_some]
      dsimp only
      cases hf : fitsP p most [l[i]] with
      | false =>
        rw [hf, iff_] at hb
        have hc : checkP p most l = ((i : Int), 11) := by unfold checkP; rw [if_neg hp, badP_ok hR, hb]
        rw [ifnf]
        unfold packP
        rw [hc, if_pos (show ((i : Int), (11 : Int)).2 ≠ 0 from fun c => by cases c)]
      | true =>
        rw [hf, ift] at hb
        rw [ifnt]; exact this hb
  have main : ∀ (d k i : Nat), i + d = l.length → d < k → badP (rightP p) l 0 = badP (rightP p) (l.drop i) i → L_ref27_Pack_0 fuel k p l most i = some (trip (packP p most l), ()) := by
    intro d
    induction d with
    | zero =>
      intro k i h hk hb
      obtain ⟨k, rfl⟩ : ∃ j, k = j + 1 := ⟨k - 1, by omega⟩
      rw [List.drop_eq_nil_of_le (by omega)] at hb
      have hb : badP (rightP p) l 0 = none := hb
      have := l1 l.length fuel 0 (by omega) (fuel_ge (by omega)) (badP_none hb) (by rw [List.drop_zero])
      rw [show ((0 : Nat) : Int) = 0 from rfl] at this
      rw [L_ref27_Pack_0_eq, ifn (by omega), this]
    | succ d ih =>
      intro k i h hk hb
      obtain ⟨k, rfl⟩ : ∃ j, k = j + 1 := ⟨k - 1, by omega⟩
      have hi : i < l.length := by omega
      have := ih k (i + 1) (by omega) (by omega)
      rw [show ((i + 1 : Nat) : Int) = (i : Int) + 1 by omega] at this
      rw [List.drop_eq_getElem_cons hi, badP] at hb
      rw [L_ref27_Pack_0_eq, ifd (by omega), if_pos (by omega), Int.toNat_natCast, bind_at hi, rsright_p (g _ (List.getElem_mem hi)), Option.bind_some, w64 (by omega) (by omega)]
      dsimp only
      cases hf : rightP p l[i] with
      | false =>
        rw [hf, iff_] at hb
        have hc : checkP p most l = ((i : Int), 1) := by unfold checkP; rw [if_neg hp, hb]
        rw [ifnf]
        unfold packP
        rw [hc, if_pos (show ((i : Int), (1 : Int)).2 ≠ 0 from fun c => by cases c)]
      | true =>
        rw [hf, ift] at hb
        rw [ifnt]; exact this hb
  have := main l.length fuel 0 (by omega) (fuel_ge (by omega)) (by rw [List.drop_zero])
  rw [show ((0 : Nat) : Int) = 0 from rfl] at this
  rw [this]
  rfl
theorem same27_is {a : List Bs} (ha : a.length ≤ 100000) : g_ref27_Same (a, a, ()) = some ((true, ()), ()) := by
  show h_ref27_Same fuel _ = _
  rw [h_ref27_Same_eq]
  refine ne_step (fun q => absurd rfl q) (fun _ => ?_)
  have : ∀ (d k i : Nat), i + d = a.length → d < k → L_ref27_Same_0 fuel k a a i = some ((true, ()), ()) := by
    intro d
    induction d with
    | zero =>
      intro k i h hk
      obtain ⟨k, rfl⟩ : ∃ j, k = j + 1 := ⟨k - 1, by omega⟩
      rw [L_ref27_Same_0_eq, ifn (by omega)]
    | succ d ih =>
      intro k i h hk
      obtain ⟨k, rfl⟩ : ∃ j, k = j + 1 := ⟨k - 1, by omega⟩
      have hi : i < a.length := by omega
      have := ih k (i + 1) (by omega) (by omega)
      rw [show ((i + 1 : Nat) : Int) = (i : Int) + 1 by omega] at this
      rw [L_ref27_Same_0_eq, ifd (by omega), if_pos (by omega), Int.toNat_natCast, bind_at hi, if_pos (by omega), bind_at hi, w64 (by omega) (by omega), this]
      exact if_neg (by simp)
  exact this a.length fuel 0 (by omega) (fuel_ge (by omega))
end Go.VP
set_option linter.unusedVariables false
set_option linter.unusedSimpArgs false
set_option maxRecDepth 100000
namespace Go.VP
open Go Go.VI
theorem awake27 : g_law27_awake () = some ((true, ()), ()) := by kernel_rfl
theorem awb27 {α : Type} (f : (Bool × Unit) × Unit → Option α) : (g_law27_awake ()).bind f = f ((true, ()), ()) := by rw [awake27]; rfl
end Go.VP
