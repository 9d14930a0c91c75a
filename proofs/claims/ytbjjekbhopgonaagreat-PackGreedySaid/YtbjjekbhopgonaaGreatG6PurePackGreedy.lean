import Derived.Test.YtbjjekbhopgonaaGreatG6FQ15
import Derived.Test.YtbjjekbhopgonaaGreatG6M0
import Derived.Test.YtbjjekbhopgonaaGreatG6M1
import Derived.Test.YtbjjekbhopgonaaGreatG6FH
import Derived.Test.YtbjjekbhopgonaaGreatG6M2
import Derived.Test.YtbjjekbhopgonaaGreatG6FGood
set_option linter.unusedVariables false
set_option linter.unusedSimpArgs false
set_option maxRecDepth 100000
namespace Go.VP
open Go Go.VI
theorem greedy_loop {n : Nat} {p most : Int} {l : List Msg} {D : List Bs} {r : (List Bs × Int × Int × Unit) × Unit} (hr : r = ((D, 0, 0, ()), ())) (hm : 0 ≤ most ∧ most ≤ 65535) (hl : l.length ≤ 50) (hD : D.length ≤ 50) (g : ∀ m ∈ l, GoodP p m ∧ fitsP p most [m] = true) :
    ∀ (d k i f e : Nat), i + d = D.length → d < k → f ≤ l.length → (l.drop f).length ≤ e → D.drop i = (chunks p most e (l.drop f)).map (fun c => (encP p c).1) → L_law27_PackGreedy_0 n k l most r p f i = some ((true, ()), ()) := by
  subst hr
  intro d
  induction d with
  | zero =>
    intro k i f e h hk hf he hd
    obtain ⟨k, rfl⟩ : ∃ j, k = j + 1 := ⟨k - 1, by omega⟩
    have hfl : f = l.length := by
      rw [List.drop_eq_nil_of_le (by omega)] at hd
      have hd := (List.map_eq_nil_iff.1 hd.symm)
      cases hL : l.drop f with
      | nil => have := congrArg List.length hL; rw [List.length_drop] at this; simp at this; omega
      | cons m r =>
        rw [hL] at hd he
        obtain ⟨e, rfl⟩ : ∃ j, e = j + 1 := ⟨e - 1, by simp at he; omega⟩
        rw [chunks, if_neg (by simp)] at hd
        cases hd
    rw [L_law27_PackGreedy_0_eq]
    dsimp only
    rw [ifn (by omega), awb27]
    dsimp only
    rw [ift, hfl]
    simp
  | succ d ih =>
    intro k i f e h hk hf he hd
    obtain ⟨k, rfl⟩ : ∃ j, k = j + 1 := ⟨k - 1, by omega⟩
    have hi : i < D.length := by omega
    have hLl : (l.drop f).length = l.length - f := List.length_drop
    have hgL : ∀ m ∈ l.drop f, GoodP p m ∧ fitsP p most [m] = true := fun m hm => g m (List.mem_of_mem_drop hm)
    rw [List.drop_eq_getElem_cons hi] at hd
    have hdd : ∀ k, (l.drop f).drop k = l.drop (f + k) := fun k => by rw [List.drop_drop]
    have htt : ∀ k, (l.take (f + k)).drop f = (l.drop f).take k := fun k => by rw [List.drop_take]; congr 1; omega
    generalize hL : l.drop f = L at *
    obtain ⟨e, rfl⟩ : ∃ j, e = j + 1 := by
      cases e with
      | zero => exact absurd (show _ = [] from hd) (List.cons_ne_nil _ _)
      | succ e => exact ⟨e, rfl⟩
    have hne : L ≠ [] := fun q => by rw [q, chunks, if_pos rfl] at hd; exact absurd (show _ = [] from hd) (List.cons_ne_nil _ _)
    rw [chunks, if_neg hne, List.map_cons] at hd
    obtain ⟨hd1, hd2⟩ := List.cons.inj hd
    have hc1 : 1 ≤ cntP p most L := by
      cases L with
      | nil => exact absurd rfl hne
      | cons m r => exact cntP_pos (hgL m (by simp)).2
    have hc2 := cntP_le (p := p) (most := most) (l := L)
    have hfit : fitsP p most (L.take (cntP p most L)) = true := cnt_fits _ _ hc1
    obtain ⟨f1, f2⟩ := fitsP_ok hfit
    obtain ⟨b1, b2⟩ := p_back f1
    have hcl : (L.take (cntP p most L)).length = cntP p most L := by rw [List.length_take]; omega
    have hstop : cntP p most L < L.length → fitsP p most (L.take (cntP p most L + 1)) = false := fun q => cnt_stop L.length 0 (by show cntP p most L < _; omega)
    generalize hC : cntP p most L = c at *
    have := ih k (i + 1) (f + c) e (by omega) (by omega) (by omega) (by rw [← hdd, List.length_drop]; omega) (by rw [← hdd]; exact hd2)
    rw [show ((i + 1 : Nat) : Int) = (i : Int) + 1 by omega, show ((f + c : Nat) : Int) = (f : Int) + c by omega] at this
    have hp : 0 ≤ (i : Int) := by omega
    rw [L_law27_PackGreedy_0_eq]
    dsimp only
    rw [ifd (by omega), ifd (by omega), if_pos hp, Int.toNat_natCast, bind_at hi, hd1, rsparse_is (by omega), Option.bind_some, b1]
    dsimp only [trip]
    rw [hcl]
    refine ne_step (fun q => absurd rfl q) (fun _ => ?_)
    refine bq_step (fun q => by omega) (fun _ => ?_)
    rw [w64 (x := (f : Int) + c) (by omega) (by omega), ifn (by omega), w64 (x := (f : Int) + c + 1) (by omega) (by omega), w64 (x := (i : Int) + 1) (by omega) (by omega), w64 (x := most) (by omega) (by omega)]
    refine dq_step (fun q => ?_) (fun q => this)
    rw [if_pos (by omega), show ((f : Int) + c + 1).toNat = f + (c + 1) by omega, Int.toNat_natCast, htt, pfits_is (fun m hm => (hgL m (List.mem_of_mem_take hm)).1) (by rw [List.length_take]; omega), Option.bind_some, hstop (by omega)]
    exact this
theorem packGreedy_pure (x0 : Int) (g0 : Good_uint8 x0) (x1 : List S_api_Msg) (g1 : Good_list_api_Msg x1) (x2 : Int) (g2 : Good_uint16 x2) : g_law27_PackGreedy (x0, x1, x2, ()) = some ((true, ()), ()) := by
  have g1 : ∀ m ∈ x1, Good_api_Msg m := g1.1.2
  have g2 : 0 ≤ x2 ∧ x2 ≤ 65535 := g2.1
  show h_law27_PackGreedy fuel _ = _
  rw [h_law27_PackGreedy_eq]
  obtain ⟨b, hb, hb'⟩ := fewA_is (a := x1) (k := 20) (by omega) (fun m hm => goodMsgA (g1 m hm))
  rw [hb, Option.bind_some]
  dsimp only
  cases b with
  | false => rw [ifnf]; exact awb27 _
  | true =>
  obtain ⟨hl, hf⟩ := hb' rfl
  have hg : ∀ m ∈ x1, GoodQ m := fun m hm => goodQ (g1 m hm) (hf m hm)
  generalize IntKind.wrap .i64 (1 + IntKind.wrap .i64 (x0.tmod 4)) = p at *
  rw [ifnt, w64 (x := x2) (by omega) (by omega), pack_is (by omega) (fun m hm => (hg m hm).p p), Option.bind_some]
  unfold packP
  refine ne_step (fun he => awb27 _) (fun he => ?_)
  by_cases hz : (checkP p x2 x1).2 ≠ 0
  · rw [if_pos hz] at he; exact absurd he hz
  · rw [if_neg hz]
    have hc := (checkP_ok (Classical.byContradiction hz)).2.2
    obtain ⟨k1, k2, k3⟩ := chunks_ok (p := p) (most := x2) x1.length x1 (Nat.le_refl _) (fun m hm => (hc m hm).2)
    have hlen : (packD p x2 x1).length ≤ x1.length := by unfold packD; rw [List.length_map]; exact k3
    exact greedy_loop (n := fuel) (l := x1) (most := x2) (D := packD p x2 x1) rfl g2 (by omega) (by omega) (fun m hm => ⟨(hg m hm).p p, (hc m hm).2⟩) (packD p x2 x1).length fuel 0 0 x1.length (by omega) (fuel_ge (by omega)) (by omega) (by simp) rfl
end Go.VP
