import Derived.Test.YtbjjekbhopgonaaGreatGaFQ16
import Derived.Test.YtbjjekbhopgonaaGreatGaM0
import Derived.Test.YtbjjekbhopgonaaGreatGaM1
import Derived.Test.YtbjjekbhopgonaaGreatGaFH
import Derived.Test.YtbjjekbhopgonaaGreatGaM2
import Derived.Test.YtbjjekbhopgonaaGreatGaFGood
set_option linter.unusedVariables false
set_option linter.unusedSimpArgs false
set_option maxRecDepth 100000
namespace Go.VP
open Go Go.VI
theorem cnt_all {p most : Int} {l : List Msg} (h : ∀ n, 1 ≤ n → n ≤ l.length → fitsP p most (l.take n) = true) : ∀ (k n : Nat), n + k = l.length → cnt p most l k n = l.length
  | 0, n, q => by rw [cnt]; omega
  | k + 1, n, q => by rw [cnt, if_pos (h (n + 1) (by omega) (by omega))]; exact cnt_all h k (n + 1) (by omega)
theorem once_loop {n : Nat} {p : Int} {l : List Msg} {r : (Bs × Int × Int × Unit) × Unit} {more : Int} (hr : r = (trip (encP p l), ())) (he : (encP p l).2.2 = 0) (hp : 1 ≤ p ∧ p ≤ 4) (hm : 0 ≤ more ∧ more ≤ 255) (hl : l.length ≤ 50) (hne : l ≠ []) (g : ∀ m ∈ l, GoodP p m) (hF : ∀ m ∈ l, Few m) :
    ∀ (d k i : Nat), i + d = l.length → d < k → (∀ m ∈ l.take i, fitsP p ((encP p l).1.length + more) [m] = true) → L_top_WholeAtOnce_0 n k l more r p i = some ((true, ()), ()) := by
  subst hr
  have hb := (p_back he).2
  have hR := p_all he
  intro d
  induction d with
  | zero =>
    intro k i h hk hfit
    obtain ⟨k, rfl⟩ : ∃ j, k = j + 1 := ⟨k - 1, by omega⟩
    rw [List.take_of_length_le (by omega)] at hfit
    have hc : checkP p ((encP p l).1.length + more) l = (0, 0) := by
      unfold checkP
      rw [if_neg (by omega), badP_ok hR, badP_ok hfit]
    have hcn : cntP p ((encP p l).1.length + more) l = l.length := cnt_all (fun n h1 h2 => by
      obtain ⟨q1, q2⟩ := p_take (p := p) (l := l) he h1
      unfold fitsP
      exact decide_eq_true ⟨q1, by omega⟩) l.length 0 (by omega)
    have hD : packD p ((encP p l).1.length + more) l = [(encP p l).1] := by
      unfold packD
      obtain ⟨k, hk⟩ : ∃ k, l.length = k + 1 := ⟨l.length - 1, by have := List.length_pos_iff.2 hne; omega⟩
      rw [hk, chunks, if_neg hne, hcn, List.take_length, List.drop_length]
      cases k with
      | zero => rfl
      | succ k => rw [chunks, if_pos rfl]; rfl
    have hP : packP p ((encP p l).1.length + more) l = ([(encP p l).1], 0, 0) := by
      unfold packP
      rw [hc, if_neg (show ¬ ((0 : Int), (0 : Int)).2 ≠ 0 from fun c => c rfl), hD]
    rw [L_top_WholeAtOnce_0_eq, ifn (by omega)]
    dsimp only [trip]
    rw [w64 (x := more) (by omega) (by omega), w64 (by omega) (by omega), pack_is (by omega) g, Option.bind_some, awbT, hP]
    dsimp only [trip]
    rw [ift]
    refine bq_step (fun _ => ?_) (fun q => absurd rfl q)
    refine bq_step (fun _ => ?_) (fun q => absurd rfl q)
    rw [show ([(encP p l).1] : List Bs)[0]? = some (encP p l).1 from rfl, Option.bind_some]
    simp
  | succ d ih =>
    intro k i h hk hfit
    obtain ⟨k, rfl⟩ : ∃ j, k = j + 1 := ⟨k - 1, by omega⟩
    have hi : i < l.length := by omega
    have hm1 := List.getElem_mem hi
    have h1 := p_one (p := p) (hR _ hm1) (hF _ hm1)
    have := ih k (i + 1) (by omega) (by omega)
    rw [show ((i + 1 : Nat) : Int) = (i : Int) + 1 by omega] at this
    rw [L_top_WholeAtOnce_0_eq, ifd (by omega), w64 (x := (i : Int) + 1) (by omega) (by omega), if_pos (by omega), show ((i : Int) + 1).toNat = i + 1 by omega, Int.toNat_natCast, one_at hi, senc_is (fun m hm => by rw [List.mem_singleton.1 hm]; exact g _ hm1) (by simp) (fun _ => by simp), Option.bind_some]
    dsimp only [trip]
    refine ne_step (fun q => absurd h1 q) (fun _ => ?_)
    rw [w64 (x := more) (by omega) (by omega), w64 (by omega) (by omega)]
    refine dq_step (fun _ => awbT _) (fun q => ?_)
    refine this (fun m hm => ?_)
    rw [List.take_succ_eq_append_getElem hi] at hm
    rcases List.mem_append.1 hm with hm | hm
    · exact hfit m hm
    · rw [List.mem_singleton.1 hm]
      unfold fitsP
      exact decide_eq_true ⟨h1, by omega⟩
theorem wholeAtOnce_pure (x0 : Int) (g0 : Good_uint8 x0) (x1 : List S_api_Msg) (g1 : Good_list_api_Msg x1) (x2 : Int) (g2 : Good_uint8 x2) : g_top_WholeAtOnce (x0, x1, x2, ()) = some ((true, ()), ()) := by
  have g1 : ∀ m ∈ x1, Good_api_Msg m := g1.1.2
  have g2 : 0 ≤ x2 ∧ x2 ≤ 255 := has8.1 g2.1
  have hk := kind4 (has8.1 g0.1)
  show h_top_WholeAtOnce fuel _ = _
  rw [h_top_WholeAtOnce_eq]
  obtain ⟨b, hb, hb'⟩ := fewA_is (a := x1) (k := 20) (by omega) (fun m hm => goodMsgA (g1 m hm))
  rw [hb, Option.bind_some]
  dsimp only
  cases b with
  | false => rw [ifnf]; exact awbT _
  | true =>
  obtain ⟨hl, hf⟩ := hb' rfl
  have hg : ∀ m ∈ x1, GoodQ m := fun m hm => goodQ (g1 m hm) (hf m hm)
  generalize IntKind.wrap .i64 (1 + IntKind.wrap .i64 (x0.tmod 4)) = p at *
  rw [ifnt]
  refine bq_step (fun _ => awbT _) (fun h0 => ?_)
  rw [senc_is (fun m hm => (hg m hm).p p) (by omega) (fun _ => by omega), Option.bind_some]
  refine ne_step (fun he => awbT _) (fun he => ?_)
  exact once_loop (n := fuel) rfl he hk g2 (by omega) (fun q => h0 (by rw [q]; rfl)) (fun m hm => (hg m hm).p p) hf x1.length fuel 0 (by omega) (fuel_ge (by omega)) (fun m hm => by simp at hm)
end Go.VP
