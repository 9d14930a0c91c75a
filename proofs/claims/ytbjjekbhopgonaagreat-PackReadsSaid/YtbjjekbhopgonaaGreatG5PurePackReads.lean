import Derived.Test.YtbjjekbhopgonaaGreatG5FQ15
import Derived.Test.YtbjjekbhopgonaaGreatG5M0
import Derived.Test.YtbjjekbhopgonaaGreatG5M1
import Derived.Test.YtbjjekbhopgonaaGreatG5FH
import Derived.Test.YtbjjekbhopgonaaGreatG5M2
import Derived.Test.YtbjjekbhopgonaaGreatG5FGood
set_option linter.unusedVariables false
set_option linter.unusedSimpArgs false
set_option maxRecDepth 100000
namespace Go.VP
open Go Go.VI
theorem reads_loop {n : Nat} {p most : Int} {l : List Msg} {C : List (List Msg)} {r : (List Bs × Int × Int × Unit) × Unit} (hr : r = ((C.map (fun c => (encP p c).1), 0, 0, ()), ())) (hm : 0 ≤ most ∧ most ≤ 65535) (hl : l.length ≤ 50) (hC : C.length ≤ l.length) (hf : C.flatten = l) (hc : ∀ c ∈ C, c ≠ [] ∧ fitsP p most c = true) (hs : ∀ m ∈ l, Small m) :
    ∀ (d k i : Nat), i + d = C.length → d < k → L_law27_PackReads_0 n k l most r p (C.take i).flatten i = some ((true, ()), ()) := by
  have hlen : ∀ i, (C.take i).flatten.length ≤ l.length := fun i => by
    have : (C.take i).flatten ++ (C.drop i).flatten = l := by rw [← List.flatten_append, List.take_append_drop, hf]
    rw [← this, List.length_append]; omega
  subst hr
  intro d
  induction d with
  | zero =>
    intro k i h hk
    obtain ⟨k, rfl⟩ : ∃ j, k = j + 1 := ⟨k - 1, by omega⟩
    rw [L_law27_PackReads_0_eq]
    dsimp only
    rw [ifn (by rw [List.length_map]; omega), awb27, List.take_of_length_le (by omega), hf]
    dsimp only
    rw [ift, sameA_is (by omega) hs, Option.bind_some]
    dsimp only
    rw [ift, decide_eq_true (by rw [List.length_map]; omega)]
  | succ d ih =>
    intro k i h hk
    obtain ⟨k, rfl⟩ : ∃ j, k = j + 1 := ⟨k - 1, by omega⟩
    have hi : i < C.length := by omega
    have hi2 : i < (C.map (fun c => (encP p c).1)).length := by rw [List.length_map]; exact hi
    obtain ⟨c1, c2⟩ := hc _ (List.getElem_mem hi)
    obtain ⟨f1, f2⟩ := fitsP_ok c2
    obtain ⟨b1, b2⟩ := p_back f1
    have := ih k (i + 1) (by omega) (by omega)
    rw [show ((i + 1 : Nat) : Int) = (i : Int) + 1 by omega, List.take_succ_eq_append_getElem hi, List.flatten_append, show ([C[i]] : List (List Msg)).flatten = C[i] by simp] at this
    have hl1 := hlen i
    have hl2 : C[i].length ≤ l.length := by
      have := hlen (i + 1)
      rw [List.take_succ_eq_append_getElem hi, List.flatten_append, List.length_append] at this
      simp at this; omega
    have hp : 0 ≤ (i : Int) := by omega
    rw [L_law27_PackReads_0_eq]
    dsimp only
    rw [ifd (by rw [List.length_map]; omega), ifd (by omega), if_pos hp, Int.toNat_natCast, bind_at hi2, List.getElem_map, rsparse_is (by omega), Option.bind_some, b1]
    dsimp only [trip]
    refine ne_step (fun q => absurd rfl q) (fun _ => ?_)
    rw [if_pos hp, bind_at hi2, List.getElem_map, w64 (x := most) (by omega) (by omega), ifn (by omega)]
    refine bq_step (fun q => absurd ((len_nil _).1 q) c1) (fun _ => ?_)
    rw [if_pos (roomB_of (Nat.le_trans (Nat.mul_le_mul (show (C.take i).flatten.length + C[i].length ≤ 100 by omega) msgBo) (by decide))), w64 (by omega) (by omega)]
    exact this
theorem packReads_pure (x0 : Int) (g0 : Good_uint8 x0) (x1 : List S_api_Msg) (g1 : Good_list_api_Msg x1) (x2 : Int) (g2 : Good_uint16 x2) : g_law27_PackReads (x0, x1, x2, ()) = some ((true, ()), ()) := by
  have g1 : ∀ m ∈ x1, Good_api_Msg m := g1.1.2
  have g2 : 0 ≤ x2 ∧ x2 ≤ 65535 := g2.1
  have hk := kind4 (has8.1 g0.1)
  show h_law27_PackReads fuel _ = _
  rw [h_law27_PackReads_eq]
  obtain ⟨b, hb, hb'⟩ := fewA_is (a := x1) (k := 20) (by omega) (fun m hm => goodMsgA (g1 m hm))
  rw [hb, Option.bind_some]
  dsimp only
  cases b with
  | false => rw [ifnf]; exact awb27 _
  | true =>
  obtain ⟨hl, hf⟩ := hb' rfl
  have hg : ∀ m ∈ x1, GoodQ m := fun m hm => goodQ (g1 m hm) (hf m hm)
  generalize IntKind.wrap .i64 (1 + IntKind.wrap .i64 (x0.tmod 4)) = p at *
  rw [ifnt, w64 (x := x2) (by omega) (by omega), pack_is (by omega) (fun m hm => (hg m hm).p p), Option.bind_some]
  unfold packP
  refine ne_step (fun he => ?_) (fun he => ?_)
  · by_cases hz : (checkP p x2 x1).2 ≠ 0
    · have := checkP_place hk hz
      rw [if_pos hz, awb27]
      dsimp only [trip]
      rw [ift, if_pos (by simp), ifd this.1, decide_eq_true this.2]
    · rw [if_neg hz] at he; exact absurd rfl he
  · by_cases hz : (checkP p x2 x1).2 ≠ 0
    · rw [if_pos hz] at he; exact absurd he hz
    · rw [if_neg hz]
      have hc := (checkP_ok (Classical.byContradiction hz)).2.2
      obtain ⟨k1, k2, k3⟩ := chunks_ok (p := p) (most := x2) x1.length x1 (Nat.le_refl _) (fun m hm => (hc m hm).2)
      exact reads_loop (n := fuel) (l := x1) (most := x2) (C := chunks p x2 x1.length x1) rfl g2 (by omega) k3 k1 k2 (fun m hm => (hg m hm).lean.small) (chunks p x2 x1.length x1).length fuel 0 (by omega) (fuel_ge (by omega))
end Go.VP
