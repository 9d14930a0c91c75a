import Derived.Test.YtbjjekbhopgonaaGreatG8FQ15
import Derived.Test.YtbjjekbhopgonaaGreatG8M0
import Derived.Test.YtbjjekbhopgonaaGreatG8M1
import Derived.Test.YtbjjekbhopgonaaGreatG8M2
import Derived.Test.YtbjjekbhopgonaaGreatG8M3
import Derived.Test.YtbjjekbhopgonaaGreatG8FGood
set_option linter.unusedVariables false
set_option linter.unusedSimpArgs false
set_option maxRecDepth 100000
namespace Go.VP
open Go Go.VI
theorem joinPacks_pure (x0 : Int) (g0 : Good_uint8 x0) (x1 : List S_api_Msg) (g1 : Good_list_api_Msg x1) (x2 : Int) (g2 : Good_uint16 x2) : g_law28_JoinPacks (x0, x1, x2, ()) = some ((true, ()), ()) := by
  have g1 : ∀ m ∈ x1, Good_api_Msg m := g1.1.2
  have g2 : 0 ≤ x2 ∧ x2 ≤ 65535 := g2.1
  have hk := kind4 (has8.1 g0.1)
  rw [g_law28_JoinPacks_eq]
  obtain ⟨b, hb, hb'⟩ := fewA_is (a := x1) (k := 20) (by omega) (fun m hm => goodMsgA (g1 m hm))
  rw [hb, Option.bind_some]
  dsimp only
  cases b with
  | false => rw [ifnf]; exact awb28 _
  | true =>
  obtain ⟨hl, hf⟩ := hb' rfl
  have hg : ∀ m ∈ x1, GoodQ m := fun m hm => goodQ (g1 m hm) (hf m hm)
  generalize IntKind.wrap .i64 (1 + IntKind.wrap .i64 (x0.tmod 4)) = p at *
  rw [ifnt, w64 (x := x2) (by omega) (by omega), rpack_is (by omega) (fun m hm => (hg m hm).p p), Option.bind_some]
  unfold packP
  refine ne_step (fun he => awb28 _) (fun he => ?_)
  by_cases hz : (checkP p x2 x1).2 ≠ 0
  · rw [if_pos hz] at he; exact absurd he hz
  · rw [if_neg hz]
    have hc := (checkP_ok (Classical.byContradiction hz)).2.2
    obtain ⟨k1, k2, k3⟩ := chunks_ok (p := p) (most := x2) x1.length x1 (Nat.le_refl _) (fun m hm => (hc m hm).2)
    have hD : ∀ b ∈ packD p x2 x1, b.length ≤ 100000 := fun b hb => by
      obtain ⟨c, hc, rfl⟩ := List.mem_map.1 hb
      have := (p_back (fitsP_ok (k2 c hc).2).1).2
      omega
    have hlen : (packD p x2 x1).length ≤ x1.length := by unfold packD; rw [List.length_map]; exact k3
    have hj : joinP p (packD p x2 x1) = (x1, 0, 0, 0) := by
      unfold joinP packD
      rw [if_neg (by omega), joinGo_packs _ _ _ (fun c hc => (fitsP_ok (k2 c hc).2).1), k1, List.nil_append]
    dsimp only [trip]
    rw [join_is (by omega) hD, Option.bind_some, awb28, hj]
    dsimp only [quad]
    rw [ift]
    refine bq_step (fun _ => ?_) (fun q => absurd rfl q)
    refine bq_step (fun _ => ?_) (fun q => absurd rfl q)
    refine bq_step (fun _ => ?_) (fun q => absurd rfl q)
    rw [sameA_is (by omega) (fun m hm => (hg m hm).lean.small), Option.bind_some]
end Go.VP
