import Derived.Test.YtbjjekbhopgonaaGreatG2FQ15
import Derived.Test.YtbjjekbhopgonaaGreatG2M0
import Derived.Test.YtbjjekbhopgonaaGreatG2FQ11
import Derived.Test.YtbjjekbhopgonaaGreatG2FQ4
import Derived.Test.YtbjjekbhopgonaaGreatG2FQ9
import Derived.Test.YtbjjekbhopgonaaGreatG2FQ3
import Derived.Test.YtbjjekbhopgonaaGreatG2FQ2
import Derived.Test.YtbjjekbhopgonaaGreatG2FH
import Derived.Test.YtbjjekbhopgonaaGreatG2M1
import Derived.Test.YtbjjekbhopgonaaGreatG2FQ0
import Derived.Test.YtbjjekbhopgonaaGreatG2FQ8
import Derived.Test.YtbjjekbhopgonaaGreatG2M2
import Derived.Test.YtbjjekbhopgonaaGreatG2FGood
set_option linter.unusedVariables false
set_option linter.unusedSimpArgs false
set_option maxRecDepth 100000
namespace Go.VP
open Go Go.VI
theorem packTells_pure (x0 : Int) (g0 : Good_int x0) (x1 : List S_api_Msg) (g1 : Good_list_api_Msg x1) (x2 : Int) (g2 : Good_int x2) : g_law27_PackTells (x0, x1, x2, ()) = some ((true, ()), ()) := by
  have g1 : ∀ m ∈ x1, Good_api_Msg m := g1.1.2
  rw [g_law27_PackTells_eq]
  obtain ⟨b, hb, hb'⟩ := fewA_is (a := x1) (k := 20) (by omega) (fun m hm => goodMsgA (g1 m hm))
  rw [hb, Option.bind_some]
  dsimp only
  cases b with
  | false => rw [ifnf]; exact awb27 _
  | true =>
  obtain ⟨hl, hf⟩ := hb' rfl
  have hg : ∀ m ∈ x1, GoodP x0 m := fun m hm => (goodQ (g1 m hm) (hf m hm)).p x0
  rw [ifnt, pack_is (by omega) hg, Option.bind_some, rpack_is (by omega) hg, Option.bind_some, awb27, pfits_is hg (by omega), rpfits_is hg (by omega)]
  have hlen : (packP x0 x2 x1).1.length ≤ 1000 := by
    unfold packP
    by_cases hz : (checkP x0 x2 x1).2 ≠ 0
    · rw [if_pos hz]; simp
    · rw [if_neg hz]
      have hc := (checkP_ok (Classical.byContradiction hz)).2.2
      obtain ⟨k1, k2, k3⟩ := chunks_ok (p := x0) (most := x2) x1.length x1 (Nat.le_refl _) (fun m hm => (hc m hm).2)
      unfold packD
      rw [List.length_map]; omega
  dsimp only [trip]
  rw [ift, Option.bind_some, Option.bind_some, if_pos (by simp), same27_is (by omega), Option.bind_some]
  dsimp only
  rw [ift, if_pos (by simp)]
  simp
end Go.VP
