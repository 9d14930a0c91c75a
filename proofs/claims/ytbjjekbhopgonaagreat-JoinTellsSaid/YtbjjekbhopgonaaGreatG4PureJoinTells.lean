import Derived.Test.YtbjjekbhopgonaaGreatG4FQ15
import Derived.Test.YtbjjekbhopgonaaGreatG4M0
import Derived.Test.YtbjjekbhopgonaaGreatG4M1
import Derived.Test.YtbjjekbhopgonaaGreatG4FH
import Derived.Test.YtbjjekbhopgonaaGreatG4FQ7
import Derived.Test.YtbjjekbhopgonaaGreatG4FQ8
import Derived.Test.YtbjjekbhopgonaaGreatG4M2
import Derived.Test.YtbjjekbhopgonaaGreatG4FGood
set_option linter.unusedVariables false
set_option linter.unusedSimpArgs false
set_option maxRecDepth 100000
namespace Go.VP
open Go Go.VI
theorem joinTells_pure (x0 : Int) (g0 : Good_int x0) (x1 : List (List UInt8)) (g1 : Good_list_string x1) : g_law28_JoinTells (x0, x1, ()) = some ((true, ()), ()) := by
  rw [g_law28_JoinTells_eq]
  obtain ⟨b, hb, hb'⟩ := few28_is x1
  rw [hb, Option.bind_some]
  dsimp only
  cases b with
  | false => rw [ifnf]; exact awb28 _
  | true =>
  obtain ⟨hl, hd⟩ := hb' rfl
  have hd : ∀ b ∈ x1, b.length ≤ 100000 := fun b hb => by have := hd b hb; omega
  rw [ifnt, join_is (by omega) hd, Option.bind_some, rjoin_is (by omega) hd, Option.bind_some, awb28]
  have hs : (∀ m ∈ (joinP x0 x1).1, Small m) ∧ (joinP x0 x1).1.length ≤ 65535 * x1.length := by
    unfold joinP
    by_cases q : x0 < 1 ∨ 4 < x0
    · rw [if_pos q]; exact ⟨fun m hm => (by cases hm), by simp⟩
    · rw [if_neg q]
      have := joinGo_ok (p := x0) x1 0 [] hd (fun m hm => by cases hm)
      simpa using this
  dsimp only [quad]
  rw [ift, sameA_is (by omega) hs.1, Option.bind_some]
  simp
end Go.VP
