/- Whether any Subs may be, their bytes, and the Subs of any bytes, are the document's: the pure statement, for all arguments (no condition beyond the law's own guards). -/
import Derived.Test.YtjgnpggpgkkknaaPr24
import Derived.Test.YtjgnpggpgkkknaaPuBase
import Derived.Test.YtjgnpggpgkkknaaPuCut
import Derived.Test.YtjgnpggpgkkknaaPuFrame
import Derived.Test.YtjgnpggpgkkknaaPuFrameBk
import Derived.Test.YtjgnpggpgkkknaaPuOctet
import Derived.Test.YtjgnpggpgkkknaaPuSub
import Derived.Test.YtjgnpggpgkkknaaPuSubAw
namespace Go.Proofs.Ytjgnpggpgkkknaa.Pure
open Go.RowKit Go.Proofs.Ytjgnpggpgkkknaa.Pr Go.Proofs.YtjgnpggpgkkknaaW.PrintWords Go.Proofs.YtjgnpggpgkkknaaW.PrintLast Go.Proofs.YtjgnpggpgkkknaaW.PrintMore
set_option linter.unusedVariables false
theorem few_of {l : List Sub} (h : (decide (l.length ≤ 60) && l.all fun y => decide (y.f1.size ≤ 300)) = true) : l.length ≤ 60 ∧ Few l := by
  rw [Bool.and_eq_true] at h
  have h1 := of_decide_eq_true h.1
  refine ⟨h1, by omega, fun y hy => ?_⟩
  have := List.all_eq_true.mp h.2 y hy
  simpa using this
theorem SubTells : roadbooklaw19_SubTells.Pure := by
  intro l s hl hs
  refine ⟨3001, ?_⟩
  have go : ∀ b, (b = false → (s.size : Int) ≤ 1000 ∧ l.length ≤ 60 ∧ Few l) → roadbooklaw19_SubTells.j0 3001 l s b = some true := by
    intro b hb
    rw [roadbooklaw19_SubTells.j0]
    by_cases h : b = true
    · rw [if_pos h, awake19 (by omega)]; rfl
    · obtain ⟨h1, h2, h3⟩ := hb (by simpa using h)
      rw [if_neg h, sput_is h3 (by omega) (by omega), Option.bind_some, rsput_is h3 (by omega) (by omega), Option.bind_some, sget_is (by omega) (by omega), Option.bind_some, rsget_is (by omega) (by omega), Option.bind_some, awake19 (by omega), Option.bind_some, if_pos rfl, right_is h3 (by omega), Option.bind_some, rright_is h3 (by omega), Option.bind_some, if_pos (by simp), if_pos rfl, if_pos (by simp)]
      have hg : (getS s).1.length ≤ 1000 := by
        unfold getS
        rcases splitF_cases s 0 with ⟨m, f1, f2, f3⟩ | ⟨x, f1, _, _⟩
        · rw [f1, if_pos rfl]
          have := List.length_filter_le (fun t : Tlv => decide (2 ≤ t.f0 ∧ t.f0 ≤ 127)) m
          unfold endS
          split
          · simp
          · simp only [keep, List.length_map]; omega
        · rw [f1, if_neg (show ¬ ((2 : Int) = 0) by decide)]; simp
      rw [same19 (by omega) (by omega), Option.bind_some, if_pos rfl, if_pos (by simp)]
      simp
  unfold roadbooklaw19_SubTells.f
  rw [few_is (by omega), Option.bind_some]
  by_cases h : (decide (l.length ≤ 60) && l.all fun y => decide (y.f1.size ≤ 300)) = true
  · rw [if_pos h]
    exact go _ (fun h2 => ⟨by simp at h2; omega, few_of h⟩)
  · rw [if_neg h]
    exact go _ (by simp)
end Go.Proofs.Ytjgnpggpgkkknaa.Pure
