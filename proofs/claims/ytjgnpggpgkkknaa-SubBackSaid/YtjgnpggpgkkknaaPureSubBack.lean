/- Subs that may be come back of their bytes, and what is kept of bytes may be, and comes back: the pure statement, for all arguments (no condition beyond the law's own guards). -/
import Derived.Test.YtjgnpggpgkkknaaPr25
import Derived.Test.YtjgnpggpgkkknaaPuBase
import Derived.Test.YtjgnpggpgkkknaaPuCut
import Derived.Test.YtjgnpggpgkkknaaPuFrame
import Derived.Test.YtjgnpggpgkkknaaPuFrameBk
import Derived.Test.YtjgnpggpgkkknaaPuOctet
import Derived.Test.YtjgnpggpgkkknaaPuSub
import Derived.Test.YtjgnpggpgkkknaaPuSubAw
import Derived.Test.YtjgnpggpgkkknaaPuSubBk
namespace Go.Proofs.Ytjgnpggpgkkknaa.Pure
open Go.RowKit Go.Proofs.Ytjgnpggpgkkknaa.Pr Go.Proofs.YtjgnpggpgkkknaaW.PrintWords Go.Proofs.YtjgnpggpgkkknaaW.PrintLast Go.Proofs.YtjgnpggpgkkknaaW.PrintMore
set_option linter.unusedVariables false
theorem few_of {l : List Sub} (h : (decide (l.length ≤ 60) && l.all fun y => decide (y.f1.size ≤ 300)) = true) : l.length ≤ 60 ∧ Few l := by
  rw [Bool.and_eq_true] at h
  have h1 := of_decide_eq_true h.1
  refine ⟨h1, by omega, fun y hy => ?_⟩
  have := List.all_eq_true.mp h.2 y hy
  simpa using this
theorem back1 {s : ByteArray} (hs : s.size ≤ 1000) {k : Nat} (hk : 2900 ≤ k) : roadbooklaw19_SubBack.j1 (k + 1) s false = some true := by
  rw [roadbooklaw19_SubBack.j1, if_neg (by decide), sget_is (by omega) (by omega), Option.bind_some]
  have bad : ∀ e : Int, e ≠ 0 → (if e = 0 then (sub_Put.f k ([] : List Sub)).bind fun bt524 => ((sub_Get.f k bt524.1).bind fun bt526 => ((roadbooklaw19_awake.f k).bind fun t531 => (if t531 = true then (if bt524.2 = true then ((roadbooklaw19_same.f k ([] : List Sub) bt526.1).bind fun t532 => (if t532 = true then (some (decide ((bt524.1.size : Int) ≤ (s.size : Int)))) else (some false))) else (some false)) else (some false)))) else ((roadbooklaw19_awake.f k).bind fun t523 => (if t523 = true then (some ((([] : List Sub).length : Int) == 0)) else (some false)))) = some true := by
    intro e he
    rw [if_neg he, awake19 (by omega), Option.bind_some, if_pos rfl]
    rfl
  unfold getS
  rcases splitF_cases s 0 with ⟨m, f1, f2, f3⟩ | ⟨x, f1, _, _⟩
  · rw [f1, if_pos rfl]
    have hlen : (keep m).length ≤ 1000 := by
      have := List.length_filter_le (fun t : Tlv => decide (2 ≤ t.f0 ∧ t.f0 ≤ 127)) m
      simp only [keep, List.length_map]; omega
    have hfew : Few (keep m) := keep_few (chain_short m 0 f2) (by omega)
    have hsum := chain_sum m 0 f2
    have hr := chain_keep f2
    unfold endS
    by_cases h : sumN (keep m) > 200
    · rw [if_pos h]
      exact bad 10 (by decide)
    · have hR : rightB (keep m) = true := by
        unfold rightB
        rw [allR_to hr, decide_eq_true (by omega)]; rfl
      have hp : putS (keep m) = (encS (keep m), true) := by unfold putS; rw [if_pos hR]
      have hz := size_enc (keep m)
      have hS : sub_Put.f k (keep m) = some (encS (keep m), true) := by rw [sput_is hfew (by omega) (by omega), hp]
      have hG : sub_Get.f k (encS (keep m)) = some (keep m, true, 0) := by rw [sget_is (by omega) (by omega), get_holds (holds_enc hr) (by omega)]
      have hM : roadbooklaw19_same.f k (keep m) (keep m) = some true := same19 (by omega) (by omega)
      rw [if_neg h]
      show (if (0 : Int) = 0 then (sub_Put.f k (keep m)).bind _ else _) = some true
      rw [if_pos rfl, hS, Option.bind_some]
      show (sub_Get.f k (encS (keep m))).bind _ = some true
      rw [hG, Option.bind_some, awake19 (by omega), Option.bind_some, if_pos rfl]
      show (if true = true then (roadbooklaw19_same.f k (keep m) (keep m)).bind _ else _) = some true
      rw [if_pos rfl, hM, Option.bind_some, if_pos rfl]
      exact congrArg some (decide_eq_true (by show ((encS (keep m)).size : Int) ≤ _; omega))
  · rw [f1, if_neg (show ¬ ((2 : Int) = 0) by decide)]
    exact bad 2 (by decide)
theorem SubBack : roadbooklaw19_SubBack.Pure := by
  intro l s hl hs
  refine ⟨3001, ?_⟩
  have go : ∀ b, (b = false → (s.size : Int) ≤ 1000 ∧ l.length ≤ 60 ∧ Few l) → roadbooklaw19_SubBack.j0 3001 l s b = some true := by
    intro b hb
    rw [roadbooklaw19_SubBack.j0]
    by_cases h : b = true
    · rw [if_pos h, awake19 (by omega)]; rfl
    · obtain ⟨h1, h2, h3⟩ := hb (by simpa using h)
      rw [if_neg h, sput_is h3 (by omega) (by omega), Option.bind_some, right_is h3 (by omega), Option.bind_some]
      by_cases hR : rightB l = true
      · have hp : putS l = (encS l, true) := by unfold putS; rw [if_pos hR]
        obtain ⟨hr, hsum⟩ := right_split hR
        have hz := size_enc l
        have hG : sub_Get.f 3000 (encS l) = some (l, true, 0) := by rw [sget_is (by omega) (by omega), get_holds (holds_enc hr) (by omega)]
        have hM : roadbooklaw19_same.f 3000 l l = some true := same19 (by omega) (by omega)
        rw [hp, hR, if_neg (show ¬ ((true != true) = true) by decide)]
        show (sub_Get.f 3000 (encS l)).bind _ = some true
        rw [hG, Option.bind_some, if_pos rfl, if_pos rfl, if_pos rfl]
        show (roadbooklaw19_same.f 3000 l l).bind _ = some true
        rw [hM, Option.bind_some]
        exact back1 (k := 2999) (by omega) (by omega)
      · have hp : putS l = (⟨#[]⟩, false) := by unfold putS; rw [if_neg hR]
        rw [Bool.not_eq_true] at hR
        have hz : (⟨#[]⟩ : ByteArray).size = 0 := rfl
        have hG : sub_Get.f 3000 ⟨#[]⟩ = some (getS ⟨#[]⟩) := by rw [sget_is (by omega) (by omega)]
        rw [hp, hR, if_neg (show ¬ ((false != false) = true) by decide)]
        show (sub_Get.f 3000 ⟨#[]⟩).bind _ = some true
        rw [hG, Option.bind_some, if_neg (show ¬ (false = true) by decide)]
        exact back1 (k := 2999) (by omega) (by omega)
  unfold roadbooklaw19_SubBack.f
  rw [few_is (by omega), Option.bind_some]
  by_cases h : (decide (l.length ≤ 60) && l.all fun y => decide (y.f1.size ≤ 300)) = true
  · rw [if_pos h]
    exact go _ (fun h2 => ⟨by simp at h2; omega, few_of h⟩)
  · rw [if_neg h]
    exact go _ (by simp)
end Go.Proofs.Ytjgnpggpgkkknaa.Pure
