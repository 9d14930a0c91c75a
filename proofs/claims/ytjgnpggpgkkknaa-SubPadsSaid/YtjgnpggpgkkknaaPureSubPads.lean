/- Padding ahead, behind and between Subs changes nothing: the pure statement, for all arguments (no condition beyond the law's own guards). -/
import Derived.Test.YtjgnpggpgkkknaaPr26
import Derived.Test.YtjgnpggpgkkknaaPuBase
import Derived.Test.YtjgnpggpgkkknaaPuCut
import Derived.Test.YtjgnpggpgkkknaaPuFrame
import Derived.Test.YtjgnpggpgkkknaaPuFrameBk
import Derived.Test.YtjgnpggpgkkknaaPuOctet
import Derived.Test.YtjgnpggpgkkknaaPuSub
import Derived.Test.YtjgnpggpgkkknaaPuSubAw
import Derived.Test.YtjgnpggpgkkknaaPuSubBk
import Derived.KernelRfl
import Derived.OpenShut
namespace Go.Proofs.Ytjgnpggpgkkknaa.Pure
open Go.RowKit Go.Proofs.Ytjgnpggpgkkknaa.Pr Go.Proofs.YtjgnpggpgkkknaaW.PrintWords Go.Proofs.YtjgnpggpgkkknaaW.PrintLast Go.Proofs.YtjgnpggpgkkknaaW.PrintMore
set_option linter.unusedVariables false
theorem few_of {l : List Sub} (h : (decide (l.length ≤ 60) && l.all fun y => decide (y.f1.size ≤ 300)) = true) : l.length ≤ 60 ∧ Few l := by
  rw [Bool.and_eq_true] at h
  have h1 := of_decide_eq_true h.1
  refine ⟨h1, by omega, fun y hy => ?_⟩
  have := List.all_eq_true.mp h.2 y hy
  simpa using this
def pads : List ByteArray := [⟨#[]⟩, ⟨#[0]⟩, ⟨#[1, 0]⟩, ⟨#[1, 2, 0, 0]⟩, ⟨#[0, 0]⟩]
theorem pad_holds : ∀ v : Int, 0 ≤ v → v < 5 → Holds (rdOf ByteArray.empty pads v) [] ∧ (rdOf ByteArray.empty pads v).size ≤ 4 := by
  intro v h0 h5
  have : v = 0 ∨ v = 1 ∨ v = 2 ∨ v = 3 ∨ v = 4 := by omega
  rcases this with rfl | rfl | rfl | rfl | rfl
  · exact ⟨holds_nil, by decide⟩
  · exact ⟨fun base => ⟨[⟨0, base + 0, ⟨#[]⟩⟩], by kernel_rfl, rfl, rfl⟩, by decide⟩
  · exact ⟨fun base => ⟨[⟨1, base + 0, ⟨#[]⟩⟩], by kernel_rfl, rfl, rfl⟩, by decide⟩
  · exact ⟨fun base => ⟨[⟨1, base + 0, ⟨#[0, 0]⟩⟩], by kernel_rfl, rfl, rfl⟩, by decide⟩
  · exact ⟨fun base => ⟨[⟨0, base + 0, ⟨#[]⟩⟩, ⟨0, base + 1, ⟨#[]⟩⟩], by kernel_rfl, rfl, rfl⟩, by decide⟩
theorem u8_rng {x : Int} (h : (Lit.int .u8 x).wf = true) : 0 ≤ x ∧ x ≤ 255 := by
  simp only [Lit.wf, IntKind.min, IntKind.max, IntKind.bits, IntKind.signed] at h
  simp at h
  omega
theorem pads_loop {l : List Sub} {ps : List Int} (hf : Few l) (h1 : l.length ≤ 60) (hR : rightB l = true) (hps : ∀ x ∈ ps, 0 ≤ x ∧ x ≤ 255) (h2 : ps.length ≤ 60) : ∀ (d k i : Nat) (b : ByteArray), l.length + 1 - i = d → i ≤ l.length + 1 → 2 * d + 1000000 ≤ k → b.size ≤ 261 * i → Holds b (l.take i) →
    roadbooklaw19_SubPads.l0 k l ps b i = some true := by
  obtain ⟨hr, hsum⟩ := right_split hR
  intro d
  induction d with
  | zero =>
    intro k i b hd hi hk hb hH
    obtain ⟨k, rfl⟩ : ∃ m, k = m + 1 := ⟨k - 1, by omega⟩
    rw [List.take_of_length_le (by omega)] at hH
    rw [roadbooklaw19_SubPads.l0, if_neg (by omega), sget_is (by omega) (by omega), get_holds hH (by omega), Option.bind_some, awake19 (by omega), Option.bind_some, if_pos rfl, if_pos rfl, if_pos rfl, same19 (by omega) (by omega)]
    rfl
  | succ d ih =>
    intro k i b hd hi hk hb hH
    obtain ⟨k, rfl⟩ : ∃ m, k = m + 2 := ⟨k - 2, by omega⟩
    have step : ∀ b' : ByteArray, b'.size ≤ 261 * i + 4 → Holds b' (l.take i) → roadbooklaw19_SubPads.j2 (k + 1) l ps b' i = some true := by
      intro b' hb' hH'
      have e : ((i + 1 : Nat) : Int) = (i : Int) + 1 := by omega
      rw [roadbooklaw19_SubPads.j2, w64 (x := (i : Int) + 1) (by omega) (by omega)]
      by_cases hlt : i < l.length
      · have hy := hr l[i] (List.getElem_mem hlt)
        have hcut : (l.take ((i : Int) + 1).toNat).drop ((i : Int)).toNat = [l[i]] := by
          rw [show ((i : Int) + 1).toNat = i + 1 by omega, show ((i : Int)).toNat = i by omega, List.take_succ_eq_append_getElem hlt, List.drop_append_of_le_length (by simp; omega), List.drop_eq_nil_of_le (by simp; omega)]
          rfl
        have hone : rightB [l[i]] = true := by
          have : sumN [l[i]] ≤ 200 := by
            have h3 : sumN l = sumN (l.take i) + sumN (l.drop i) := by rw [← sumN_append, List.take_append_drop]
            rw [List.drop_eq_getElem_cons hlt] at h3
            have h4 := (sumN_rng (l := l.take i) ⟨by simp; omega, fun y hy => hf.2 y (List.mem_of_mem_take hy)⟩).1
            have h5 := (sumN_rng (few_drop hf (i + 1))).1
            simp only [sumN] at h3 ⊢
            omega
          unfold rightB
          rw [allR_to (l := [l[i]]) (fun y h => by simp at h; subst h; exact hy), decide_eq_true this]; rfl
        have hp : putS [l[i]] = (strOfNums [l[i].f0, l[i].f1.size] ++ l[i].f1, true) := by
          unfold putS
          rw [if_pos hone, encS, encS, append_empty]
        have hf1 : Few [l[i]] := ⟨by simp, fun y h => by simp at h; subst h; exact hf.2 _ (List.getElem_mem hlt)⟩
        have hz := sz_tput l[i]
        rw [if_pos (by omega), if_pos (by omega), if_pos (by omega), if_pos (by omega), hcut, sput_is hf1 (by simp) (by simp; omega), hp, Option.bind_some, if_pos rfl, if_pos (by show _ + (strOfNums [l[i].f0, (l[i].f1.size : Int)] ++ l[i].f1).size ≤ _; omega), ← e]
        exact ih k (i + 1) _ (by omega) (by omega) (by omega) (by rw [size_append, hz]; omega) (by rw [List.take_succ_eq_append_getElem hlt]; exact holds_join hH' (holds_one hy))
      · rw [if_neg (by omega), ← e]
        exact ih k (i + 1) _ (by omega) (by omega) (by omega) (by omega) (by rw [List.take_of_length_le (by omega)] at hH' ⊢; exact hH')
    rw [roadbooklaw19_SubPads.l0, if_pos (by omega)]
    by_cases hp : i < ps.length
    · have hv : rd ps (i : Int) = ps[i] := by unfold rd; simp [hp]
      have hx := hps ps[i] (List.getElem_mem hp)
      have hm : Int.tmod ps[i] 5 = ps[i] % 5 := Int.tmod_eq_emod_of_nonneg (by omega)
      obtain ⟨hH2, hz2⟩ := pad_holds (ps[i] % 5) (by omega) (by omega)
      rw [if_pos (by omega), if_pos (by omega), Option.bind_some, hv, hm, w64 (by omega) (by omega), if_pos (by omega)]
      show (if ps[i] % 5 < ((pads.length : Nat) : Int) then (if b.size + (rdOf ByteArray.empty pads (ps[i] % 5)).size ≤ 9223372036854775807 then roadbooklaw19_SubPads.j2 (k + 1) l ps (b ++ rdOf ByteArray.empty pads (ps[i] % 5)) (i : Int) else none) else none) = some true
      rw [if_pos (show ps[i] % 5 < ((pads.length : Nat) : Int) by simp [pads]; omega), if_pos (by omega)]
      have := holds_join hH hH2
      rw [List.append_nil] at this
      exact step _ (by rw [size_append]; omega) this
    · rw [if_neg (by omega)]
      exact step _ (by omega) hH
theorem SubPads : roadbooklaw19_SubPads.Pure := by
  intro l ps hl hps
  refine ⟨1001003, ?_⟩
  have go : ∀ b, (b = false → ps.length ≤ 60 ∧ l.length ≤ 60 ∧ Few l ∧ rightB l = true) → roadbooklaw19_SubPads.j0 1001003 l ps b = some true := by
    intro b hb
    rw [roadbooklaw19_SubPads.j0]
    by_cases h : b = true
    · rw [if_pos h, awake19 (by omega)]; rfl
    · obtain ⟨h1, h2, h3, h4⟩ := hb (by simpa using h)
      rw [if_neg h]
      exact pads_loop h3 h2 h4 (fun x hx => u8_rng (hps.2 x hx)) h1 _ _ 0 _ rfl (by omega) (by omega) (by decide) holds_nil
  unfold roadbooklaw19_SubPads.f
  rw [few_is (by omega), Option.bind_some]
  by_cases h : (decide (l.length ≤ 60) && l.all fun y => decide (y.f1.size ≤ 300)) = true
  · obtain ⟨h1, h2⟩ := few_of h
    rw [if_pos h, right_is h2 (by omega), Option.bind_some]
    by_cases hR : rightB l = true
    · rw [if_pos hR]
      exact go _ (fun h3 => ⟨by simp at h3; omega, h1, h2, hR⟩)
    · rw [if_neg hR]
      exact go _ (by simp)
  · rw [if_neg h]
    exact go _ (by simp)
end Go.Proofs.Ytjgnpggpgkkknaa.Pure
