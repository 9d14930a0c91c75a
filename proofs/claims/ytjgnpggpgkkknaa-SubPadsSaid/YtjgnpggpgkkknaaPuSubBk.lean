/- Subs come back of their bytes, with padding anywhere too. -/
import Derived.Test.YtjgnpggpgkkknaaPr14
import Derived.Test.YtjgnpggpgkkknaaPuBase
import Derived.Test.YtjgnpggpgkkknaaPuCut
import Derived.Test.YtjgnpggpgkkknaaPuFrame
import Derived.Test.YtjgnpggpgkkknaaPuFrameBk
import Derived.Test.YtjgnpggpgkkknaaPuOctet
import Derived.Test.YtjgnpggpgkkknaaPuSub
import Derived.KernelRfl
namespace Go.Proofs.Ytjgnpggpgkkknaa.Pure
open Go.RowKit Go.Proofs.Ytjgnpggpgkkknaa.Pr Go.Proofs.YtjgnpggpgkkknaaW.PrintWords Go.Proofs.YtjgnpggpgkkknaaW.PrintLast Go.Proofs.YtjgnpggpgkkknaaW.PrintMore
set_option linter.unusedVariables false
set_option linter.unusedSimpArgs false
/-- The bytes b are TLVs of which the Subs l are kept, and none must be known. -/
def Holds (b : ByteArray) (l : List Sub) : Prop := ∀ base, ∃ tl, splitF b base = (tl, 0, 0) ∧ keep tl = l ∧ free tl = true
theorem holds_nil : Holds ⟨#[]⟩ [] := fun base => ⟨[], rfl, rfl, rfl⟩
theorem holds_join {a b : ByteArray} {l m : List Sub} (ha : Holds a l) (hb : Holds b m) : Holds (a ++ b) (l ++ m) := by
  intro base
  obtain ⟨x, h1, h2, h3⟩ := ha base
  obtain ⟨y, g1, g2, g3⟩ := hb (base + a.size)
  refine ⟨x ++ y, ?_, by rw [keep_append, h2, g2], by rw [free_append, h3, g3]; rfl⟩
  rw [splitF_join a b base h1, g1]
  rfl
theorem bt_nums0 {a b : Int} (h : (0 ≤ a ∧ a < 256) ∧ (0 ≤ b ∧ b < 256)) : bt (strOfNums [a, b]) 0 = a ∧ bt (strOfNums [a, b]) 1 = b := by
  have hr : ∀ x ∈ [a, b], 0 ≤ x ∧ x < 256 := by intro x hx; simp at hx; omega
  exact ⟨by have := bt_nums _ hr 0; simpa using this, by have := bt_nums _ hr 1; simpa using this⟩
theorem split_one {t : Int} {d : ByteArray} (ht : 1 ≤ t ∧ t ≤ 255) (hd : d.size ≤ 255) (base : Int) : splitF (strOfNums [t, d.size] ++ d) base = ([⟨t, base + 0, d⟩], 0, 0) := by
  have hz : (strOfNums [t, (d.size : Int)]).size = 2 := by rw [size_nums]; rfl
  have hs : (strOfNums [t, (d.size : Int)] ++ d).size = d.size + 1 + 1 := by rw [size_append, hz]; omega
  obtain ⟨n0, n1⟩ := bt_nums0 (a := t) (b := (d.size : Int)) ⟨by omega, by omega⟩
  have b0 : bt (strOfNums [t, (d.size : Int)] ++ d) 0 = t := by rw [bt_left (by omega) (by omega), n0]
  have b1 : bt (strOfNums [t, (d.size : Int)] ++ d) (0 + 1) = d.size := by rw [bt_left (by omega) (by omega)]; exact n1
  have hc : (strOfNums [t, (d.size : Int)] ++ d).extract 2 (2 + d.size) = d := by
    rw [cut_right _ _ _ _ (by omega) (by omega) (by omega), hz, Nat.sub_self, Nat.add_sub_cancel_left, ext_all]
  unfold splitF
  rw [hs, splitG, if_pos (by omega), b0, if_neg (by omega), b1, if_neg (by omega), show ((0 : Int) + 2).toNat = 2 by omega, show ((0 : Int) + 2 + (d.size : Int)).toNat = 2 + d.size by omega, hc, splitG, if_neg (by omega)]
  rfl
theorem holds_one {y : Sub} (h : 2 ≤ y.f0 ∧ y.f0 ≤ 127 ∧ y.f1.size ≤ 255) : Holds (strOfNums [y.f0, y.f1.size] ++ y.f1) [y] := by
  intro base
  refine ⟨_, split_one (by omega) h.2.2 base, ?_, ?_⟩
  · rw [keep_cons, if_pos ⟨h.1, h.2.1⟩]; rfl
  · simp [free]; omega
theorem holds_enc : ∀ {l : List Sub}, AllR l → Holds (encS l) l := by
  intro l
  induction l with
  | nil => intro _; exact holds_nil
  | cons y l ih =>
    intro h
    exact holds_join (holds_one (h y (List.mem_cons_self ..))) (ih fun z hz => h z (List.mem_cons_of_mem _ hz))
theorem get_holds {b : ByteArray} {l : List Sub} (h : Holds b l) (h2 : sumN l ≤ 200) : getS b = (l, true, 0) := by
  obtain ⟨tl, e, h3, h4⟩ := h 0
  unfold getS
  rw [e, if_pos rfl, h3, h4]
  unfold endS
  rw [if_neg (by omega)]
theorem right_split {l : List Sub} (h : rightB l = true) : AllR l ∧ sumN l ≤ 200 := by
  unfold rightB at h
  rw [Bool.and_eq_true] at h
  exact ⟨allR_of h.1, of_decide_eq_true h.2⟩
theorem size_enc : ∀ (l : List Sub), ((encS l).size : Int) = sumN l := by
  intro l
  induction l with
  | nil => rfl
  | cons y l ih => rw [encS, sumN, size_append, sz_tput]; omega
theorem chain_sum {s : ByteArray} {base : Int} : ∀ (l : List Tlv) (p : Int), Chain s base p l → sumN (keep l) ≤ s.size - p := by
  intro l
  induction l with
  | nil => intro p h; simp only [Chain] at h; simp [keep, sumN]; omega
  | cons t l ih =>
    intro p h
    obtain ⟨_, hp, h⟩ := h
    rw [keep_cons]
    rcases h with ⟨h1, h2, _, _, h⟩ | ⟨_, _, h3, h2, h⟩
    · have := ih _ h
      rw [if_neg (by omega)]; omega
    · have hb := bt_nn s (p + 1)
      have := ih _ h
      have hz : (t.f2.size : Int) = bt s (p + 1) := by rw [h2, size_ext (by omega) (by omega)]; omega
      split
      · simp only [sumN]; omega
      · omega
theorem chain_keep {s : ByteArray} {base : Int} {l : List Tlv} {p : Int} (h : Chain s base p l) : AllR (keep l) := by
  have hs := chain_short l p h
  intro y hy
  simp only [keep, List.mem_map, List.mem_filter] at hy
  obtain ⟨t, ⟨ht, h2⟩, rfl⟩ := hy
  have h2 := of_decide_eq_true h2
  exact ⟨h2.1, h2.2, hs t ht⟩
end Go.Proofs.Ytjgnpggpgkkknaa.Pure
