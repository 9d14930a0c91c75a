/- The document's example of layer 19; Few; Same of messages that have Subs alone. -/
import Derived.Test.YtjgnpggpgkkknaaPr13
import Derived.Test.YtjgnpggpgkkknaaPr14
import Derived.Test.YtjgnpggpgkkknaaPr16
import Derived.Test.YtjgnpggpgkkknaaPr17
import Derived.Test.YtjgnpggpgkkknaaPuBase
import Derived.Test.YtjgnpggpgkkknaaPuCut
import Derived.Test.YtjgnpggpgkkknaaPuFrame
import Derived.Test.YtjgnpggpgkkknaaPuFrameBk
import Derived.Test.YtjgnpggpgkkknaaPuOctet
import Derived.Test.YtjgnpggpgkkknaaPuSub
import Derived.KernelRfl
namespace Go.Proofs.Ytjgnpggpgkkknaa.Pure
open Go.RowKit Go.Proofs.Ytjgnpggpgkkknaa.Pr Go.Proofs.YtjgnpggpgkkknaaW.PrintWords Go.Proofs.YtjgnpggpgkkknaaW.PrintLast Go.Proofs.YtjgnpggpgkkknaaW.PrintMore
set_option linter.unusedVariables false
set_option linter.unusedSimpArgs false
theorem awake19 {k : Nat} (hk : 200 ≤ k) : roadbooklaw19_awake.f k = some true := by
  have e1 : getS ⟨#[0, 2, 1, 97, 1, 0]⟩ = ([⟨2, ⟨#[97]⟩⟩], true, 0) := by kernel_rfl
  have e2 : getS ⟨#[128, 0]⟩ = ([], false, 0) := by kernel_rfl
  have s1 : (⟨#[0, 2, 1, 97, 1, 0]⟩ : ByteArray).size = 6 := rfl
  have s2 : (⟨#[128, 0]⟩ : ByteArray).size = 2 := rfl
  unfold roadbooklaw19_awake.f
  rw [sget_is (by omega) (by omega), sget_is (by omega) (by omega), e1, e2]
  simp only [Option.bind_some, ByteArray.toList_eq]
  decide +kernel
theorem few_loop {l : List Sub} (h1 : l.length ≤ 60) : ∀ (d k i : Nat), l.length - i = d → i ≤ l.length → d < k →
    roadbookref07_Few.l1 k i 0 0 0 ⟨#[]⟩ 0 0 ⟨#[]⟩ 0 0 ⟨#[]⟩ 0 ⟨#[]⟩ 0 0 0 0 0 0 0 ⟨#[]⟩ ⟨#[]⟩ [] 0 ⟨#[]⟩ l = some ((l.drop i).all fun y => decide (y.f1.size ≤ 300)) := by
  intro d
  induction d with
  | zero =>
    intro k i hd hi hk
    obtain ⟨k, rfl⟩ : ∃ m, k = m + 1 := ⟨k - 1, by omega⟩
    rw [roadbookref07_Few.l1, if_neg (by omega), List.drop_eq_nil_of_le (by omega)]
    rfl
  | succ d ih =>
    intro k i hd hi hk
    obtain ⟨k, rfl⟩ : ∃ m, k = m + 1 := ⟨k - 1, by omega⟩
    have hlt : i < l.length := by omega
    have := ih k (i + 1) (by omega) (by omega) (by omega)
    rw [show ((i + 1 : Nat) : Int) = (i : Int) + 1 by omega] at this
    rw [roadbookref07_Few.l1, if_pos (by omega), if_pos (by omega), rd_sub hlt, w64 (x := (i : Int) + 1) (by omega) (by omega), this, List.drop_eq_getElem_cons hlt, List.all_cons]
    by_cases c : (l[i].f1.size : Int) > 300
    · rw [if_pos c, decide_eq_false (by omega), Bool.false_and]
    · rw [if_neg c, decide_eq_true (by omega), Bool.true_and]
theorem few_is {l : List Sub} {k : Nat} (hk : 100 ≤ k) : roadbooklaw19_few.f k l = some (decide (l.length ≤ 60) && l.all fun y => decide (y.f1.size ≤ 300)) := by
  obtain ⟨k, rfl⟩ : ∃ m, k = m + 3 := ⟨k - 3, by omega⟩
  have z : ((⟨#[]⟩ : ByteArray).size : Int) = 0 := rfl
  unfold roadbooklaw19_few.f roadbookref07_Few.f
  rw [if_neg (show ¬ ((([] : List S88).length : Int) > 300) by simp)]
  by_cases h : (l.length : Int) > 60
  · have hd : decide (l.length ≤ 60) = false := decide_eq_false (by omega)
    rw [if_pos h, hd, Bool.false_and, roadbookref07_Few.j0, if_pos rfl]
    rfl
  · have hd : decide (l.length ≤ 60) = true := decide_eq_true (by omega)
    rw [if_neg h, hd, Bool.true_and, z, w64 (x := (0 : Int) + 0) (by omega) (by omega), if_neg (by omega), if_neg (by omega), if_neg (by omega), roadbookref07_Few.j0, if_neg (by decide), roadbookref07_Few.l0, if_neg (by simp)]
    have := few_loop (l := l) (by omega) l.length (k + 1) 0 (by omega) (by omega) (by omega)
    rw [show ((0 : Nat) : Int) = 0 from rfl] at this
    rw [this]
    rfl
theorem subs_refl {l : List Sub} (h1 : l.length ≤ 1099511627776) : ∀ (d k i : Nat), l.length - i = d → i ≤ l.length → d < k → roadbookref07_subs.l0 k l l i = some true := by
  intro d
  induction d with
  | zero =>
    intro k i hd hi hk
    obtain ⟨k, rfl⟩ : ∃ m, k = m + 1 := ⟨k - 1, by omega⟩
    rw [roadbookref07_subs.l0, if_neg (by omega)]
  | succ d ih =>
    intro k i hd hi hk
    obtain ⟨k, rfl⟩ : ∃ m, k = m + 1 := ⟨k - 1, by omega⟩
    rw [roadbookref07_subs.l0, if_pos (by omega), if_pos (by omega), if_pos (by omega), if_neg (by simp), w64 (by omega) (by omega)]
    exact ih k (i + 1) (by omega) (by omega) (by omega)
theorem same19 {l : List Sub} (h1 : l.length ≤ 1099511627776) {k : Nat} (hk : l.length + 10 ≤ k) : roadbooklaw19_same.f k l l = some true := by
  obtain ⟨k, rfl⟩ : ∃ m, k = m + 3 := ⟨k - 3, by omega⟩
  unfold roadbooklaw19_same.f roadbookref07_Same.f
  simp only [if_true]
  rw [roadbookref07_Same.j0, if_neg (by decide)]
  simp only [if_true]
  rw [roadbookref07_Same.j1, if_neg (by simp)]
  unfold roadbookref07_dests.f
  rw [if_pos rfl, roadbookref07_dests.l0, if_neg (by simp), Option.bind_some, if_pos rfl]
  unfold roadbookref07_subs.f
  have := subs_refl h1 l.length (k + 1) 0 (by omega) (by omega) (by omega)
  rw [show ((0 : Nat) : Int) = 0 from rfl] at this
  rw [if_pos rfl, this]
  rfl
end Go.Proofs.Ytjgnpggpgkkknaa.Pure
