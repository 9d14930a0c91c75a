/- A body comes back of its datagram, what is behind is the trailer, and TLVs, put one behind the other, are the bytes that they were split of: the pure statement, for all bytes (no condition beyond the law's own guard). -/
import Derived.Test.YtjgnpggpgkkknaaPr29
import Derived.Test.YtjgnpggpgkkknaaPuBase
import Derived.Test.YtjgnpggpgkkknaaPuCut
import Derived.Test.YtjgnpggpgkkknaaPuFrame
import Derived.Test.YtjgnpggpgkkknaaPuFrameAw
import Derived.Test.YtjgnpggpgkkknaaPuFrameBk
import Derived.Test.YtjgnpggpgkkknaaPuOctet
namespace Go.Proofs.Ytjgnpggpgkkknaa.Pure
open Go.RowKit Go.Proofs.Ytjgnpggpgkkknaa.Pr Go.Proofs.YtjgnpggpgkkknaaW.PrintWords Go.Proofs.YtjgnpggpgkkknaaW.PrintLast Go.Proofs.YtjgnpggpgkkknaaW.PrintMore
set_option linter.unusedVariables false
set_option linter.unusedSimpArgs false
theorem wrapped {s t : ByteArray} (hs : s.size ≤ 65531) (ht : s.size + t.size ≤ 65531) : bodyF (((⟨#[42, 2]⟩ ++ B2 s.size) ++ s) ++ t) = (s, 0, 0) ∧ (((⟨#[42, 2]⟩ ++ B2 s.size) ++ s) ++ t).extract (4 + N2 (((⟨#[42, 2]⟩ ++ B2 s.size) ++ s) ++ t) 2).toNat (((⟨#[42, 2]⟩ ++ B2 s.size) ++ s) ++ t).size = t := by
  have z2 := b2z (s.size : Int)
  have zh : ((⟨#[42, 2]⟩ : ByteArray) ++ B2 s.size).size = 4 := by rw [size_append, z2, sz42]
  have zw : (((⟨#[42, 2]⟩ : ByteArray) ++ B2 s.size) ++ s).size = 4 + s.size := by rw [size_append, zh]
  have zd : ((((⟨#[42, 2]⟩ : ByteArray) ++ B2 s.size) ++ s) ++ t).size = 4 + s.size + t.size := by rw [size_append, zw]
  have b0 : bt ((((⟨#[42, 2]⟩ : ByteArray) ++ B2 s.size) ++ s) ++ t) 0 = 42 := by
    rw [bt_left (by omega) (by omega), bt_left (by omega) (by omega), bt_left (by omega) (by rw [sz42]; omega)]; rfl
  have b1 : bt ((((⟨#[42, 2]⟩ : ByteArray) ++ B2 s.size) ++ s) ++ t) 1 = 2 := by
    rw [bt_left (by omega) (by omega), bt_left (by omega) (by omega), bt_left (by omega) (by rw [sz42]; omega)]; rfl
  have e2 : ((((⟨#[42, 2]⟩ : ByteArray) ++ B2 s.size) ++ s) ++ t).extract 2 (2 + 2) = B2 s.size := by
    rw [cut_in _ _ _ _ (by omega) (by omega), cut_in _ _ _ _ (by omega) (by omega), cut_right _ _ _ _ (by rw [sz42]; omega) (by omega) (by omega), sz42, ← z2, Nat.sub_self]
    have := cut_left (B2 (s.size : Int)) ⟨#[]⟩
    rw [append_empty] at this
    rw [Nat.add_sub_cancel]
    exact this
  have n2 := n2_of (s := (((⟨#[42, 2]⟩ : ByteArray) ++ B2 s.size) ++ s) ++ t) (p := 2) (n := s.size) (by omega) (by omega) e2
  rw [show ((2 : Nat) : Int) = 2 from rfl] at n2
  constructor
  · unfold bodyF
    rw [if_neg (by omega), if_neg (by omega), if_pos b0, if_pos b1, n2, if_neg (by omega), show (4 + (s.size : Int)).toNat = 4 + s.size by omega]
    rw [cut_in _ _ _ _ (by omega) (by omega), cut_right _ _ _ _ (by omega) (by omega) (by omega), zh, Nat.sub_self, Nat.add_sub_cancel_left, ext_all]
  · rw [n2, show (4 + (s.size : Int)).toNat = 4 + s.size by omega, cut_right _ _ _ _ (by omega) (by omega) (by omega), zw, zd, Nat.sub_self, Nat.add_sub_cancel_left, ext_all]
theorem ext_none (s : ByteArray) (p : Nat) (h : p ≤ s.size) : s.extract p p = ⟨#[]⟩ := eq_empty (by rw [size_ext (by omega) h]; omega)
theorem ext_one {s : ByteArray} {p : Nat} (h : p + 1 ≤ s.size) : s.extract p (p + 1) = strOfNums [bt s p] := by
  have hb := bt_nn s p; have hl := bt_lt s p
  have hr : ∀ x ∈ [bt s p], 0 ≤ x ∧ x < 256 := by intro x hx; simp at hx; omega
  apply ext_bt
  · rw [size_ext (by omega) h, size_nums]; simp
  · intro i hi
    rw [size_ext (by omega) h] at hi
    rw [bt_extract (by omega) (by omega) h, bt_nums _ hr]
    obtain rfl : i = 0 := by omega
    simp
theorem ext_two {s : ByteArray} {p : Nat} (h : p + 2 ≤ s.size) : s.extract p (p + 2) = strOfNums [bt s p, bt s (p + 1)] := by
  rw [← ext_join s p (p + 1) (p + 2) (by omega) (by omega) h, ext_one (by omega), show p + 2 = (p + 1) + 1 by omega, ext_one (by omega), ← nums_append]
  rfl
theorem back_loop {s : ByteArray} (hs : s.size ≤ 3000) (L : List Tlv) (hL : L.length ≤ s.size) : ∀ (d : Nat) (k i : Nat) (p : Nat), L.length - i = d → i ≤ L.length → p ≤ s.size → Chain s 4 p (L.drop i) → d + 100 ≤ k →
    roadbooklaw18_FrameBack.l0 k s L (s.extract 0 p) i = some true := by
  intro d
  induction d with
  | zero =>
    intro k i p hd hi hp hc hk
    obtain ⟨k, rfl⟩ : ∃ m, k = m + 1 := ⟨k - 1, by omega⟩
    have : L.drop i = [] := List.drop_eq_nil_of_le (by omega)
    rw [this] at hc
    simp only [Chain] at hc
    have : p = s.size := by omega
    subst this
    rw [roadbooklaw18_FrameBack.l0, if_neg (by omega), awake18 (by omega), Option.bind_some, if_pos rfl, ext_all, beq_self_eq_true]
  | succ d ih =>
    intro k i p hd hi hp hc hk
    obtain ⟨k, rfl⟩ : ∃ m, k = m + 1 := ⟨k - 1, by omega⟩
    have hlt : i < L.length := by omega
    rw [List.drop_eq_getElem_cons hlt] at hc
    have hr : rd_T47 L (i : Int) = L[i] := by
      unfold rd_T47
      simp [hlt]
    have hz : (s.extract 0 p).size = p := by rw [size_ext (by omega) hp]; omega
    simp only [Chain] at hc
    obtain ⟨h1, h2, hc⟩ := hc
    rw [roadbooklaw18_FrameBack.l0, if_pos (by omega), if_pos (by omega), hr, hz, w64 (x := 4 + (p : Int)) (by omega) (by omega), if_pos h1, tput_is, Option.bind_some, w64 (x := (i : Int) + 1) (by omega) (by omega)]
    rcases hc with ⟨h3, h4, h5, h6, hc⟩ | ⟨h3, h4, h5, h6, hc⟩
    · rw [if_pos h3, h4, if_pos (by rw [ByteArray.toList_eq]), if_pos (by omega)]
      have e : s.extract 0 p ++ (⟨#[0]⟩ : ByteArray) = s.extract 0 (p + 1) := by
        rw [← ext_join s 0 p (p + 1) (by omega) (by omega) (by omega), ext_one (by omega), h6]; rfl
      rw [e]
      exact ih k (i + 1) (p + 1) (by omega) (by omega) (by omega) hc (by omega)
    · rw [if_neg h3]
      have hb := bt_nn s p; have hl := bt_lt s p
      have hb1 := bt_nn s (p + 1); have hl1 := bt_lt s (p + 1)
      have hn : ∃ n : Nat, bt s ((p : Int) + 1) = n := ⟨(bt s (p + 1)).toNat, by omega⟩
      obtain ⟨n, hn⟩ := hn
      rw [hn] at hc h5 h6
      rw [show ((p : Int) + 2).toNat = p + 2 by omega, show ((p : Int) + 2 + (n : Int)).toNat = p + 2 + n by omega] at h6
      have hsz : L[i].f2.size = n := by rw [h6, size_ext (by omega) (by omega)]; omega
      have ht : tputF L[i].f0 L[i].f2 = (s.extract p (p + 2 + n), true) := by
        unfold tputF
        rw [if_pos ⟨by omega, by omega, by omega⟩, hsz, h4, ← hn, ← ext_two (by omega), h6, ext_join _ _ _ _ (by omega) (by omega) (by omega)]
      rw [ht]
      have hz2 : (s.extract p (p + 2 + n)).size = 2 + n := by rw [size_ext (by omega) (by omega)]; omega
      rw [if_pos rfl, if_pos (by rw [hz2]; omega), ext_join _ _ _ _ (by omega) (by omega) (by omega)]
      exact ih k (i + 1) (p + 2 + n) (by omega) (by omega) (by omega) hc (by omega)
theorem FrameBack : roadbooklaw18_FrameBack.Pure := by
  intro s t hs ht
  refine ⟨3200, ?_⟩
  have go : ∀ b, (b = false → (s.size : Int) ≤ 3000 ∧ (t.size : Int) ≤ 3000) → roadbooklaw18_FrameBack.j0 3200 s t b = some true := by
    intro b hb
    rw [roadbooklaw18_FrameBack.j0]
    by_cases h : b = true
    · rw [if_pos h, awake18 (by omega)]; rfl
    · obtain ⟨h1, h2⟩ := hb (by simpa using h)
      obtain ⟨e1, e2⟩ := wrapped (s := s) (t := t) (by omega) (by omega)
      have zw : ((((⟨#[42, 2]⟩ : ByteArray) ++ B2 s.size) ++ s)).size = 4 + s.size := by rw [size_append, size_append, b2z, sz42]
      have hw : wrapF s = (((⟨#[42, 2]⟩ : ByteArray) ++ B2 s.size) ++ s, true) := by unfold wrapF; rw [if_pos (by omega)]
      rw [if_neg h, wrap_is (by unfold Small; omega) (by omega), hw, Option.bind_some, if_pos (by show _ + _ ≤ _; rw [zw]; omega), body_is, e1, Option.bind_some, if_pos rfl, if_pos rfl, if_pos rfl, trailer_is (by rw [e1]), e2, Option.bind_some, show (t.toList != t.toList) = false by simp, roadbooklaw18_FrameBack.j1, if_neg (by decide), split_is (by unfold Small; omega) (by omega) (by omega), Option.bind_some]
      rcases splitF_cases s 4 with ⟨l, f1, f2, f3⟩ | ⟨x, f1, f2, f3⟩
      · rw [f1, if_pos rfl]
        have := back_loop (s := s) (by omega) l (by omega) l.length 3198 0 0 (by omega) (by omega) (by omega) f2 (by omega)
        rw [ext_none s 0 (by omega)] at this
        exact this
      · rw [f1, if_neg (show ¬ ((2 : Int) = 0) by decide), awake18 (by omega), Option.bind_some, if_pos rfl, w64 (by omega) (by omega)]
        show (if (0 : Int) = 0 then if 4 + x ≥ 4 then some (decide (4 + x < 4 + (s.size : Int))) else some false else some false) = some true
        rw [if_pos rfl, if_pos (by omega), decide_eq_true (by omega)]
  unfold roadbooklaw18_FrameBack.f
  split
  · exact go _ (by simp)
  · exact go _ (fun h => by simp at h; omega)
end Go.Proofs.Ytjgnpggpgkkknaa.Pure
