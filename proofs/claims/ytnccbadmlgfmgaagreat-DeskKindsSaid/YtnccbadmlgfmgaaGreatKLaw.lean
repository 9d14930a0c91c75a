/- The law's own walks: the document's example; the Kind of any word. -/
import Derived.Test.YtnccbadmlgfmgaaGreatKDesk
set_option linter.unusedVariables false
set_option linter.unusedSimpArgs false
set_option maxRecDepth 100000
namespace Go.VI
open Go Go.Proofs Go.RowKit
def T_bool : Ty τ := ⟨Bool, false, [.bool], fun x => (x, ()), fun y => y.1, fun _ => rfl, .inr ⟨_, rfl⟩⟩
theorem pc_boolK {w : World} {I : Nat → Nat → Prop} {b : Bool} {v : Value} (h : PC Tryz.prog U w I (.bool b) v) : v = .bool b := by
  cases h with
  | bool _ => rfl
  | nil _ e f h1 h2 => cases h1
  | emp _ e p cap h1 => cases h1
  | row _ e css f b off cap h1 => cases h1
end Go.VI
namespace Go.Proofs
open Go.RowKit Go.Maps
theorem kind_ack : Go.VP.kindW [97, 99, 107] = 8 := by decide
set_option maxHeartbeats 4000000 in
theorem Tryz.awake30_w (w : World) :
    Calls Tryz.prog 5 #[] w fun e w' => e = .returned (.bool true) ∧ Below w.heap.size w w' := by
  go_enter Tryz.func5, Tryz.ntmps5
  go_wp2_with fail
  refine (Tryz.new_d w.heap.size w (Nat.le_refl _)).mono ?_
  rintro e w1 ⟨rfl, h1, hb1⟩
  have H1 := Lib.hid h1
  have HB1 := Lib.hid hb1
  clear h1 hb1
  go_wp2_with fail
  refine (Tryz.close_d H1.out (.inl rfl)).mono ?_
  rintro e w2 ⟨rfl, h2, hb2⟩
  have H2 := Lib.hid h2
  have HB2 := Lib.hid (HB1.out.trans hb2)
  clear h2 hb2 H1 HB1
  go_wp2_with fail
  refine (Tryz.close_d H2.out (.inr rfl)).mono ?_
  rintro e w3 ⟨rfl, h3, hb3⟩
  have H3 := Lib.hid h3
  have HB3 := Lib.hid (HB2.out.trans hb3)
  have c4 : w3.cell? ⟨w.heap.size, 4, none⟩ = some (.int .u32 1) := by
    obtain ⟨c2, c5, c6, c7, hr⟩ := h3.row
    exact Lib.cell_of_heap hr 4
  have C4 := Lib.hid c4
  clear h3 hb3 H2 HB2 c4
  go_wp2_with fail
  refine (Tryz.parse_shut w.heap.size 4 ⟨#[42, 2, 0, 0]⟩ w3 C4.out).mono ?_
  rintro e w4 ⟨rfl, rfl⟩
  clear C4
  go_wp2_with fail
  refine (Tryz.kind_d [97, 99, 107] (by decide) H3.out).mono ?_
  rintro e w5 ⟨rfl, M, h5, hb5⟩
  have HB5 := Lib.hid (HB3.out.trans hb5)
  rw [kind_ack]
  clear h5 hb5 H3 HB3
  go_wp2_with fail
  go_ret
  exact ⟨rfl, HB5.out⟩
set_option maxHeartbeats 4000000 in
theorem Tryz.deskKinds_w (s : List UInt8) (c : Bool) (w : World) (hs : s.length ≤ 140737488351232) :
    Calls Tryz.prog 3 #[.string ⟨⟨s⟩⟩, .bool c] w fun e w' => e = .returned (.bool true) ∧ Below w.heap.size w w' := by
  obtain ⟨S, hS⟩ : ∃ S : ByteArray, S = ⟨⟨s⟩⟩ := ⟨_, rfl⟩
  have hSs : S.size = s.length := by rw [hS]; rfl
  rw [← hS]
  have HS := Lib.hid hS
  clear hS
  go_enter Tryz.func3, Tryz.ntmps3
  go_wp2_with fail
  refine (Tryz.new_d w.heap.size w (Nat.le_refl _)).mono ?_
  rintro e w1 ⟨rfl, h1, hb1⟩
  have H1 := Lib.hid h1
  have HB1 := Lib.hid hb1
  clear h1 hb1
  by_cases hl : 100 < S.size
  · go_wp2_with fail
    refine (Tryz.awake30_w w1).mono ?_
    rintro e w2 ⟨rfl, hb2⟩
    have HB2 := Lib.hid (HB1.out.trans (hb2.mono (by have := HB1.out.size; exact this)))
    clear hb2 H1 HB1
    go_wp2_with fail
    go_ret
    exact ⟨rfl, HB2.out⟩
  · cases c
    all_goals go_wp2_with fail
    · have H2 := H1
      have HB2 := HB1
      clear H1 HB1
      refine (Tryz.awake30_w _).mono ?_
      rintro e w3 ⟨rfl, hb3⟩
      have H3 := Lib.hid (H2.out.below hb3)
      have HB3 := Lib.hid (HB2.out.trans (hb3.mono HB2.out.size))
      clear hb3 H2 HB2
      go_wp2_with fail
      have hk := Tryz.kind_d s (by omega) H3.out
      rw [← HS.out] at hk
      refine hk.mono ?_
      clear hk
      rintro e w4 ⟨rfl, M, h4, hb4⟩
      have H4 := Lib.hid h4
      have HB4 := Lib.hid (HB3.out.trans hb4)
      clear h4 hb4 H3 HB3
      go_wp2_with fail
      have hk := Tryz.kind30_w s w4 (by omega) trivial (Nat.zero_le _)
      rw [← HS.out] at hk
      refine hk.mono ?_
      clear hk
      rintro e w5 ⟨rfl, hb5⟩
      have H5 := Lib.hid (H4.out.below hb5)
      have HB5 := Lib.hid (HB4.out.trans (hb5.mono HB4.out.size))
      clear hb5 H4 HB4
      go_wp2_with fail
      have hk := Tryz.kind_d s (by omega) H5.out
      rw [← HS.out] at hk
      refine hk.mono ?_
      clear hk
      rintro e w6 ⟨rfl, M2, h6, hb6⟩
      have H6 := Lib.hid h6
      have HB6 := Lib.hid (HB5.out.trans hb6)
      clear h6 hb6 H5 HB5
      go_wp2_with fail
      have hk := Tryz.kind30_w s w6 (by omega) trivial (Nat.zero_le _)
      rw [← HS.out] at hk
      refine hk.mono ?_
      clear hk
      rintro e w7 ⟨rfl, hb7⟩
      have HB7 := Lib.hid (HB6.out.trans (hb7.mono HB6.out.size))
      clear hb7 H6 HB6
      go_wp2_with fail
      go_ret
      exact ⟨rfl, HB7.out⟩
    · refine (Tryz.close_d H1.out (.inl rfl)).mono ?_
      rintro e w2 ⟨rfl, h2, hb2⟩
      have H2 := Lib.hid h2
      have HB2 := Lib.hid (HB1.out.trans hb2)
      clear h2 hb2 H1 HB1
      go_wp2_with fail
      refine (Tryz.awake30_w _).mono ?_
      rintro e w3 ⟨rfl, hb3⟩
      have H3 := Lib.hid (H2.out.below hb3)
      have HB3 := Lib.hid (HB2.out.trans (hb3.mono HB2.out.size))
      clear hb3 H2 HB2
      go_wp2_with fail
      have hk := Tryz.kind_d s (by omega) H3.out
      rw [← HS.out] at hk
      refine hk.mono ?_
      clear hk
      rintro e w4 ⟨rfl, M, h4, hb4⟩
      have H4 := Lib.hid h4
      have HB4 := Lib.hid (HB3.out.trans hb4)
      clear h4 hb4 H3 HB3
      go_wp2_with fail
      have hk := Tryz.kind30_w s w4 (by omega) trivial (Nat.zero_le _)
      rw [← HS.out] at hk
      refine hk.mono ?_
      clear hk
      rintro e w5 ⟨rfl, hb5⟩
      have H5 := Lib.hid (H4.out.below hb5)
      have HB5 := Lib.hid (HB4.out.trans (hb5.mono HB4.out.size))
      clear hb5 H4 HB4
      go_wp2_with fail
      have hk := Tryz.kind_d s (by omega) H5.out
      rw [← HS.out] at hk
      refine hk.mono ?_
      clear hk
      rintro e w6 ⟨rfl, M2, h6, hb6⟩
      have H6 := Lib.hid h6
      have HB6 := Lib.hid (HB5.out.trans hb6)
      clear h6 hb6 H5 HB5
      go_wp2_with fail
      have hk := Tryz.kind30_w s w6 (by omega) trivial (Nat.zero_le _)
      rw [← HS.out] at hk
      refine hk.mono ?_
      clear hk
      rintro e w7 ⟨rfl, hb7⟩
      have HB7 := Lib.hid (HB6.out.trans (hb7.mono HB6.out.size))
      clear hb7 H6 HB6
      go_wp2_with fail
      go_ret
      exact ⟨rfl, HB7.out⟩
end Go.Proofs
