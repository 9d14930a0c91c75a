-- Written by wip/tools/xprint.py of this repo over the kit's printer, out of the translation. Lean checks it.
import Derived.Test.YtjgnpggpgkkknaaPr0
import Derived.Test.YtjgnpggpgkkknaaPr12
import Derived.Test.YtjgnpggpgkkknaaPr13
import Derived.Test.YtjgnpggpgkkknaaPr14
import Derived.Test.YtjgnpggpgkkknaaPr15
namespace Go.Proofs.Ytjgnpggpgkkknaa.Pr
open Go.RowKit Go.Proofs.YtjgnpggpgkkknaaW.PrintWords Go.Proofs.YtjgnpggpgkkknaaW.PrintLast Go.Proofs.YtjgnpggpgkkknaaW.PrintMore
attribute [local go_sem] max2_int min2_int max_two min_two max_three min_three max_four min_four   -- for this text's walks alone
set_option linter.unusedVariables false
set_option linter.unusedSimpArgs false

/-! ### roadbooklaw18_FrameBack: function 8 -/
mutual
def roadbooklaw18_FrameBack.j0 : Nat → ByteArray → ByteArray → Bool → Option (Bool)
  | 0, _, _, _ => none
  | k + 1, x0, x1, x24 => if x24 = true then ((roadbooklaw18_awake.f k).bind fun t390 => (some t390)) else ((frame_Wrap.f k x0).bind fun bt391 => (if bt391.1.size + x1.size ≤ 9223372036854775807 then ((frame_Body.f (bt391.1 ++ x1)).bind fun bt393 => (if bt391.2 = true then (if bt393.2.2 = 0 then (if bt393.1.toList = x0.toList then ((frame_Trailer.f (bt391.1 ++ x1)).bind fun t396 => (roadbooklaw18_FrameBack.j1 k x0 (t396.toList != x1.toList))) else (roadbooklaw18_FrameBack.j1 k x0 true)) else (roadbooklaw18_FrameBack.j1 k x0 true)) else (roadbooklaw18_FrameBack.j1 k x0 true))) else (none)))
def roadbooklaw18_FrameBack.j1 : Nat → ByteArray → Bool → Option (Bool)
  | 0, _, _ => none
  | k + 1, x0, x57 => if x57 = true then (some false) else ((frame_Split.f k x0 4).bind fun bt397 => (if bt397.2.2 = 0 then (roadbooklaw18_FrameBack.l0 k x0 bt397.1 (⟨#[]⟩ : ByteArray) 0) else ((roadbooklaw18_awake.f k).bind fun t402 => (if t402 = true then (if (bt397.1.length : Int) = 0 then (if bt397.2.1 ≥ 4 then (some (decide (bt397.2.1 < (wrap64 (4 + (x0.size : Int)))))) else (some false)) else (some false)) else (some false)))))
def roadbooklaw18_FrameBack.l0 : Nat → ByteArray → List (S47) → ByteArray → Int → Option (Bool)
  | 0, _, _, _, _ => none
  | k + 1, x0, x10, x13, x14 => if x14 < (x10.length : Int) then (if 0 ≤ x14 then (if ((rd_T47 x10 x14).f1) = (wrap64 (4 + (x13.size : Int))) then ((frame_Put.f ((rd_T47 x10 x14).f0) ((rd_T47 x10 x14).f2)).bind fun bt407 => (if ((rd_T47 x10 x14).f0) = 0 then (if (((rd_T47 x10 x14).f2).toList = ([] : List UInt8)) then (if x13.size + 1 ≤ 9223372036854775807 then (roadbooklaw18_FrameBack.l0 k x0 x10 (x13 ++ (⟨#[0]⟩ : ByteArray)) (wrap64 (x14 + 1))) else (none)) else (some false)) else (if bt407.2 = true then (if x13.size + bt407.1.size ≤ 9223372036854775807 then (roadbooklaw18_FrameBack.l0 k x0 x10 (x13 ++ bt407.1) (wrap64 (x14 + 1))) else (none)) else (some false)))) else (some false)) else (none)) else ((roadbooklaw18_awake.f k).bind fun t403 => (if t403 = true then (some (x13.toList == x0.toList)) else (some false)))
end
def roadbooklaw18_FrameBack.f (k : Nat) (a0 : ByteArray) (a1 : ByteArray) : Option (Bool) := if (a0.size : Int) > 3000 then (roadbooklaw18_FrameBack.j0 k a0 a1 true) else (roadbooklaw18_FrameBack.j0 k a0 a1 (decide ((a1.size : Int) > 3000)))
theorem roadbooklaw18_FrameBack.mono_l : ∀ k, (∀ y0 y1 y2, LeO (roadbooklaw18_FrameBack.j0 k y0 y1 y2) (roadbooklaw18_FrameBack.j0 (k + 1) y0 y1 y2)) ∧ (∀ y0 y1, LeO (roadbooklaw18_FrameBack.j1 k y0 y1) (roadbooklaw18_FrameBack.j1 (k + 1) y0 y1)) ∧ (∀ y0 y1 y2 y3, LeO (roadbooklaw18_FrameBack.l0 k y0 y1 y2 y3) (roadbooklaw18_FrameBack.l0 (k + 1) y0 y1 y2 y3))
  | 0 => ⟨fun _ _ _ r h => by simp [roadbooklaw18_FrameBack.j0] at h, fun _ _ r h => by simp [roadbooklaw18_FrameBack.j1] at h, fun _ _ _ _ r h => by simp [roadbooklaw18_FrameBack.l0] at h⟩
  | k + 1 => by
    obtain ⟨ih0, ih1, ih2⟩ := roadbooklaw18_FrameBack.mono_l k
    refine ⟨?_, ?_, ?_⟩
    · intro y0 y1 y2
      unfold roadbooklaw18_FrameBack.j0
      repeat' first
      | (with_reducible exact ih0 _ _ _)
      | (with_reducible exact ih1 _ _)
      | (with_reducible exact ih2 _ _ _ _)
      | (with_reducible exact frame_Split.mono _ _ _)
      | (with_reducible exact frame_Wrap.mono _ _)
      | (with_reducible exact roadbooklaw18_awake.mono _)
      | (with_reducible exact LeO.refl _)
      | (with_reducible exact LeO.none _)
      | (with_reducible refine LeO.ite ?_ ?_)
      | (with_reducible refine LeO.bind ?_ (fun _ => ?_))
      | exact ih0 _ _ _
      | exact ih1 _ _
      | exact ih2 _ _ _ _
      | exact frame_Split.mono _ _ _
      | exact frame_Wrap.mono _ _
      | exact roadbooklaw18_awake.mono _
      | exact LeO.none _
      | refine LeO.ite ?_ ?_
      | refine LeO.bind ?_ (fun _ => ?_)
    · intro y0 y1
      unfold roadbooklaw18_FrameBack.j1
      repeat' first
      | (with_reducible exact ih0 _ _ _)
      | (with_reducible exact ih1 _ _)
      | (with_reducible exact ih2 _ _ _ _)
      | (with_reducible exact frame_Split.mono _ _ _)
      | (with_reducible exact frame_Wrap.mono _ _)
      | (with_reducible exact roadbooklaw18_awake.mono _)
      | (with_reducible exact LeO.refl _)
      | (with_reducible exact LeO.none _)
      | (with_reducible refine LeO.ite ?_ ?_)
      | (with_reducible refine LeO.bind ?_ (fun _ => ?_))
      | exact ih0 _ _ _
      | exact ih1 _ _
      | exact ih2 _ _ _ _
      | exact frame_Split.mono _ _ _
      | exact frame_Wrap.mono _ _
      | exact roadbooklaw18_awake.mono _
      | exact LeO.none _
      | refine LeO.ite ?_ ?_
      | refine LeO.bind ?_ (fun _ => ?_)
    · intro y0 y1 y2 y3
      unfold roadbooklaw18_FrameBack.l0
      repeat' first
      | (with_reducible exact ih0 _ _ _)
      | (with_reducible exact ih1 _ _)
      | (with_reducible exact ih2 _ _ _ _)
      | (with_reducible exact frame_Split.mono _ _ _)
      | (with_reducible exact frame_Wrap.mono _ _)
      | (with_reducible exact roadbooklaw18_awake.mono _)
      | (with_reducible exact LeO.refl _)
      | (with_reducible exact LeO.none _)
      | (with_reducible refine LeO.ite ?_ ?_)
      | (with_reducible refine LeO.bind ?_ (fun _ => ?_))
      | exact ih0 _ _ _
      | exact ih1 _ _
      | exact ih2 _ _ _ _
      | exact frame_Split.mono _ _ _
      | exact frame_Wrap.mono _ _
      | exact roadbooklaw18_awake.mono _
      | exact LeO.none _
      | refine LeO.ite ?_ ?_
      | refine LeO.bind ?_ (fun _ => ?_)
theorem roadbooklaw18_FrameBack.mono : ∀ a0 a1 k, LeO (roadbooklaw18_FrameBack.f k a0 a1) (roadbooklaw18_FrameBack.f (k + 1) a0 a1) := by
  intro a0 a1 k
  obtain ⟨ih0, ih1, ih2⟩ := roadbooklaw18_FrameBack.mono_l k
  unfold roadbooklaw18_FrameBack.f
  repeat' first
      | (with_reducible exact ih0 _ _ _)
      | (with_reducible exact ih1 _ _)
      | (with_reducible exact ih2 _ _ _ _)
      | (with_reducible exact frame_Split.mono _ _ _)
      | (with_reducible exact frame_Wrap.mono _ _)
      | (with_reducible exact roadbooklaw18_awake.mono _)
      | (with_reducible exact LeO.refl _)
      | (with_reducible exact LeO.none _)
      | (with_reducible refine LeO.ite ?_ ?_)
      | (with_reducible refine LeO.bind ?_ (fun _ => ?_))
      | exact ih0 _ _ _
      | exact ih1 _ _
      | exact ih2 _ _ _ _
      | exact frame_Split.mono _ _ _
      | exact frame_Wrap.mono _ _
      | exact roadbooklaw18_awake.mono _
      | exact LeO.none _
      | refine LeO.ite ?_ ?_
      | refine LeO.bind ?_ (fun _ => ?_)
def roadbooklaw18_FrameBack.T16 : Bool × List (List Nat × List Nat) := (true, [([], []), ([], []), ([0, 1], [0, 1]), ([2], [2]), ([3], [3]), ([], []), ([], []), ([5, 6], [5, 6]), ([7], [7]), ([8], [8]), ([4, 9], [4, 9]), ([10], [10]), ([11], [11]), ([11], [11]), ([12, 10, 0, 1, 2, 3, 4, 5, 6, 7, 8, 9, 10, 11, 12], [12]), ([13, 14, 0, 1, 2, 3, 4, 5, 6, 7, 8, 9, 10, 11, 12, 13, 14], [13])])
def roadbooklaw18_FrameBack.B16 : List Nat := [0, 0, 3, 7, 15, 0, 0, 96, 224, 480, 1023, 2047, 4095, 4095, 8191, 32767]
theorem roadbooklaw18_FrameBack.tab16 : rtab .any (opsOf Try.f8 16) = roadbooklaw18_FrameBack.T16 := by kernel_rfl
theorem roadbooklaw18_FrameBack.bits16 : waitsOk roadbooklaw18_FrameBack.T16.2 roadbooklaw18_FrameBack.B16 = true := by kernel_rfl
def roadbooklaw18_FrameBack.T18 : Bool × List (List Nat × List Nat) := (true, [([], []), ([], []), ([0, 1], [0, 1]), ([2], [2]), ([3], [3]), ([4], [4]), ([], []), ([5, 6, 0, 1, 2, 3, 4, 5, 6], [5])])
def roadbooklaw18_FrameBack.B18 : List Nat := [0, 0, 3, 7, 15, 31, 0, 127]
theorem roadbooklaw18_FrameBack.tab18 : rtab .any (opsOf Try.f8 18) = roadbooklaw18_FrameBack.T18 := by kernel_rfl
theorem roadbooklaw18_FrameBack.bits18 : waitsOk roadbooklaw18_FrameBack.T18.2 roadbooklaw18_FrameBack.B18 = true := by kernel_rfl
set_option maxHeartbeats 8000000 in
set_option maxRecDepth 100000 in
theorem roadbooklaw18_FrameBack.calls (k : Nat) (a0 : ByteArray) (a1 : ByteArray) (r : Bool) (w : World) (h : roadbooklaw18_FrameBack.f k a0 a1 = some r) :
    Calls Try.prog 8 #[.string a0, .string a1] w fun e w' => e = .returned (.bool r) ∧ Below w.heap.size w w' := by
  have HB := Aside0.mk (Below.refl w.heap.size w)
  have H : (if (a0.size : Int) > 3000 then (roadbooklaw18_FrameBack.j0 k a0 a1 true) else (roadbooklaw18_FrameBack.j0 k a0 a1 (decide ((a1.size : Int) > 3000)))) = some r := h
  clear h
  have HC3 := Aside0.mk H
  clear H
  go_enter Try.func8, Try.ntmps8
  go_upto_region 1 with (fail)
  go_cut [24] (fun v24 wc => ∃ (kq : Nat) (x24_2 : Bool), v24 = .bool x24_2 ∧ Aside0 (roadbooklaw18_FrameBack.j0 kq a0 a1 x24_2 = some r) ∧ Aside0 (kq ≤ k) ∧ Aside0 (Below w.heap.size w wc))
  case first =>
    have H := HC3.out
    clear HC3
    by_cases c4 : (a0.size : Int) > 3000
    · rw [if_pos c4] at H
      have c4b0 : decide (3000 < (a0.size : Int)) = true := decide_eq_true c4
      have c4b1 : decide (3000 < a0.size) = true := decide_eq_true (by omega)
      clear c4
      (first | rw [c4b0] | (simp only [i64_w, i32_w]; rw [c4b0]) | skip)
      have H' := Aside0.mk H
      clear H
      go_wp2
      go_meet
      case rel => exact ⟨_, (true), rfS, H', ⟨by first | omega | exact Nat.le_refl _⟩, ⟨bel⟩⟩
    · rw [if_neg c4] at H
      have c4b0 : decide (3000 < (a0.size : Int)) = false := decide_eq_false c4
      have c4b1 : decide (3000 < a0.size) = false := decide_eq_false (by omega)
      clear c4
      (first | rw [c4b0] | (simp only [i64_w, i32_w]; rw [c4b0]) | skip)
      have H' := Aside0.mk H
      clear H
      go_wp2
      go_meet
      case rel => exact ⟨_, (decide ((a1.size : Int) > 3000)), rfS, H', ⟨by first | omega | exact Nat.le_refl _⟩, ⟨bel⟩⟩
  case rest =>
    clear HC3
    try clear p2
    try clear c4
    try clear c4b0
    try clear c4b1
    obtain ⟨kq, x24_2, rfl, HA, HJ2, HB⟩ := hcut
    cases kq with
    | zero => exact absurd HA.out (by simp [roadbooklaw18_FrameBack.j0])
    | succ kj2 =>
      have H := HA.out
      clear HA
      simp only [roadbooklaw18_FrameBack.j0] at H
      by_cases c5 : x24_2 = true
      · subst c5
        have H1 : ((roadbooklaw18_awake.f kj2).bind fun t390 => (some t390)) = some r := by rw [if_pos rfl] at H; exact H
        clear H
        have H := H1
        clear H1
        replace H := Option.bind_eq_some_iff.mp H
        obtain ⟨t390, A60, H⟩ := H
        replace H : (some t390) = some r := H
        have A6 := Aside0.mk A60
        clear A60
        obtain rfl := Option.some.inj H
        go_wp2_with (first | ((with_reducible refine gate_callee (f := 17) rfl ?_); refine goesL_ (some 25) rfl rfl Try.func17 (by kernel_rfl) rfl #[] rfl gAr ?_; (with_reducible refine (roadbooklaw18_awake.calls kj2  t390 _ A6.out).mono ?_); rintro e w7 ⟨rfl, hb⟩; refine ⟨_, rfl, ?_⟩; have n0_ := Aside0.mk (below_step (bel) hb); clear HB; have HB := n0_; clear n0_; (try clear hb)))
        go_ret
        exact ⟨rtE, bel⟩
      · replace c5 := Bool.eq_false_iff.mpr c5
        subst c5
        have H1 : ((frame_Wrap.f kj2 a0).bind fun bt391 => (if bt391.1.size + a1.size ≤ 9223372036854775807 then ((frame_Body.f (bt391.1 ++ a1)).bind fun bt393 => (if bt391.2 = true then (if bt393.2.2 = 0 then (if bt393.1.toList = a0.toList then ((frame_Trailer.f (bt391.1 ++ a1)).bind fun t396 => (roadbooklaw18_FrameBack.j1 kj2 a0 (t396.toList != a1.toList))) else (roadbooklaw18_FrameBack.j1 kj2 a0 true)) else (roadbooklaw18_FrameBack.j1 kj2 a0 true)) else (roadbooklaw18_FrameBack.j1 kj2 a0 true))) else (none))) = some r := by rw [if_neg (show ¬ (false = true) by decide)] at H; exact H
        clear H
        have H := H1
        clear H1
        replace H := Option.bind_eq_some_iff.mp H
        obtain ⟨⟨t391, t392⟩, A80, H⟩ := H
        replace H : (if t391.size + a1.size ≤ 9223372036854775807 then ((frame_Body.f (t391 ++ a1)).bind fun bt393 => (if t392 = true then (if bt393.2.2 = 0 then (if bt393.1.toList = a0.toList then ((frame_Trailer.f (t391 ++ a1)).bind fun t396 => (roadbooklaw18_FrameBack.j1 kj2 a0 (t396.toList != a1.toList))) else (roadbooklaw18_FrameBack.j1 kj2 a0 true)) else (roadbooklaw18_FrameBack.j1 kj2 a0 true)) else (roadbooklaw18_FrameBack.j1 kj2 a0 true))) else (none)) = some r := H
        have A8 := Aside0.mk A80
        clear A80
        by_cases c9 : t391.size + a1.size ≤ 9223372036854775807
        · rw [if_pos c9] at H
          have c9b0 := eq_true c9
          have c9b1 : decide (t391.size + a1.size ≤ 9223372036854775807) = true := decide_eq_true c9
          try have c9b2 : (9223372036854775807 < t391.size + a1.size) = False := eq_false (Nat.not_lt.2 c9)
          replace H := Option.bind_eq_some_iff.mp H
          obtain ⟨⟨t393, t394, t395⟩, A100, H⟩ := H
          replace H : (if t392 = true then (if t395 = 0 then (if t393.toList = a0.toList then ((frame_Trailer.f (t391 ++ a1)).bind fun t396 => (roadbooklaw18_FrameBack.j1 kj2 a0 (t396.toList != a1.toList))) else (roadbooklaw18_FrameBack.j1 kj2 a0 true)) else (roadbooklaw18_FrameBack.j1 kj2 a0 true)) else (roadbooklaw18_FrameBack.j1 kj2 a0 true)) = some r := H
          have A10 := Aside0.mk A100
          clear A100
          have HC11 := Aside0.mk H
          clear H
          go_upto_region 5 with (first | ((with_reducible refine gate_callee (f := 22) rfl ?_); refine goesL_ (some 28) rfl rfl Try.func22 (by kernel_rfl) rfl #[.string a0] rfl gAr ?_; (with_reducible refine (frame_Wrap.calls kj2 a0 t391 t392 _ A8.out).mono ?_); rintro e w12 ⟨rfl, hb⟩; refine ⟨_, rfl, ?_⟩; have n0_ := Aside0.mk (below_step (bel) hb); clear HB; have HB := n0_; clear n0_; (try clear hb)) | ((with_reducible refine gate_callee (f := 20) rfl ?_); refine goesL_ (some 35) rfl rfl Try.func20 (by kernel_rfl) rfl #[.string (t391 ++ a1)] rfl gAr ?_; (with_reducible refine (frame_Body.calls (t391 ++ a1) t393 t394 t395 _ A10.out).mono ?_); rintro e w' ⟨rfl, ⟨nd, rfl⟩⟩; refine ⟨_, rfl, ?_⟩))
          (try simp only [Act.put, List.setIfInBounds_toArray, List.set_cons_zero, List.set_cons_succ])
          go_cut [57] (fun v57 wc => ∃ (kq : Nat) (x57_10 : Bool), v57 = .bool x57_10 ∧ Aside0 (roadbooklaw18_FrameBack.j1 kq a0 x57_10 = some r) ∧ Aside0 (kq ≤ kj2) ∧ Aside0 (Below w.heap.size w wc))
          case first =>
            have H := HC11.out
            clear HC11
            by_cases c13 : t392 = true
            · subst c13
              have H1 : (if t395 = 0 then (if t393.toList = a0.toList then ((frame_Trailer.f (t391 ++ a1)).bind fun t396 => (roadbooklaw18_FrameBack.j1 kj2 a0 (t396.toList != a1.toList))) else (roadbooklaw18_FrameBack.j1 kj2 a0 true)) else (roadbooklaw18_FrameBack.j1 kj2 a0 true)) = some r := by rw [if_pos rfl] at H; exact H
              clear H
              have H := H1
              clear H1
              by_cases c14 : t395 = 0
              · rw [if_pos c14] at H
                have c14b0 : (t395 == 0) = true := beq_iff_eq.mpr c14
                have c14b1 : (t395 != 0) = false := bne_eq_false_iff_eq.mpr c14
                clear c14
                (first | rw [c14b0] | (simp only [i64_w, i32_w]; rw [c14b0]) | skip)
                by_cases c15 : t393.toList = a0.toList
                · rw [if_pos c15] at H
                  have c15b0 : (t393.toList == a0.toList) = true := beq_iff_eq.mpr c15
                  have c15b1 : (t393.toList != a0.toList) = false := bne_eq_false_iff_eq.mpr c15
                  clear c15
                  replace H := Option.bind_eq_some_iff.mp H
                  obtain ⟨t396, A160, H⟩ := H
                  replace H : (roadbooklaw18_FrameBack.j1 kj2 a0 (t396.toList != a1.toList)) = some r := H
                  have A16 := Aside0.mk A160
                  clear A160
                  have H' := Aside0.mk H
                  clear H
                  go_wp2_with (first | (go_at_call 24; (with_reducible refine (frame_Trailer.calls (t391 ++ a1) t396 _ A16.out).mono ?_); rintro e w' ⟨rfl, ⟨nd, rfl⟩⟩))
                  go_meet
                  case rel => exact ⟨_, ((t396.toList != a1.toList)), rfS, H', ⟨by have := HJ2.out; first | omega | exact Nat.le_refl _⟩, ⟨bel⟩⟩
                · rw [if_neg c15] at H
                  have c15b0 : (t393.toList == a0.toList) = false := beq_eq_false_iff_ne.mpr c15
                  have c15b1 : (t393.toList != a0.toList) = true := bne_iff_ne.mpr c15
                  have H' := Aside0.mk H
                  clear H
                  go_wp2
                  go_meet
                  case rel => exact ⟨_, (true), rfS, H', ⟨by have := HJ2.out; first | omega | exact Nat.le_refl _⟩, ⟨bel⟩⟩
              · rw [if_neg c14] at H
                have c14b0 : (t395 == 0) = false := beq_eq_false_iff_ne.mpr c14
                have c14b1 : (t395 != 0) = true := bne_iff_ne.mpr c14
                (first | rw [c14b0] | (simp only [i64_w, i32_w]; rw [c14b0]) | skip)
                have H' := Aside0.mk H
                clear H
                go_wp2
                go_meet
                case rel => exact ⟨_, (true), rfS, H', ⟨by have := HJ2.out; first | omega | exact Nat.le_refl _⟩, ⟨bel⟩⟩
            · replace c13 := Bool.eq_false_iff.mpr c13
              subst c13
              have H1 : (roadbooklaw18_FrameBack.j1 kj2 a0 true) = some r := by rw [if_neg (show ¬ (false = true) by decide)] at H; exact H
              clear H
              have H := H1
              clear H1
              have H' := Aside0.mk H
              clear H
              go_wp2
              go_meet
              case rel => exact ⟨_, (true), rfS, H', ⟨by have := HJ2.out; first | omega | exact Nat.le_refl _⟩, ⟨bel⟩⟩
          case rest =>
            clear HC11
            try clear c1
            try clear c2
            try clear p2
            try clear c4
            try clear c4b0
            try clear c4b1
            try clear c5
            try clear c8
            try clear c9
            try clear c9b0
            try clear c9b1
            try clear c9b2
            try clear c13
            try clear c14
            try clear c14b0
            try clear c14b1
            try clear c15
            try clear c15b0
            try clear c15b1
            try clear p2
            obtain ⟨kq, x57_10, rfl, HA, HJ10, HB⟩ := hcut
            cases kq with
            | zero => exact absurd HA.out (by simp [roadbooklaw18_FrameBack.j1])
            | succ kj10 =>
              have H := HA.out
              clear HA
              simp only [roadbooklaw18_FrameBack.j1] at H
              by_cases c17 : x57_10 = true
              · subst c17
                have H1 : (some false) = some r := by rw [if_pos rfl] at H; exact H
                clear H
                have H := H1
                clear H1
                obtain rfl := Option.some.inj H
                go_wp2
                go_ret
                exact ⟨rtE, bel⟩
              · replace c17 := Bool.eq_false_iff.mpr c17
                subst c17
                have H1 : ((frame_Split.f kj10 a0 4).bind fun bt397 => (if bt397.2.2 = 0 then (roadbooklaw18_FrameBack.l0 kj10 a0 bt397.1 (⟨#[]⟩ : ByteArray) 0) else ((roadbooklaw18_awake.f kj10).bind fun t402 => (if t402 = true then (if (bt397.1.length : Int) = 0 then (if bt397.2.1 ≥ 4 then (some (decide (bt397.2.1 < (wrap64 (4 + (a0.size : Int)))))) else (some false)) else (some false)) else (some false))))) = some r := by rw [if_neg (show ¬ (false = true) by decide)] at H; exact H
                clear H
                have H := H1
                clear H1
                replace H := Option.bind_eq_some_iff.mp H
                obtain ⟨⟨t397, t398, t399⟩, A180, H⟩ := H
                replace H : (if t399 = 0 then (roadbooklaw18_FrameBack.l0 kj10 a0 t397 (⟨#[]⟩ : ByteArray) 0) else ((roadbooklaw18_awake.f kj10).bind fun t402 => (if t402 = true then (if (t397.length : Int) = 0 then (if t398 ≥ 4 then (some (decide (t398 < (wrap64 (4 + (a0.size : Int)))))) else (some false)) else (some false)) else (some false)))) = some r := H
                have A18 := Aside0.mk A180
                clear A180
                by_cases c19 : t399 = 0
                · rw [if_pos c19] at H
                  have c19b0 : (t399 == 0) = true := beq_iff_eq.mpr c19
                  have c19b1 : (t399 != 0) = false := bne_eq_false_iff_eq.mpr c19
                  clear c19
                  have H' := Aside0.mk H
                  clear H
                  go_wp2_with (first | ((with_reducible refine gate_callee (f := 18) rfl ?_); refine goesL_ (some 60) rfl rfl Try.func18 (by kernel_rfl) rfl #[.string a0, .int .i64 4] rfl gAr ?_; (with_reducible refine (frame_Split.calls kj10 a0 4 t397 t398 t399 _ A18.out).mono ?_); rintro e w20 ⟨v400, rfl, ho0, hb⟩; refine ⟨_, rfl, ?_⟩; have n0_ := Aside0.mk (Kd.R_lower ho0 bsz); have n1_ := Aside0.mk (below_step (bel) hb); clear HB; have HO401 := n0_; have HB := n1_; clear n0_ n1_; (try clear hb); (try clear ho0)))
                  go_loopg [13, 14] kj10 (fun kq v13 v14 w' => ∃ (x13_3 : ByteArray) (x14_3 : Int), v13 = .string x13_3 ∧ v14 = .int .i64 x14_3 ∧ Aside0 (roadbooklaw18_FrameBack.l0 kq a0 t397 x13_3 x14_3 = some r) ∧ Aside0 (kq ≤ kj10) ∧ Aside0 (Kd.R k47 47 w' w.heap.size (fun _ => True) v400 t397) ∧ Aside0 (Below w.heap.size w w'))
                  case atStart => exact ⟨((⟨#[]⟩ : ByteArray)), (0), rfS, rfS, H', ⟨Nat.le_refl _⟩, ⟨Kd.R_below HO401.out bll⟩, ⟨bel⟩⟩
                  case round =>
                    clear H'
                    try clear c1
                    try clear c2
                    try clear p2
                    try clear c4
                    try clear c4b0
                    try clear c4b1
                    try clear c5
                    try clear p6
                    try clear c8
                    try clear c9
                    try clear c9b0
                    try clear c9b1
                    try clear c9b2
                    try clear c13
                    try clear c14
                    try clear c14b0
                    try clear c14b1
                    try clear c15
                    try clear c15b0
                    try clear c15b1
                    try clear c17
                    try clear c18
                    try clear c19
                    try clear c19b0
                    try clear c19b1
                    try clear c20
                    try clear p2
                    obtain ⟨x13_3, x14_3, rfl, rfl, HA, HK3, HO_10, HB⟩ := hrel
                    cases gk with
                    | zero => exact absurd HA.out (by simp [roadbooklaw18_FrameBack.l0])
                    | succ k3 =>
                      have H := HA.out
                      clear HA
                      simp only [roadbooklaw18_FrameBack.l0] at H
                      by_cases c21 : x14_3 < (t397.length : Int)
                      · rw [if_pos c21] at H
                        have c21b0 : decide (x14_3 < (t397.length : Int)) = true := decide_eq_true c21
                        clear c21
                        by_cases c22 : 0 ≤ x14_3
                        · rw [if_pos c22] at H
                          have c22b0 : decide (0 ≤ x14_3) = true := decide_eq_true c22
                          clear c22
                          by_cases c23 : ((rd_T47 t397 x14_3).f1) = (wrap64 (4 + (x13_3.size : Int)))
                          · rw [if_pos c23] at H
                            have c23b0 : (((rd_T47 t397 x14_3).f1) == (wrap64 (4 + (x13_3.size : Int)))) = true := beq_iff_eq.mpr c23
                            have c23b1 : (((rd_T47 t397 x14_3).f1) != (wrap64 (4 + (x13_3.size : Int)))) = false := bne_eq_false_iff_eq.mpr c23
                            clear c23
                            replace H := Option.bind_eq_some_iff.mp H
                            obtain ⟨⟨t407, t408⟩, A240, H⟩ := H
                            replace H : (if ((rd_T47 t397 x14_3).f0) = 0 then (if (((rd_T47 t397 x14_3).f2).toList = ([] : List UInt8)) then (if x13_3.size + 1 ≤ 9223372036854775807 then (roadbooklaw18_FrameBack.l0 k3 a0 t397 (x13_3 ++ (⟨#[0]⟩ : ByteArray)) (wrap64 (x14_3 + 1))) else (none)) else (some false)) else (if t408 = true then (if x13_3.size + t407.size ≤ 9223372036854775807 then (roadbooklaw18_FrameBack.l0 k3 a0 t397 (x13_3 ++ t407) (wrap64 (x14_3 + 1))) else (none)) else (some false))) = some r := H
                            have A24 := Aside0.mk A240
                            clear A240
                            by_cases c25 : ((rd_T47 t397 x14_3).f0) = 0
                            · rw [if_pos c25] at H
                              have c25b0 : (((rd_T47 t397 x14_3).f0) == 0) = true := beq_iff_eq.mpr c25
                              have c25b1 : (((rd_T47 t397 x14_3).f0) != 0) = false := bne_eq_false_iff_eq.mpr c25
                              clear c25
                              by_cases c26 : (((rd_T47 t397 x14_3).f2).toList = ([] : List UInt8))
                              · rw [if_pos c26] at H
                                have c26b0 : (((rd_T47 t397 x14_3).f2).toList == ([] : List UInt8)) = true := beq_iff_eq.mpr c26
                                have c26b1 : (((rd_T47 t397 x14_3).f2).toList != ([] : List UInt8)) = false := bne_eq_false_iff_eq.mpr c26
                                clear c26
                                by_cases c27 : x13_3.size + 1 ≤ 9223372036854775807
                                · rw [if_pos c27] at H
                                  have c27b0 := eq_true c27
                                  have c27b1 : decide (x13_3.size + 1 ≤ 9223372036854775807) = true := decide_eq_true c27
                                  try have c27b2 : (9223372036854775807 < x13_3.size + 1) = False := eq_false (Nat.not_lt.2 c27)
                                  have H' := Aside0.mk H
                                  clear H
                                  obtain ⟨Ao28, co28, eo28⟩ := Kd.R_slice HO_10.out
                                  subst eo28
                                  have p404 : 0 ≤ (x14_3 : Int) := odt
                                  have q404 : x14_3 < (t397.length : Int) := odt
                                  obtain ⟨ad404, e404, hx404_0, hx404_1, hx404_2⟩ := at_T47 (Kd.R_reads' HO_10.out).2.2 x14_3 p404 q404
                                  cases e404
                                  replace p404 := eq_true p404
                                  replace q404 := eq_true q404
                                  try go_wp2
                                  have n0_ := Aside0.mk (Kd.R_drew HO_10.out)
                                  have n1_ := Aside0.mk (below_drew1 HB.out)
                                  clear HO_10
                                  clear HB
                                  have HO_10 := n0_
                                  have HB := n1_
                                  clear n0_ n1_
                                  have p405 : 0 ≤ (x14_3 : Int) := odt
                                  have q405 : x14_3 < (t397.length : Int) := odt
                                  obtain ⟨ad405, e405, hx405_0, hx405_1, hx405_2⟩ := at_T47 (Kd.R_reads' HO_10.out).2.2 x14_3 p405 q405
                                  obtain rfl : ad404 = ad405 := (by injection e405)
                                  replace p405 := eq_true p405
                                  replace q405 := eq_true q405
                                  have p406 : 0 ≤ (x14_3 : Int) := odt
                                  have q406 : x14_3 < (t397.length : Int) := odt
                                  obtain ⟨ad406, e406, hx406_0, hx406_1, hx406_2⟩ := at_T47 (Kd.R_reads' HO_10.out).2.2 x14_3 p406 q406
                                  obtain rfl : ad404 = ad406 := (by injection e406)
                                  replace p406 := eq_true p406
                                  replace q406 := eq_true q406
                                  refine start_ (n := 16) (S := fun w' => w'.cell? (ad404.add ((x14_3).toNat * 3)) = some (.int .i64 ((rd_T47 t397 x14_3).f0)) ∧ w'.cell? ⟨(ad404.add ((x14_3).toNat * 3)).block, (ad404.add ((x14_3).toNat * 3)).off + 1, none⟩ = some (.int .i64 ((rd_T47 t397 x14_3).f1)) ∧ w'.cell? ⟨(ad404.add ((x14_3).toNat * 3)).block, (ad404.add ((x14_3).toNat * 3)).off + 2, none⟩ = some (.string ((rd_T47 t397 x14_3).f2)) ∧ w'.cell? (ad404.add ((x14_3).toNat * 3)) = some (.int .i64 ((rd_T47 t397 x14_3).f0)) ∧ w'.cell? ⟨(ad404.add ((x14_3).toNat * 3)).block, (ad404.add ((x14_3).toNat * 3)).off + 1, none⟩ = some (.int .i64 ((rd_T47 t397 x14_3).f1)) ∧ w'.cell? ⟨(ad404.add ((x14_3).toNat * 3)).block, (ad404.add ((x14_3).toNat * 3)).off + 2, none⟩ = some (.string ((rd_T47 t397 x14_3).f2))) (ds := []) #[false, false, false, false, false, false, false, false, false, false, false, false, false, false, false, false] (by kernel_rfl) rfl rfl ⟨hx405_0, hx405_1, hx405_2, hx406_0, hx406_1, hx406_2⟩ (fun hHeld => ?_); refine with_tabW roadbooklaw18_FrameBack.tab16 roadbooklaw18_FrameBack.bits16 (fun HT_ HW_ => ?_)
                                  generalize wr.drew = w29 at HO_10 HB hx405_0 hx405_1 hx405_2 hx406_0 hx406_1 hx406_2 hHeld ⊢
                                  refine pure_ (i := 0) (N := some 99) (v := ?_) (a' := ?_) #[true, false, false, false, false, false, false, false, false, false, false, false, false, false, false, false] rfl rfl (any_of HT_.out (by kernel_rfl)) (fun _ _ _ h => h) (Or.inl ⟨by rfl, ?_⟩) ?_ ?_
                                  rotate_left
                                  · intro w'
                                    go_simp
                                    with_reducible rfl
                                  rotate_left
                                  · simp only [Act.put, List.setIfInBounds_toArray, List.set_cons_zero, List.set_cons_succ, i64_w, i32_w]
                                    rfl
                                  refine pure_ (i := 1) (N := some 100) (v := ?_) (a' := ?_) #[true, true, false, false, false, false, false, false, false, false, false, false, false, false, false, false] rfl rfl (any_of HT_.out (by kernel_rfl)) (fun _ _ _ h => h) (Or.inl ⟨by rfl, ?_⟩) ?_ ?_
                                  rotate_left
                                  · intro w'
                                    go_simp
                                    with_reducible rfl
                                  rotate_left
                                  · simp only [Act.put, List.setIfInBounds_toArray, List.set_cons_zero, List.set_cons_succ, i64_w, i32_w]
                                    rfl
                                  refine pure_ (i := 2) (N := some 101) (v := ?_) (a' := ?_) #[true, true, true, false, false, false, false, false, false, false, false, false, false, false, false, false] rfl rfl (any_of HT_.out (by kernel_rfl)) (fun _ _ _ h => h) (Or.inl ⟨by rfl, ?_⟩) ?_ ?_
                                  rotate_left
                                  · intro w'
                                    go_simp
                                    with_reducible rfl
                                  rotate_left
                                  · simp only [Act.put, List.setIfInBounds_toArray, List.set_cons_zero, List.set_cons_succ, i64_w, i32_w]
                                    rfl
                                  refine pure_ (i := 3) (N := some 102) (v := ?_) (a' := ?_) #[true, true, true, true, false, false, false, false, false, false, false, false, false, false, false, false] rfl rfl (any_of HT_.out (by kernel_rfl)) (fun _ _ _ h => h) (Or.inl ⟨by rfl, ?_⟩) ?_ ?_
                                  rotate_left
                                  · intro w'
                                    go_simp
                                    with_reducible rfl
                                  rotate_left
                                  · simp only [Act.put, List.setIfInBounds_toArray, List.set_cons_zero, List.set_cons_succ, i64_w, i32_w]
                                    rfl
                                  refine pure_ (i := 5) (N := some 104) (v := ?_) (a' := ?_) #[true, true, true, true, false, true, false, false, false, false, false, false, false, false, false, false] rfl rfl (any_of HT_.out (by kernel_rfl)) (fun _ _ _ h => h) (Or.inl ⟨by rfl, ?_⟩) ?_ ?_
                                  rotate_left
                                  · intro w'
                                    go_simp
                                    with_reducible rfl
                                  rotate_left
                                  · simp only [Act.put, List.setIfInBounds_toArray, List.set_cons_zero, List.set_cons_succ, i64_w, i32_w]
                                    rfl
                                  refine pure_ (i := 6) (N := some 105) (v := ?_) (a' := ?_) #[true, true, true, true, false, true, true, false, false, false, false, false, false, false, false, false] rfl rfl (any_of HT_.out (by kernel_rfl)) (fun _ _ _ h => h) (Or.inl ⟨by rfl, ?_⟩) ?_ ?_
                                  rotate_left
                                  · intro w'
                                    go_simp
                                    with_reducible rfl
                                  rotate_left
                                  · simp only [Act.put, List.setIfInBounds_toArray, List.set_cons_zero, List.set_cons_succ, i64_w, i32_w]
                                    rfl
                                  refine pure_ (i := 7) (N := some 106) (v := ?_) (a' := ?_) #[true, true, true, true, false, true, true, true, false, false, false, false, false, false, false, false] rfl rfl (any_of HT_.out (by kernel_rfl)) (fun _ _ _ h => h) (Or.inl ⟨by rfl, ?_⟩) ?_ ?_
                                  rotate_left
                                  · intro w'
                                    go_simp
                                    with_reducible rfl
                                  rotate_left
                                  · simp only [Act.put, List.setIfInBounds_toArray, List.set_cons_zero, List.set_cons_succ, i64_w, i32_w]
                                    rfl
                                  refine pure_ (i := 8) (N := some 107) (v := ?_) (a' := ?_) #[true, true, true, true, false, true, true, true, true, false, false, false, false, false, false, false] rfl rfl (any_of HT_.out (by kernel_rfl)) (fun _ _ _ h => h) (Or.inl ⟨by rfl, ?_⟩) ?_ ?_
                                  rotate_left
                                  · intro w'
                                    go_simp
                                    with_reducible rfl
                                  rotate_left
                                  · simp only [Act.put, List.setIfInBounds_toArray, List.set_cons_zero, List.set_cons_succ, i64_w, i32_w]
                                    rfl
                                  refine take_ (i := 4) (N := some 103) (v := ?_) (a' := ?_) #[true, true, true, true, true, true, true, true, true, false, false, false, false, false, false, false] rfl rfl (take_ofW HT_.out HW_.out (by kernel_rfl)) (fun _ _ _ h => h) (Or.inl ⟨by rfl, ?_⟩) hHeld ?_ ?_
                                  rotate_left
                                  · rintro w' ⟨s0, s1, s2, s3, s4, s5⟩
                                    go_simp
                                    with_reducible rfl
                                  rotate_left
                                  · simp only [Act.put, List.setIfInBounds_toArray, List.set_cons_zero, List.set_cons_succ, i64_w, i32_w]
                                    rfl
                                  refine take_ (i := 9) (N := some 108) (v := ?_) (a' := ?_) #[true, true, true, true, true, true, true, true, true, true, false, false, false, false, false, false] rfl rfl (take_ofW HT_.out HW_.out (by kernel_rfl)) (fun _ _ _ h => h) (Or.inl ⟨by rfl, ?_⟩) hHeld ?_ ?_
                                  rotate_left
                                  · rintro w' ⟨s0, s1, s2, s3, s4, s5⟩
                                    go_simp
                                    with_reducible rfl
                                  rotate_left
                                  · simp only [Act.put, List.setIfInBounds_toArray, List.set_cons_zero, List.set_cons_succ, i64_w, i32_w]
                                    rfl
                                  refine one_ (i := 10) (N := some 109) #[true, true, true, true, true, true, true, true, true, true, true, false, false, false, false, false] rfl rfl (one_of HT_.out (by kernel_rfl)) (by decide) (fun K hK => ?_)
                                  refine goes_ Try.func27 (by kernel_rfl) rfl #[.int .i64 ((rd_T47 t397 x14_3).f0), .string ((rd_T47 t397 x14_3).f2)] (by rfl) rfl rfl gAr ?_
                                  with_reducible refine (frame_Put.calls ((rd_T47 t397 x14_3).f0) ((rd_T47 t397 x14_3).f2) t407 t408 _ A24.out).mono ?_
                                  rintro e w30 ⟨rfl, hb⟩
                                  have HS0_ := (hb.cell (World.block_lt_of_cell? _ _ (hHeld.1))).trans (hHeld.1)
                                  have HS1_ := (hb.cell (World.block_lt_of_cell? _ _ (hHeld.2.1))).trans (hHeld.2.1)
                                  have HS2_ := (hb.cell (World.block_lt_of_cell? _ _ (hHeld.2.2.1))).trans (hHeld.2.2.1)
                                  have HS3_ := (hb.cell (World.block_lt_of_cell? _ _ (hHeld.2.2.2.1))).trans (hHeld.2.2.2.1)
                                  have HS4_ := (hb.cell (World.block_lt_of_cell? _ _ (hHeld.2.2.2.2.1))).trans (hHeld.2.2.2.2.1)
                                  have HS5_ := (hb.cell (World.block_lt_of_cell? _ _ (hHeld.2.2.2.2.2))).trans (hHeld.2.2.2.2.2)
                                  refine ⟨_, rfl, ?_⟩
                                  have n0_ := Aside0.mk (Kd.R_below (Kd.R_below HO_10.out bll) hb)
                                  have n1_ := Aside0.mk (below_step (bel) hb)
                                  clear HO_10
                                  clear HB
                                  have HO_10 := n0_
                                  have HB := n1_
                                  clear n0_ n1_
                                  (try clear hb)
                                  (try clear hb2)
                                  (try clear hk)
                                  (try clear hi)
                                  refine hK.out _ _ ⟨HS0_, HS1_, HS2_, HS3_, HS4_, HS5_⟩ (fun hHeld => ?_)
                                  clear hK K
                                  refine norm_ (a' := ?_) ?_ ?_
                                  rotate_left
                                  · show Act.put _ (some 109) _ = _
                                    simp only [Act.put, List.setIfInBounds_toArray, List.set_cons_zero, List.set_cons_succ, i64_w, i32_w]
                                    rfl
                                  refine pure_ (i := 11) (N := some 98) (v := ?_) (a' := ?_) #[true, true, true, true, true, true, true, true, true, true, true, true, false, false, false, false] rfl rfl (any_of HT_.out (by kernel_rfl)) (fun _ _ _ h => h) (Or.inl ⟨by rfl, ?_⟩) ?_ ?_
                                  rotate_left
                                  · intro w'
                                    go_simp
                                    with_reducible rfl
                                  rotate_left
                                  · simp only [Act.put, List.setIfInBounds_toArray, List.set_cons_zero, List.set_cons_succ, i64_w, i32_w]
                                    rfl
                                  refine pure_ (i := 12) (N := some 110) (v := ?_) (a' := ?_) #[true, true, true, true, true, true, true, true, true, true, true, true, true, false, false, false] rfl rfl (any_of HT_.out (by kernel_rfl)) (fun _ _ _ h => h) (Or.inl ⟨by rfl, ?_⟩) ?_ ?_
                                  rotate_left
                                  · intro w'
                                    go_simp
                                    with_reducible rfl
                                  rotate_left
                                  · simp only [Act.put, List.setIfInBounds_toArray, List.set_cons_zero, List.set_cons_succ, i64_w, i32_w]
                                    rfl
                                  refine pure_ (i := 13) (N := some 111) (v := ?_) (a' := ?_) #[true, true, true, true, true, true, true, true, true, true, true, true, true, true, false, false] rfl rfl (any_of HT_.out (by kernel_rfl)) (fun _ _ _ h => h) (Or.inl ⟨by rfl, ?_⟩) ?_ ?_
                                  rotate_left
                                  · intro w'
                                    go_simp
                                    with_reducible rfl
                                  rotate_left
                                  · simp only [Act.put, List.setIfInBounds_toArray, List.set_cons_zero, List.set_cons_succ, i64_w, i32_w]
                                    rfl
                                  refine pure_ (i := 14) (N := some 15) (v := ?_) (a' := ?_) #[true, true, true, true, true, true, true, true, true, true, true, true, true, true, true, false] rfl rfl (any_of HT_.out (by kernel_rfl)) (fun _ _ _ h => h) (Or.inl ⟨by rfl, ?_⟩) ?_ ?_
                                  rotate_left
                                  · intro w'
                                    go_simp
                                    with_reducible rfl
                                  rotate_left
                                  · simp only [Act.put, List.setIfInBounds_toArray, List.set_cons_zero, List.set_cons_succ, i64_w, i32_w]
                                    rfl
                                  refine pure_ (i := 15) (N := some 16) (v := ?_) (a' := ?_) #[true, true, true, true, true, true, true, true, true, true, true, true, true, true, true, true] rfl rfl (any_of HT_.out (by kernel_rfl)) (fun _ _ _ h => h) (Or.inl ⟨by rfl, ?_⟩) ?_ ?_
                                  rotate_left
                                  · intro w'
                                    go_simp
                                    with_reducible rfl
                                  rotate_left
                                  · simp only [Act.put, List.setIfInBounds_toArray, List.set_cons_zero, List.set_cons_succ, i64_w, i32_w]
                                    rfl
                                  refine done_ (done_of HT_.out (by kernel_rfl)) ?_
                                  have p409 : 0 ≤ (x14_3 : Int) := odt
                                  have q409 : x14_3 < (t397.length : Int) := odt
                                  obtain ⟨ad409, e409, hx409_0, hx409_1, hx409_2⟩ := at_T47 (Kd.R_reads' HO_10.out).2.2 x14_3 p409 q409
                                  obtain rfl : ad404 = ad409 := (by injection e409)
                                  replace p409 := eq_true p409
                                  replace q409 := eq_true q409
                                  try go_wp2
                                  have n0_ := Aside0.mk (Kd.R_drew HO_10.out)
                                  have n1_ := Aside0.mk (below_drew1 HB.out)
                                  clear HO_10
                                  clear HB
                                  have HO_10 := n0_
                                  have HB := n1_
                                  clear n0_ n1_
                                  have p410 : 0 ≤ (x14_3 : Int) := odt
                                  have q410 : x14_3 < (t397.length : Int) := odt
                                  obtain ⟨ad410, e410, hx410_0, hx410_1, hx410_2⟩ := at_T47 (Kd.R_reads' HO_10.out).2.2 x14_3 p410 q410
                                  obtain rfl : ad404 = ad410 := (by injection e410)
                                  replace p410 := eq_true p410
                                  replace q410 := eq_true q410
                                  refine start_ (n := 8) (S := fun w' => w'.cell? (ad404.add ((x14_3).toNat * 3)) = some (.int .i64 ((rd_T47 t397 x14_3).f0)) ∧ w'.cell? ⟨(ad404.add ((x14_3).toNat * 3)).block, (ad404.add ((x14_3).toNat * 3)).off + 1, none⟩ = some (.int .i64 ((rd_T47 t397 x14_3).f1)) ∧ w'.cell? ⟨(ad404.add ((x14_3).toNat * 3)).block, (ad404.add ((x14_3).toNat * 3)).off + 2, none⟩ = some (.string ((rd_T47 t397 x14_3).f2))) (ds := []) #[false, false, false, false, false, false, false, false] (by kernel_rfl) rfl rfl ⟨hx410_0, hx410_1, hx410_2⟩ (fun hHeld => ?_); refine with_tabW roadbooklaw18_FrameBack.tab18 roadbooklaw18_FrameBack.bits18 (fun HT_ HW_ => ?_)
                                  generalize w30.drew = w31 at HO_10 HB hx410_0 hx410_1 hx410_2 hHeld ⊢
                                  refine pure_ (i := 0) (N := some 118) (v := ?_) (a' := ?_) #[true, false, false, false, false, false, false, false] rfl rfl (any_of HT_.out (by kernel_rfl)) (fun _ _ _ h => h) (Or.inl ⟨by rfl, ?_⟩) ?_ ?_
                                  rotate_left
                                  · intro w'
                                    go_simp
                                    with_reducible rfl
                                  rotate_left
                                  · simp only [Act.put, List.setIfInBounds_toArray, List.set_cons_zero, List.set_cons_succ, i64_w, i32_w]
                                    rfl
                                  refine pure_ (i := 1) (N := some 119) (v := ?_) (a' := ?_) #[true, true, false, false, false, false, false, false] rfl rfl (any_of HT_.out (by kernel_rfl)) (fun _ _ _ h => h) (Or.inl ⟨by rfl, ?_⟩) ?_ ?_
                                  rotate_left
                                  · intro w'
                                    go_simp
                                    with_reducible rfl
                                  rotate_left
                                  · simp only [Act.put, List.setIfInBounds_toArray, List.set_cons_zero, List.set_cons_succ, i64_w, i32_w]
                                    rfl
                                  refine pure_ (i := 2) (N := some 120) (v := ?_) (a' := ?_) #[true, true, true, false, false, false, false, false] rfl rfl (any_of HT_.out (by kernel_rfl)) (fun _ _ _ h => h) (Or.inl ⟨by rfl, ?_⟩) ?_ ?_
                                  rotate_left
                                  · intro w'
                                    go_simp
                                    with_reducible rfl
                                  rotate_left
                                  · simp only [Act.put, List.setIfInBounds_toArray, List.set_cons_zero, List.set_cons_succ, i64_w, i32_w]
                                    rfl
                                  refine pure_ (i := 3) (N := some 121) (v := ?_) (a' := ?_) #[true, true, true, true, false, false, false, false] rfl rfl (any_of HT_.out (by kernel_rfl)) (fun _ _ _ h => h) (Or.inl ⟨by rfl, ?_⟩) ?_ ?_
                                  rotate_left
                                  · intro w'
                                    go_simp
                                    with_reducible rfl
                                  rotate_left
                                  · simp only [Act.put, List.setIfInBounds_toArray, List.set_cons_zero, List.set_cons_succ, i64_w, i32_w]
                                    rfl
                                  refine pure_ (i := 6) (N := some 15) (v := ?_) (a' := ?_) #[true, true, true, true, false, false, true, false] rfl rfl (any_of HT_.out (by kernel_rfl)) (fun _ _ _ h => h) (Or.inl ⟨by rfl, ?_⟩) ?_ ?_
                                  rotate_left
                                  · intro w'
                                    go_simp
                                    with_reducible rfl
                                  rotate_left
                                  · simp only [Act.put, List.setIfInBounds_toArray, List.set_cons_zero, List.set_cons_succ, i64_w, i32_w]
                                    rfl
                                  refine take_ (i := 4) (N := some 122) (v := ?_) (a' := ?_) #[true, true, true, true, true, false, true, false] rfl rfl (take_ofW HT_.out HW_.out (by kernel_rfl)) (fun _ _ _ h => h) (Or.inl ⟨by rfl, ?_⟩) hHeld ?_ ?_
                                  rotate_left
                                  · rintro w' ⟨s0, s1, s2⟩
                                    go_simp
                                    with_reducible rfl
                                  rotate_left
                                  · simp only [Act.put, List.setIfInBounds_toArray, List.set_cons_zero, List.set_cons_succ, i64_w, i32_w]
                                    rfl
                                  refine pure_ (i := 5) (N := some 123) (v := ?_) (a' := ?_) #[true, true, true, true, true, true, true, false] rfl rfl (any_of HT_.out (by kernel_rfl)) (fun _ _ _ h => h) (Or.inl ⟨by rfl, ?_⟩) ?_ ?_
                                  rotate_left
                                  · intro w'
                                    go_simp
                                    with_reducible rfl
                                  rotate_left
                                  · simp only [Act.put, List.setIfInBounds_toArray, List.set_cons_zero, List.set_cons_succ, i64_w, i32_w]
                                    rfl
                                  refine pure_ (i := 7) (N := some 16) (v := ?_) (a' := ?_) #[true, true, true, true, true, true, true, true] rfl rfl (any_of HT_.out (by kernel_rfl)) (fun _ _ _ h => h) (Or.inl ⟨by rfl, ?_⟩) ?_ ?_
                                  rotate_left
                                  · intro w'
                                    go_simp
                                    with_reducible rfl
                                  rotate_left
                                  · simp only [Act.put, List.setIfInBounds_toArray, List.set_cons_zero, List.set_cons_succ, i64_w, i32_w]
                                    rfl
                                  refine done_ (done_of HT_.out (by kernel_rfl)) ?_
                                  try go_wp2
                                  go_roundg k3
                                  case measure => have := HJ2.out; have := HJ10.out; have := HK3.out; omega
                                  case rel => exact ⟨(x13_3 ++ (⟨#[0]⟩ : ByteArray)), (wrap64 (x14_3 + 1)), rfS, rfS, H', ⟨by have := HJ2.out; have := HJ10.out; have := HK3.out; omega⟩, ⟨Kd.R_below HO_10.out bll⟩, ⟨bel⟩⟩
                                · rw [if_neg c27] at H
                                  exact absurd H (by simp)
                              · rw [if_neg c26] at H
                                have c26b0 : (((rd_T47 t397 x14_3).f2).toList == ([] : List UInt8)) = false := beq_eq_false_iff_ne.mpr c26
                                have c26b1 : (((rd_T47 t397 x14_3).f2).toList != ([] : List UInt8)) = true := bne_iff_ne.mpr c26
                                obtain rfl := Option.some.inj H
                                obtain ⟨Ao32, co32, eo32⟩ := Kd.R_slice HO_10.out
                                subst eo32
                                have p404 : 0 ≤ (x14_3 : Int) := odt
                                have q404 : x14_3 < (t397.length : Int) := odt
                                obtain ⟨ad404, e404, hx404_0, hx404_1, hx404_2⟩ := at_T47 (Kd.R_reads' HO_10.out).2.2 x14_3 p404 q404
                                cases e404
                                replace p404 := eq_true p404
                                replace q404 := eq_true q404
                                try go_wp2
                                have n0_ := Aside0.mk (Kd.R_drew HO_10.out)
                                have n1_ := Aside0.mk (below_drew1 HB.out)
                                clear HO_10
                                clear HB
                                have HO_10 := n0_
                                have HB := n1_
                                clear n0_ n1_
                                have p405 : 0 ≤ (x14_3 : Int) := odt
                                have q405 : x14_3 < (t397.length : Int) := odt
                                obtain ⟨ad405, e405, hx405_0, hx405_1, hx405_2⟩ := at_T47 (Kd.R_reads' HO_10.out).2.2 x14_3 p405 q405
                                obtain rfl : ad404 = ad405 := (by injection e405)
                                replace p405 := eq_true p405
                                replace q405 := eq_true q405
                                have p406 : 0 ≤ (x14_3 : Int) := odt
                                have q406 : x14_3 < (t397.length : Int) := odt
                                obtain ⟨ad406, e406, hx406_0, hx406_1, hx406_2⟩ := at_T47 (Kd.R_reads' HO_10.out).2.2 x14_3 p406 q406
                                obtain rfl : ad404 = ad406 := (by injection e406)
                                replace p406 := eq_true p406
                                replace q406 := eq_true q406
                                refine start_ (n := 16) (S := fun w' => w'.cell? (ad404.add ((x14_3).toNat * 3)) = some (.int .i64 ((rd_T47 t397 x14_3).f0)) ∧ w'.cell? ⟨(ad404.add ((x14_3).toNat * 3)).block, (ad404.add ((x14_3).toNat * 3)).off + 1, none⟩ = some (.int .i64 ((rd_T47 t397 x14_3).f1)) ∧ w'.cell? ⟨(ad404.add ((x14_3).toNat * 3)).block, (ad404.add ((x14_3).toNat * 3)).off + 2, none⟩ = some (.string ((rd_T47 t397 x14_3).f2)) ∧ w'.cell? (ad404.add ((x14_3).toNat * 3)) = some (.int .i64 ((rd_T47 t397 x14_3).f0)) ∧ w'.cell? ⟨(ad404.add ((x14_3).toNat * 3)).block, (ad404.add ((x14_3).toNat * 3)).off + 1, none⟩ = some (.int .i64 ((rd_T47 t397 x14_3).f1)) ∧ w'.cell? ⟨(ad404.add ((x14_3).toNat * 3)).block, (ad404.add ((x14_3).toNat * 3)).off + 2, none⟩ = some (.string ((rd_T47 t397 x14_3).f2))) (ds := []) #[false, false, false, false, false, false, false, false, false, false, false, false, false, false, false, false] (by kernel_rfl) rfl rfl ⟨hx405_0, hx405_1, hx405_2, hx406_0, hx406_1, hx406_2⟩ (fun hHeld => ?_); refine with_tabW roadbooklaw18_FrameBack.tab16 roadbooklaw18_FrameBack.bits16 (fun HT_ HW_ => ?_)
                                generalize wr.drew = w33 at HO_10 HB hx405_0 hx405_1 hx405_2 hx406_0 hx406_1 hx406_2 hHeld ⊢
                                refine pure_ (i := 0) (N := some 99) (v := ?_) (a' := ?_) #[true, false, false, false, false, false, false, false, false, false, false, false, false, false, false, false] rfl rfl (any_of HT_.out (by kernel_rfl)) (fun _ _ _ h => h) (Or.inl ⟨by rfl, ?_⟩) ?_ ?_
                                rotate_left
                                · intro w'
                                  go_simp
                                  with_reducible rfl
                                rotate_left
                                · simp only [Act.put, List.setIfInBounds_toArray, List.set_cons_zero, List.set_cons_succ, i64_w, i32_w]
                                  rfl
                                refine pure_ (i := 1) (N := some 100) (v := ?_) (a' := ?_) #[true, true, false, false, false, false, false, false, false, false, false, false, false, false, false, false] rfl rfl (any_of HT_.out (by kernel_rfl)) (fun _ _ _ h => h) (Or.inl ⟨by rfl, ?_⟩) ?_ ?_
                                rotate_left
                                · intro w'
                                  go_simp
                                  with_reducible rfl
                                rotate_left
                                · simp only [Act.put, List.setIfInBounds_toArray, List.set_cons_zero, List.set_cons_succ, i64_w, i32_w]
                                  rfl
                                refine pure_ (i := 2) (N := some 101) (v := ?_) (a' := ?_) #[true, true, true, false, false, false, false, false, false, false, false, false, false, false, false, false] rfl rfl (any_of HT_.out (by kernel_rfl)) (fun _ _ _ h => h) (Or.inl ⟨by rfl, ?_⟩) ?_ ?_
                                rotate_left
                                · intro w'
                                  go_simp
                                  with_reducible rfl
                                rotate_left
                                · simp only [Act.put, List.setIfInBounds_toArray, List.set_cons_zero, List.set_cons_succ, i64_w, i32_w]
                                  rfl
                                refine pure_ (i := 3) (N := some 102) (v := ?_) (a' := ?_) #[true, true, true, true, false, false, false, false, false, false, false, false, false, false, false, false] rfl rfl (any_of HT_.out (by kernel_rfl)) (fun _ _ _ h => h) (Or.inl ⟨by rfl, ?_⟩) ?_ ?_
                                rotate_left
                                · intro w'
                                  go_simp
                                  with_reducible rfl
                                rotate_left
                                · simp only [Act.put, List.setIfInBounds_toArray, List.set_cons_zero, List.set_cons_succ, i64_w, i32_w]
                                  rfl
                                refine pure_ (i := 5) (N := some 104) (v := ?_) (a' := ?_) #[true, true, true, true, false, true, false, false, false, false, false, false, false, false, false, false] rfl rfl (any_of HT_.out (by kernel_rfl)) (fun _ _ _ h => h) (Or.inl ⟨by rfl, ?_⟩) ?_ ?_
                                rotate_left
                                · intro w'
                                  go_simp
                                  with_reducible rfl
                                rotate_left
                                · simp only [Act.put, List.setIfInBounds_toArray, List.set_cons_zero, List.set_cons_succ, i64_w, i32_w]
                                  rfl
                                refine pure_ (i := 6) (N := some 105) (v := ?_) (a' := ?_) #[true, true, true, true, false, true, true, false, false, false, false, false, false, false, false, false] rfl rfl (any_of HT_.out (by kernel_rfl)) (fun _ _ _ h => h) (Or.inl ⟨by rfl, ?_⟩) ?_ ?_
                                rotate_left
                                · intro w'
                                  go_simp
                                  with_reducible rfl
                                rotate_left
                                · simp only [Act.put, List.setIfInBounds_toArray, List.set_cons_zero, List.set_cons_succ, i64_w, i32_w]
                                  rfl
                                refine pure_ (i := 7) (N := some 106) (v := ?_) (a' := ?_) #[true, true, true, true, false, true, true, true, false, false, false, false, false, false, false, false] rfl rfl (any_of HT_.out (by kernel_rfl)) (fun _ _ _ h => h) (Or.inl ⟨by rfl, ?_⟩) ?_ ?_
                                rotate_left
                                · intro w'
                                  go_simp
                                  with_reducible rfl
                                rotate_left
                                · simp only [Act.put, List.setIfInBounds_toArray, List.set_cons_zero, List.set_cons_succ, i64_w, i32_w]
                                  rfl
                                refine pure_ (i := 8) (N := some 107) (v := ?_) (a' := ?_) #[true, true, true, true, false, true, true, true, true, false, false, false, false, false, false, false] rfl rfl (any_of HT_.out (by kernel_rfl)) (fun _ _ _ h => h) (Or.inl ⟨by rfl, ?_⟩) ?_ ?_
                                rotate_left
                                · intro w'
                                  go_simp
                                  with_reducible rfl
                                rotate_left
                                · simp only [Act.put, List.setIfInBounds_toArray, List.set_cons_zero, List.set_cons_succ, i64_w, i32_w]
                                  rfl
                                refine take_ (i := 4) (N := some 103) (v := ?_) (a' := ?_) #[true, true, true, true, true, true, true, true, true, false, false, false, false, false, false, false] rfl rfl (take_ofW HT_.out HW_.out (by kernel_rfl)) (fun _ _ _ h => h) (Or.inl ⟨by rfl, ?_⟩) hHeld ?_ ?_
                                rotate_left
                                · rintro w' ⟨s0, s1, s2, s3, s4, s5⟩
                                  go_simp
                                  with_reducible rfl
                                rotate_left
                                · simp only [Act.put, List.setIfInBounds_toArray, List.set_cons_zero, List.set_cons_succ, i64_w, i32_w]
                                  rfl
                                refine take_ (i := 9) (N := some 108) (v := ?_) (a' := ?_) #[true, true, true, true, true, true, true, true, true, true, false, false, false, false, false, false] rfl rfl (take_ofW HT_.out HW_.out (by kernel_rfl)) (fun _ _ _ h => h) (Or.inl ⟨by rfl, ?_⟩) hHeld ?_ ?_
                                rotate_left
                                · rintro w' ⟨s0, s1, s2, s3, s4, s5⟩
                                  go_simp
                                  with_reducible rfl
                                rotate_left
                                · simp only [Act.put, List.setIfInBounds_toArray, List.set_cons_zero, List.set_cons_succ, i64_w, i32_w]
                                  rfl
                                refine one_ (i := 10) (N := some 109) #[true, true, true, true, true, true, true, true, true, true, true, false, false, false, false, false] rfl rfl (one_of HT_.out (by kernel_rfl)) (by decide) (fun K hK => ?_)
                                refine goes_ Try.func27 (by kernel_rfl) rfl #[.int .i64 ((rd_T47 t397 x14_3).f0), .string ((rd_T47 t397 x14_3).f2)] (by rfl) rfl rfl gAr ?_
                                with_reducible refine (frame_Put.calls ((rd_T47 t397 x14_3).f0) ((rd_T47 t397 x14_3).f2) t407 t408 _ A24.out).mono ?_
                                rintro e w34 ⟨rfl, hb⟩
                                have HS0_ := (hb.cell (World.block_lt_of_cell? _ _ (hHeld.1))).trans (hHeld.1)
                                have HS1_ := (hb.cell (World.block_lt_of_cell? _ _ (hHeld.2.1))).trans (hHeld.2.1)
                                have HS2_ := (hb.cell (World.block_lt_of_cell? _ _ (hHeld.2.2.1))).trans (hHeld.2.2.1)
                                have HS3_ := (hb.cell (World.block_lt_of_cell? _ _ (hHeld.2.2.2.1))).trans (hHeld.2.2.2.1)
                                have HS4_ := (hb.cell (World.block_lt_of_cell? _ _ (hHeld.2.2.2.2.1))).trans (hHeld.2.2.2.2.1)
                                have HS5_ := (hb.cell (World.block_lt_of_cell? _ _ (hHeld.2.2.2.2.2))).trans (hHeld.2.2.2.2.2)
                                refine ⟨_, rfl, ?_⟩
                                have n0_ := Aside0.mk (Kd.R_below (Kd.R_below HO_10.out bll) hb)
                                have n1_ := Aside0.mk (below_step (bel) hb)
                                clear HO_10
                                clear HB
                                have HO_10 := n0_
                                have HB := n1_
                                clear n0_ n1_
                                (try clear hb)
                                (try clear hb2)
                                (try clear hk)
                                (try clear hi)
                                refine hK.out _ _ ⟨HS0_, HS1_, HS2_, HS3_, HS4_, HS5_⟩ (fun hHeld => ?_)
                                clear hK K
                                refine norm_ (a' := ?_) ?_ ?_
                                rotate_left
                                · show Act.put _ (some 109) _ = _
                                  simp only [Act.put, List.setIfInBounds_toArray, List.set_cons_zero, List.set_cons_succ, i64_w, i32_w]
                                  rfl
                                refine pure_ (i := 11) (N := some 98) (v := ?_) (a' := ?_) #[true, true, true, true, true, true, true, true, true, true, true, true, false, false, false, false] rfl rfl (any_of HT_.out (by kernel_rfl)) (fun _ _ _ h => h) (Or.inl ⟨by rfl, ?_⟩) ?_ ?_
                                rotate_left
                                · intro w'
                                  go_simp
                                  with_reducible rfl
                                rotate_left
                                · simp only [Act.put, List.setIfInBounds_toArray, List.set_cons_zero, List.set_cons_succ, i64_w, i32_w]
                                  rfl
                                refine pure_ (i := 12) (N := some 110) (v := ?_) (a' := ?_) #[true, true, true, true, true, true, true, true, true, true, true, true, true, false, false, false] rfl rfl (any_of HT_.out (by kernel_rfl)) (fun _ _ _ h => h) (Or.inl ⟨by rfl, ?_⟩) ?_ ?_
                                rotate_left
                                · intro w'
                                  go_simp
                                  with_reducible rfl
                                rotate_left
                                · simp only [Act.put, List.setIfInBounds_toArray, List.set_cons_zero, List.set_cons_succ, i64_w, i32_w]
                                  rfl
                                refine pure_ (i := 13) (N := some 111) (v := ?_) (a' := ?_) #[true, true, true, true, true, true, true, true, true, true, true, true, true, true, false, false] rfl rfl (any_of HT_.out (by kernel_rfl)) (fun _ _ _ h => h) (Or.inl ⟨by rfl, ?_⟩) ?_ ?_
                                rotate_left
                                · intro w'
                                  go_simp
                                  with_reducible rfl
                                rotate_left
                                · simp only [Act.put, List.setIfInBounds_toArray, List.set_cons_zero, List.set_cons_succ, i64_w, i32_w]
                                  rfl
                                refine pure_ (i := 14) (N := some 15) (v := ?_) (a' := ?_) #[true, true, true, true, true, true, true, true, true, true, true, true, true, true, true, false] rfl rfl (any_of HT_.out (by kernel_rfl)) (fun _ _ _ h => h) (Or.inl ⟨by rfl, ?_⟩) ?_ ?_
                                rotate_left
                                · intro w'
                                  go_simp
                                  with_reducible rfl
                                rotate_left
                                · simp only [Act.put, List.setIfInBounds_toArray, List.set_cons_zero, List.set_cons_succ, i64_w, i32_w]
                                  rfl
                                refine pure_ (i := 15) (N := some 16) (v := ?_) (a' := ?_) #[true, true, true, true, true, true, true, true, true, true, true, true, true, true, true, true] rfl rfl (any_of HT_.out (by kernel_rfl)) (fun _ _ _ h => h) (Or.inl ⟨by rfl, ?_⟩) ?_ ?_
                                rotate_left
                                · intro w'
                                  go_simp
                                  with_reducible rfl
                                rotate_left
                                · simp only [Act.put, List.setIfInBounds_toArray, List.set_cons_zero, List.set_cons_succ, i64_w, i32_w]
                                  rfl
                                refine done_ (done_of HT_.out (by kernel_rfl)) ?_
                                have p409 : 0 ≤ (x14_3 : Int) := odt
                                have q409 : x14_3 < (t397.length : Int) := odt
                                obtain ⟨ad409, e409, hx409_0, hx409_1, hx409_2⟩ := at_T47 (Kd.R_reads' HO_10.out).2.2 x14_3 p409 q409
                                obtain rfl : ad404 = ad409 := (by injection e409)
                                replace p409 := eq_true p409
                                replace q409 := eq_true q409
                                try go_wp2
                                have n0_ := Aside0.mk (Kd.R_drew HO_10.out)
                                have n1_ := Aside0.mk (below_drew1 HB.out)
                                clear HO_10
                                clear HB
                                have HO_10 := n0_
                                have HB := n1_
                                clear n0_ n1_
                                have p410 : 0 ≤ (x14_3 : Int) := odt
                                have q410 : x14_3 < (t397.length : Int) := odt
                                obtain ⟨ad410, e410, hx410_0, hx410_1, hx410_2⟩ := at_T47 (Kd.R_reads' HO_10.out).2.2 x14_3 p410 q410
                                obtain rfl : ad404 = ad410 := (by injection e410)
                                replace p410 := eq_true p410
                                replace q410 := eq_true q410
                                refine start_ (n := 8) (S := fun w' => w'.cell? (ad404.add ((x14_3).toNat * 3)) = some (.int .i64 ((rd_T47 t397 x14_3).f0)) ∧ w'.cell? ⟨(ad404.add ((x14_3).toNat * 3)).block, (ad404.add ((x14_3).toNat * 3)).off + 1, none⟩ = some (.int .i64 ((rd_T47 t397 x14_3).f1)) ∧ w'.cell? ⟨(ad404.add ((x14_3).toNat * 3)).block, (ad404.add ((x14_3).toNat * 3)).off + 2, none⟩ = some (.string ((rd_T47 t397 x14_3).f2))) (ds := []) #[false, false, false, false, false, false, false, false] (by kernel_rfl) rfl rfl ⟨hx410_0, hx410_1, hx410_2⟩ (fun hHeld => ?_); refine with_tabW roadbooklaw18_FrameBack.tab18 roadbooklaw18_FrameBack.bits18 (fun HT_ HW_ => ?_)
                                generalize w34.drew = w35 at HO_10 HB hx410_0 hx410_1 hx410_2 hHeld ⊢
                                refine pure_ (i := 0) (N := some 118) (v := ?_) (a' := ?_) #[true, false, false, false, false, false, false, false] rfl rfl (any_of HT_.out (by kernel_rfl)) (fun _ _ _ h => h) (Or.inl ⟨by rfl, ?_⟩) ?_ ?_
                                rotate_left
                                · intro w'
                                  go_simp
                                  with_reducible rfl
                                rotate_left
                                · simp only [Act.put, List.setIfInBounds_toArray, List.set_cons_zero, List.set_cons_succ, i64_w, i32_w]
                                  rfl
                                refine pure_ (i := 1) (N := some 119) (v := ?_) (a' := ?_) #[true, true, false, false, false, false, false, false] rfl rfl (any_of HT_.out (by kernel_rfl)) (fun _ _ _ h => h) (Or.inl ⟨by rfl, ?_⟩) ?_ ?_
                                rotate_left
                                · intro w'
                                  go_simp
                                  with_reducible rfl
                                rotate_left
                                · simp only [Act.put, List.setIfInBounds_toArray, List.set_cons_zero, List.set_cons_succ, i64_w, i32_w]
                                  rfl
                                refine pure_ (i := 2) (N := some 120) (v := ?_) (a' := ?_) #[true, true, true, false, false, false, false, false] rfl rfl (any_of HT_.out (by kernel_rfl)) (fun _ _ _ h => h) (Or.inl ⟨by rfl, ?_⟩) ?_ ?_
                                rotate_left
                                · intro w'
                                  go_simp
                                  with_reducible rfl
                                rotate_left
                                · simp only [Act.put, List.setIfInBounds_toArray, List.set_cons_zero, List.set_cons_succ, i64_w, i32_w]
                                  rfl
                                refine pure_ (i := 3) (N := some 121) (v := ?_) (a' := ?_) #[true, true, true, true, false, false, false, false] rfl rfl (any_of HT_.out (by kernel_rfl)) (fun _ _ _ h => h) (Or.inl ⟨by rfl, ?_⟩) ?_ ?_
                                rotate_left
                                · intro w'
                                  go_simp
                                  with_reducible rfl
                                rotate_left
                                · simp only [Act.put, List.setIfInBounds_toArray, List.set_cons_zero, List.set_cons_succ, i64_w, i32_w]
                                  rfl
                                refine pure_ (i := 6) (N := some 15) (v := ?_) (a' := ?_) #[true, true, true, true, false, false, true, false] rfl rfl (any_of HT_.out (by kernel_rfl)) (fun _ _ _ h => h) (Or.inl ⟨by rfl, ?_⟩) ?_ ?_
                                rotate_left
                                · intro w'
                                  go_simp
                                  with_reducible rfl
                                rotate_left
                                · simp only [Act.put, List.setIfInBounds_toArray, List.set_cons_zero, List.set_cons_succ, i64_w, i32_w]
                                  rfl
                                refine take_ (i := 4) (N := some 122) (v := ?_) (a' := ?_) #[true, true, true, true, true, false, true, false] rfl rfl (take_ofW HT_.out HW_.out (by kernel_rfl)) (fun _ _ _ h => h) (Or.inl ⟨by rfl, ?_⟩) hHeld ?_ ?_
                                rotate_left
                                · rintro w' ⟨s0, s1, s2⟩
                                  go_simp
                                  with_reducible rfl
                                rotate_left
                                · simp only [Act.put, List.setIfInBounds_toArray, List.set_cons_zero, List.set_cons_succ, i64_w, i32_w]
                                  rfl
                                refine pure_ (i := 5) (N := some 123) (v := ?_) (a' := ?_) #[true, true, true, true, true, true, true, false] rfl rfl (any_of HT_.out (by kernel_rfl)) (fun _ _ _ h => h) (Or.inl ⟨by rfl, ?_⟩) ?_ ?_
                                rotate_left
                                · intro w'
                                  go_simp
                                  with_reducible rfl
                                rotate_left
                                · simp only [Act.put, List.setIfInBounds_toArray, List.set_cons_zero, List.set_cons_succ, i64_w, i32_w]
                                  rfl
                                refine pure_ (i := 7) (N := some 16) (v := ?_) (a' := ?_) #[true, true, true, true, true, true, true, true] rfl rfl (any_of HT_.out (by kernel_rfl)) (fun _ _ _ h => h) (Or.inl ⟨by rfl, ?_⟩) ?_ ?_
                                rotate_left
                                · intro w'
                                  go_simp
                                  with_reducible rfl
                                rotate_left
                                · simp only [Act.put, List.setIfInBounds_toArray, List.set_cons_zero, List.set_cons_succ, i64_w, i32_w]
                                  rfl
                                refine done_ (done_of HT_.out (by kernel_rfl)) ?_
                                try go_wp2
                                go_ret
                                exact ⟨rtE, bel⟩
                            · rw [if_neg c25] at H
                              have c25b0 : (((rd_T47 t397 x14_3).f0) == 0) = false := beq_eq_false_iff_ne.mpr c25
                              have c25b1 : (((rd_T47 t397 x14_3).f0) != 0) = true := bne_iff_ne.mpr c25
                              by_cases c36 : t408 = true
                              · subst c36
                                have H1 : (if x13_3.size + t407.size ≤ 9223372036854775807 then (roadbooklaw18_FrameBack.l0 k3 a0 t397 (x13_3 ++ t407) (wrap64 (x14_3 + 1))) else (none)) = some r := by rw [if_pos rfl] at H; exact H
                                clear H
                                have H := H1
                                clear H1
                                by_cases c37 : x13_3.size + t407.size ≤ 9223372036854775807
                                · rw [if_pos c37] at H
                                  have c37b0 := eq_true c37
                                  have c37b1 : decide (x13_3.size + t407.size ≤ 9223372036854775807) = true := decide_eq_true c37
                                  try have c37b2 : (9223372036854775807 < x13_3.size + t407.size) = False := eq_false (Nat.not_lt.2 c37)
                                  have H' := Aside0.mk H
                                  clear H
                                  obtain ⟨Ao38, co38, eo38⟩ := Kd.R_slice HO_10.out
                                  subst eo38
                                  have p404 : 0 ≤ (x14_3 : Int) := odt
                                  have q404 : x14_3 < (t397.length : Int) := odt
                                  obtain ⟨ad404, e404, hx404_0, hx404_1, hx404_2⟩ := at_T47 (Kd.R_reads' HO_10.out).2.2 x14_3 p404 q404
                                  cases e404
                                  replace p404 := eq_true p404
                                  replace q404 := eq_true q404
                                  try go_wp2
                                  have n0_ := Aside0.mk (Kd.R_drew HO_10.out)
                                  have n1_ := Aside0.mk (below_drew1 HB.out)
                                  clear HO_10
                                  clear HB
                                  have HO_10 := n0_
                                  have HB := n1_
                                  clear n0_ n1_
                                  have p405 : 0 ≤ (x14_3 : Int) := odt
                                  have q405 : x14_3 < (t397.length : Int) := odt
                                  obtain ⟨ad405, e405, hx405_0, hx405_1, hx405_2⟩ := at_T47 (Kd.R_reads' HO_10.out).2.2 x14_3 p405 q405
                                  obtain rfl : ad404 = ad405 := (by injection e405)
                                  replace p405 := eq_true p405
                                  replace q405 := eq_true q405
                                  have p406 : 0 ≤ (x14_3 : Int) := odt
                                  have q406 : x14_3 < (t397.length : Int) := odt
                                  obtain ⟨ad406, e406, hx406_0, hx406_1, hx406_2⟩ := at_T47 (Kd.R_reads' HO_10.out).2.2 x14_3 p406 q406
                                  obtain rfl : ad404 = ad406 := (by injection e406)
                                  replace p406 := eq_true p406
                                  replace q406 := eq_true q406
                                  refine start_ (n := 16) (S := fun w' => w'.cell? (ad404.add ((x14_3).toNat * 3)) = some (.int .i64 ((rd_T47 t397 x14_3).f0)) ∧ w'.cell? ⟨(ad404.add ((x14_3).toNat * 3)).block, (ad404.add ((x14_3).toNat * 3)).off + 1, none⟩ = some (.int .i64 ((rd_T47 t397 x14_3).f1)) ∧ w'.cell? ⟨(ad404.add ((x14_3).toNat * 3)).block, (ad404.add ((x14_3).toNat * 3)).off + 2, none⟩ = some (.string ((rd_T47 t397 x14_3).f2)) ∧ w'.cell? (ad404.add ((x14_3).toNat * 3)) = some (.int .i64 ((rd_T47 t397 x14_3).f0)) ∧ w'.cell? ⟨(ad404.add ((x14_3).toNat * 3)).block, (ad404.add ((x14_3).toNat * 3)).off + 1, none⟩ = some (.int .i64 ((rd_T47 t397 x14_3).f1)) ∧ w'.cell? ⟨(ad404.add ((x14_3).toNat * 3)).block, (ad404.add ((x14_3).toNat * 3)).off + 2, none⟩ = some (.string ((rd_T47 t397 x14_3).f2))) (ds := []) #[false, false, false, false, false, false, false, false, false, false, false, false, false, false, false, false] (by kernel_rfl) rfl rfl ⟨hx405_0, hx405_1, hx405_2, hx406_0, hx406_1, hx406_2⟩ (fun hHeld => ?_); refine with_tabW roadbooklaw18_FrameBack.tab16 roadbooklaw18_FrameBack.bits16 (fun HT_ HW_ => ?_)
                                  generalize wr.drew = w39 at HO_10 HB hx405_0 hx405_1 hx405_2 hx406_0 hx406_1 hx406_2 hHeld ⊢
                                  refine pure_ (i := 0) (N := some 99) (v := ?_) (a' := ?_) #[true, false, false, false, false, false, false, false, false, false, false, false, false, false, false, false] rfl rfl (any_of HT_.out (by kernel_rfl)) (fun _ _ _ h => h) (Or.inl ⟨by rfl, ?_⟩) ?_ ?_
                                  rotate_left
                                  · intro w'
                                    go_simp
                                    with_reducible rfl
                                  rotate_left
                                  · simp only [Act.put, List.setIfInBounds_toArray, List.set_cons_zero, List.set_cons_succ, i64_w, i32_w]
                                    rfl
                                  refine pure_ (i := 1) (N := some 100) (v := ?_) (a' := ?_) #[true, true, false, false, false, false, false, false, false, false, false, false, false, false, false, false] rfl rfl (any_of HT_.out (by kernel_rfl)) (fun _ _ _ h => h) (Or.inl ⟨by rfl, ?_⟩) ?_ ?_
                                  rotate_left
                                  · intro w'
                                    go_simp
                                    with_reducible rfl
                                  rotate_left
                                  · simp only [Act.put, List.setIfInBounds_toArray, List.set_cons_zero, List.set_cons_succ, i64_w, i32_w]
                                    rfl
                                  refine pure_ (i := 2) (N := some 101) (v := ?_) (a' := ?_) #[true, true, true, false, false, false, false, false, false, false, false, false, false, false, false, false] rfl rfl (any_of HT_.out (by kernel_rfl)) (fun _ _ _ h => h) (Or.inl ⟨by rfl, ?_⟩) ?_ ?_
                                  rotate_left
                                  · intro w'
                                    go_simp
                                    with_reducible rfl
                                  rotate_left
                                  · simp only [Act.put, List.setIfInBounds_toArray, List.set_cons_zero, List.set_cons_succ, i64_w, i32_w]
                                    rfl
                                  refine pure_ (i := 3) (N := some 102) (v := ?_) (a' := ?_) #[true, true, true, true, false, false, false, false, false, false, false, false, false, false, false, false] rfl rfl (any_of HT_.out (by kernel_rfl)) (fun _ _ _ h => h) (Or.inl ⟨by rfl, ?_⟩) ?_ ?_
                                  rotate_left
                                  · intro w'
                                    go_simp
                                    with_reducible rfl
                                  rotate_left
                                  · simp only [Act.put, List.setIfInBounds_toArray, List.set_cons_zero, List.set_cons_succ, i64_w, i32_w]
                                    rfl
                                  refine pure_ (i := 5) (N := some 104) (v := ?_) (a' := ?_) #[true, true, true, true, false, true, false, false, false, false, false, false, false, false, false, false] rfl rfl (any_of HT_.out (by kernel_rfl)) (fun _ _ _ h => h) (Or.inl ⟨by rfl, ?_⟩) ?_ ?_
                                  rotate_left
                                  · intro w'
                                    go_simp
                                    with_reducible rfl
                                  rotate_left
                                  · simp only [Act.put, List.setIfInBounds_toArray, List.set_cons_zero, List.set_cons_succ, i64_w, i32_w]
                                    rfl
                                  refine pure_ (i := 6) (N := some 105) (v := ?_) (a' := ?_) #[true, true, true, true, false, true, true, false, false, false, false, false, false, false, false, false] rfl rfl (any_of HT_.out (by kernel_rfl)) (fun _ _ _ h => h) (Or.inl ⟨by rfl, ?_⟩) ?_ ?_
                                  rotate_left
                                  · intro w'
                                    go_simp
                                    with_reducible rfl
                                  rotate_left
                                  · simp only [Act.put, List.setIfInBounds_toArray, List.set_cons_zero, List.set_cons_succ, i64_w, i32_w]
                                    rfl
                                  refine pure_ (i := 7) (N := some 106) (v := ?_) (a' := ?_) #[true, true, true, true, false, true, true, true, false, false, false, false, false, false, false, false] rfl rfl (any_of HT_.out (by kernel_rfl)) (fun _ _ _ h => h) (Or.inl ⟨by rfl, ?_⟩) ?_ ?_
                                  rotate_left
                                  · intro w'
                                    go_simp
                                    with_reducible rfl
                                  rotate_left
                                  · simp only [Act.put, List.setIfInBounds_toArray, List.set_cons_zero, List.set_cons_succ, i64_w, i32_w]
                                    rfl
                                  refine pure_ (i := 8) (N := some 107) (v := ?_) (a' := ?_) #[true, true, true, true, false, true, true, true, true, false, false, false, false, false, false, false] rfl rfl (any_of HT_.out (by kernel_rfl)) (fun _ _ _ h => h) (Or.inl ⟨by rfl, ?_⟩) ?_ ?_
                                  rotate_left
                                  · intro w'
                                    go_simp
                                    with_reducible rfl
                                  rotate_left
                                  · simp only [Act.put, List.setIfInBounds_toArray, List.set_cons_zero, List.set_cons_succ, i64_w, i32_w]
                                    rfl
                                  refine take_ (i := 4) (N := some 103) (v := ?_) (a' := ?_) #[true, true, true, true, true, true, true, true, true, false, false, false, false, false, false, false] rfl rfl (take_ofW HT_.out HW_.out (by kernel_rfl)) (fun _ _ _ h => h) (Or.inl ⟨by rfl, ?_⟩) hHeld ?_ ?_
                                  rotate_left
                                  · rintro w' ⟨s0, s1, s2, s3, s4, s5⟩
                                    go_simp
                                    with_reducible rfl
                                  rotate_left
                                  · simp only [Act.put, List.setIfInBounds_toArray, List.set_cons_zero, List.set_cons_succ, i64_w, i32_w]
                                    rfl
                                  refine take_ (i := 9) (N := some 108) (v := ?_) (a' := ?_) #[true, true, true, true, true, true, true, true, true, true, false, false, false, false, false, false] rfl rfl (take_ofW HT_.out HW_.out (by kernel_rfl)) (fun _ _ _ h => h) (Or.inl ⟨by rfl, ?_⟩) hHeld ?_ ?_
                                  rotate_left
                                  · rintro w' ⟨s0, s1, s2, s3, s4, s5⟩
                                    go_simp
                                    with_reducible rfl
                                  rotate_left
                                  · simp only [Act.put, List.setIfInBounds_toArray, List.set_cons_zero, List.set_cons_succ, i64_w, i32_w]
                                    rfl
                                  refine one_ (i := 10) (N := some 109) #[true, true, true, true, true, true, true, true, true, true, true, false, false, false, false, false] rfl rfl (one_of HT_.out (by kernel_rfl)) (by decide) (fun K hK => ?_)
                                  refine goes_ Try.func27 (by kernel_rfl) rfl #[.int .i64 ((rd_T47 t397 x14_3).f0), .string ((rd_T47 t397 x14_3).f2)] (by rfl) rfl rfl gAr ?_
                                  with_reducible refine (frame_Put.calls ((rd_T47 t397 x14_3).f0) ((rd_T47 t397 x14_3).f2) t407 true _ A24.out).mono ?_
                                  rintro e w40 ⟨rfl, hb⟩
                                  have HS0_ := (hb.cell (World.block_lt_of_cell? _ _ (hHeld.1))).trans (hHeld.1)
                                  have HS1_ := (hb.cell (World.block_lt_of_cell? _ _ (hHeld.2.1))).trans (hHeld.2.1)
                                  have HS2_ := (hb.cell (World.block_lt_of_cell? _ _ (hHeld.2.2.1))).trans (hHeld.2.2.1)
                                  have HS3_ := (hb.cell (World.block_lt_of_cell? _ _ (hHeld.2.2.2.1))).trans (hHeld.2.2.2.1)
                                  have HS4_ := (hb.cell (World.block_lt_of_cell? _ _ (hHeld.2.2.2.2.1))).trans (hHeld.2.2.2.2.1)
                                  have HS5_ := (hb.cell (World.block_lt_of_cell? _ _ (hHeld.2.2.2.2.2))).trans (hHeld.2.2.2.2.2)
                                  refine ⟨_, rfl, ?_⟩
                                  have n0_ := Aside0.mk (Kd.R_below (Kd.R_below HO_10.out bll) hb)
                                  have n1_ := Aside0.mk (below_step (bel) hb)
                                  clear HO_10
                                  clear HB
                                  have HO_10 := n0_
                                  have HB := n1_
                                  clear n0_ n1_
                                  (try clear hb)
                                  (try clear hb2)
                                  (try clear hk)
                                  (try clear hi)
                                  refine hK.out _ _ ⟨HS0_, HS1_, HS2_, HS3_, HS4_, HS5_⟩ (fun hHeld => ?_)
                                  clear hK K
                                  refine norm_ (a' := ?_) ?_ ?_
                                  rotate_left
                                  · show Act.put _ (some 109) _ = _
                                    simp only [Act.put, List.setIfInBounds_toArray, List.set_cons_zero, List.set_cons_succ, i64_w, i32_w]
                                    rfl
                                  refine pure_ (i := 11) (N := some 98) (v := ?_) (a' := ?_) #[true, true, true, true, true, true, true, true, true, true, true, true, false, false, false, false] rfl rfl (any_of HT_.out (by kernel_rfl)) (fun _ _ _ h => h) (Or.inl ⟨by rfl, ?_⟩) ?_ ?_
                                  rotate_left
                                  · intro w'
                                    go_simp
                                    with_reducible rfl
                                  rotate_left
                                  · simp only [Act.put, List.setIfInBounds_toArray, List.set_cons_zero, List.set_cons_succ, i64_w, i32_w]
                                    rfl
                                  refine pure_ (i := 12) (N := some 110) (v := ?_) (a' := ?_) #[true, true, true, true, true, true, true, true, true, true, true, true, true, false, false, false] rfl rfl (any_of HT_.out (by kernel_rfl)) (fun _ _ _ h => h) (Or.inl ⟨by rfl, ?_⟩) ?_ ?_
                                  rotate_left
                                  · intro w'
                                    go_simp
                                    with_reducible rfl
                                  rotate_left
                                  · simp only [Act.put, List.setIfInBounds_toArray, List.set_cons_zero, List.set_cons_succ, i64_w, i32_w]
                                    rfl
                                  refine pure_ (i := 13) (N := some 111) (v := ?_) (a' := ?_) #[true, true, true, true, true, true, true, true, true, true, true, true, true, true, false, false] rfl rfl (any_of HT_.out (by kernel_rfl)) (fun _ _ _ h => h) (Or.inl ⟨by rfl, ?_⟩) ?_ ?_
                                  rotate_left
                                  · intro w'
                                    go_simp
                                    with_reducible rfl
                                  rotate_left
                                  · simp only [Act.put, List.setIfInBounds_toArray, List.set_cons_zero, List.set_cons_succ, i64_w, i32_w]
                                    rfl
                                  refine pure_ (i := 14) (N := some 15) (v := ?_) (a' := ?_) #[true, true, true, true, true, true, true, true, true, true, true, true, true, true, true, false] rfl rfl (any_of HT_.out (by kernel_rfl)) (fun _ _ _ h => h) (Or.inl ⟨by rfl, ?_⟩) ?_ ?_
                                  rotate_left
                                  · intro w'
                                    go_simp
                                    with_reducible rfl
                                  rotate_left
                                  · simp only [Act.put, List.setIfInBounds_toArray, List.set_cons_zero, List.set_cons_succ, i64_w, i32_w]
                                    rfl
                                  refine pure_ (i := 15) (N := some 16) (v := ?_) (a' := ?_) #[true, true, true, true, true, true, true, true, true, true, true, true, true, true, true, true] rfl rfl (any_of HT_.out (by kernel_rfl)) (fun _ _ _ h => h) (Or.inl ⟨by rfl, ?_⟩) ?_ ?_
                                  rotate_left
                                  · intro w'
                                    go_simp
                                    with_reducible rfl
                                  rotate_left
                                  · simp only [Act.put, List.setIfInBounds_toArray, List.set_cons_zero, List.set_cons_succ, i64_w, i32_w]
                                    rfl
                                  refine done_ (done_of HT_.out (by kernel_rfl)) ?_
                                  have p409 : 0 ≤ (x14_3 : Int) := odt
                                  have q409 : x14_3 < (t397.length : Int) := odt
                                  obtain ⟨ad409, e409, hx409_0, hx409_1, hx409_2⟩ := at_T47 (Kd.R_reads' HO_10.out).2.2 x14_3 p409 q409
                                  obtain rfl : ad404 = ad409 := (by injection e409)
                                  replace p409 := eq_true p409
                                  replace q409 := eq_true q409
                                  try go_wp2
                                  go_roundg k3
                                  case measure => have := HJ2.out; have := HJ10.out; have := HK3.out; omega
                                  case rel => exact ⟨(x13_3 ++ t407), (wrap64 (x14_3 + 1)), rfS, rfS, H', ⟨by have := HJ2.out; have := HJ10.out; have := HK3.out; omega⟩, ⟨Kd.R_below HO_10.out bll⟩, ⟨bel⟩⟩
                                · rw [if_neg c37] at H
                                  exact absurd H (by simp)
                              · replace c36 := Bool.eq_false_iff.mpr c36
                                subst c36
                                have H1 : (some false) = some r := by rw [if_neg (show ¬ (false = true) by decide)] at H; exact H
                                clear H
                                have H := H1
                                clear H1
                                obtain rfl := Option.some.inj H
                                obtain ⟨Ao41, co41, eo41⟩ := Kd.R_slice HO_10.out
                                subst eo41
                                have p404 : 0 ≤ (x14_3 : Int) := odt
                                have q404 : x14_3 < (t397.length : Int) := odt
                                obtain ⟨ad404, e404, hx404_0, hx404_1, hx404_2⟩ := at_T47 (Kd.R_reads' HO_10.out).2.2 x14_3 p404 q404
                                cases e404
                                replace p404 := eq_true p404
                                replace q404 := eq_true q404
                                try go_wp2
                                have n0_ := Aside0.mk (Kd.R_drew HO_10.out)
                                have n1_ := Aside0.mk (below_drew1 HB.out)
                                clear HO_10
                                clear HB
                                have HO_10 := n0_
                                have HB := n1_
                                clear n0_ n1_
                                have p405 : 0 ≤ (x14_3 : Int) := odt
                                have q405 : x14_3 < (t397.length : Int) := odt
                                obtain ⟨ad405, e405, hx405_0, hx405_1, hx405_2⟩ := at_T47 (Kd.R_reads' HO_10.out).2.2 x14_3 p405 q405
                                obtain rfl : ad404 = ad405 := (by injection e405)
                                replace p405 := eq_true p405
                                replace q405 := eq_true q405
                                have p406 : 0 ≤ (x14_3 : Int) := odt
                                have q406 : x14_3 < (t397.length : Int) := odt
                                obtain ⟨ad406, e406, hx406_0, hx406_1, hx406_2⟩ := at_T47 (Kd.R_reads' HO_10.out).2.2 x14_3 p406 q406
                                obtain rfl : ad404 = ad406 := (by injection e406)
                                replace p406 := eq_true p406
                                replace q406 := eq_true q406
                                refine start_ (n := 16) (S := fun w' => w'.cell? (ad404.add ((x14_3).toNat * 3)) = some (.int .i64 ((rd_T47 t397 x14_3).f0)) ∧ w'.cell? ⟨(ad404.add ((x14_3).toNat * 3)).block, (ad404.add ((x14_3).toNat * 3)).off + 1, none⟩ = some (.int .i64 ((rd_T47 t397 x14_3).f1)) ∧ w'.cell? ⟨(ad404.add ((x14_3).toNat * 3)).block, (ad404.add ((x14_3).toNat * 3)).off + 2, none⟩ = some (.string ((rd_T47 t397 x14_3).f2)) ∧ w'.cell? (ad404.add ((x14_3).toNat * 3)) = some (.int .i64 ((rd_T47 t397 x14_3).f0)) ∧ w'.cell? ⟨(ad404.add ((x14_3).toNat * 3)).block, (ad404.add ((x14_3).toNat * 3)).off + 1, none⟩ = some (.int .i64 ((rd_T47 t397 x14_3).f1)) ∧ w'.cell? ⟨(ad404.add ((x14_3).toNat * 3)).block, (ad404.add ((x14_3).toNat * 3)).off + 2, none⟩ = some (.string ((rd_T47 t397 x14_3).f2))) (ds := []) #[false, false, false, false, false, false, false, false, false, false, false, false, false, false, false, false] (by kernel_rfl) rfl rfl ⟨hx405_0, hx405_1, hx405_2, hx406_0, hx406_1, hx406_2⟩ (fun hHeld => ?_); refine with_tabW roadbooklaw18_FrameBack.tab16 roadbooklaw18_FrameBack.bits16 (fun HT_ HW_ => ?_)
                                generalize wr.drew = w42 at HO_10 HB hx405_0 hx405_1 hx405_2 hx406_0 hx406_1 hx406_2 hHeld ⊢
                                refine pure_ (i := 0) (N := some 99) (v := ?_) (a' := ?_) #[true, false, false, false, false, false, false, false, false, false, false, false, false, false, false, false] rfl rfl (any_of HT_.out (by kernel_rfl)) (fun _ _ _ h => h) (Or.inl ⟨by rfl, ?_⟩) ?_ ?_
                                rotate_left
                                · intro w'
                                  go_simp
                                  with_reducible rfl
                                rotate_left
                                · simp only [Act.put, List.setIfInBounds_toArray, List.set_cons_zero, List.set_cons_succ, i64_w, i32_w]
                                  rfl
                                refine pure_ (i := 1) (N := some 100) (v := ?_) (a' := ?_) #[true, true, false, false, false, false, false, false, false, false, false, false, false, false, false, false] rfl rfl (any_of HT_.out (by kernel_rfl)) (fun _ _ _ h => h) (Or.inl ⟨by rfl, ?_⟩) ?_ ?_
                                rotate_left
                                · intro w'
                                  go_simp
                                  with_reducible rfl
                                rotate_left
                                · simp only [Act.put, List.setIfInBounds_toArray, List.set_cons_zero, List.set_cons_succ, i64_w, i32_w]
                                  rfl
                                refine pure_ (i := 2) (N := some 101) (v := ?_) (a' := ?_) #[true, true, true, false, false, false, false, false, false, false, false, false, false, false, false, false] rfl rfl (any_of HT_.out (by kernel_rfl)) (fun _ _ _ h => h) (Or.inl ⟨by rfl, ?_⟩) ?_ ?_
                                rotate_left
                                · intro w'
                                  go_simp
                                  with_reducible rfl
                                rotate_left
                                · simp only [Act.put, List.setIfInBounds_toArray, List.set_cons_zero, List.set_cons_succ, i64_w, i32_w]
                                  rfl
                                refine pure_ (i := 3) (N := some 102) (v := ?_) (a' := ?_) #[true, true, true, true, false, false, false, false, false, false, false, false, false, false, false, false] rfl rfl (any_of HT_.out (by kernel_rfl)) (fun _ _ _ h => h) (Or.inl ⟨by rfl, ?_⟩) ?_ ?_
                                rotate_left
                                · intro w'
                                  go_simp
                                  with_reducible rfl
                                rotate_left
                                · simp only [Act.put, List.setIfInBounds_toArray, List.set_cons_zero, List.set_cons_succ, i64_w, i32_w]
                                  rfl
                                refine pure_ (i := 5) (N := some 104) (v := ?_) (a' := ?_) #[true, true, true, true, false, true, false, false, false, false, false, false, false, false, false, false] rfl rfl (any_of HT_.out (by kernel_rfl)) (fun _ _ _ h => h) (Or.inl ⟨by rfl, ?_⟩) ?_ ?_
                                rotate_left
                                · intro w'
                                  go_simp
                                  with_reducible rfl
                                rotate_left
                                · simp only [Act.put, List.setIfInBounds_toArray, List.set_cons_zero, List.set_cons_succ, i64_w, i32_w]
                                  rfl
                                refine pure_ (i := 6) (N := some 105) (v := ?_) (a' := ?_) #[true, true, true, true, false, true, true, false, false, false, false, false, false, false, false, false] rfl rfl (any_of HT_.out (by kernel_rfl)) (fun _ _ _ h => h) (Or.inl ⟨by rfl, ?_⟩) ?_ ?_
                                rotate_left
                                · intro w'
                                  go_simp
                                  with_reducible rfl
                                rotate_left
                                · simp only [Act.put, List.setIfInBounds_toArray, List.set_cons_zero, List.set_cons_succ, i64_w, i32_w]
                                  rfl
                                refine pure_ (i := 7) (N := some 106) (v := ?_) (a' := ?_) #[true, true, true, true, false, true, true, true, false, false, false, false, false, false, false, false] rfl rfl (any_of HT_.out (by kernel_rfl)) (fun _ _ _ h => h) (Or.inl ⟨by rfl, ?_⟩) ?_ ?_
                                rotate_left
                                · intro w'
                                  go_simp
                                  with_reducible rfl
                                rotate_left
                                · simp only [Act.put, List.setIfInBounds_toArray, List.set_cons_zero, List.set_cons_succ, i64_w, i32_w]
                                  rfl
                                refine pure_ (i := 8) (N := some 107) (v := ?_) (a' := ?_) #[true, true, true, true, false, true, true, true, true, false, false, false, false, false, false, false] rfl rfl (any_of HT_.out (by kernel_rfl)) (fun _ _ _ h => h) (Or.inl ⟨by rfl, ?_⟩) ?_ ?_
                                rotate_left
                                · intro w'
                                  go_simp
                                  with_reducible rfl
                                rotate_left
                                · simp only [Act.put, List.setIfInBounds_toArray, List.set_cons_zero, List.set_cons_succ, i64_w, i32_w]
                                  rfl
                                refine take_ (i := 4) (N := some 103) (v := ?_) (a' := ?_) #[true, true, true, true, true, true, true, true, true, false, false, false, false, false, false, false] rfl rfl (take_ofW HT_.out HW_.out (by kernel_rfl)) (fun _ _ _ h => h) (Or.inl ⟨by rfl, ?_⟩) hHeld ?_ ?_
                                rotate_left
                                · rintro w' ⟨s0, s1, s2, s3, s4, s5⟩
                                  go_simp
                                  with_reducible rfl
                                rotate_left
                                · simp only [Act.put, List.setIfInBounds_toArray, List.set_cons_zero, List.set_cons_succ, i64_w, i32_w]
                                  rfl
                                refine take_ (i := 9) (N := some 108) (v := ?_) (a' := ?_) #[true, true, true, true, true, true, true, true, true, true, false, false, false, false, false, false] rfl rfl (take_ofW HT_.out HW_.out (by kernel_rfl)) (fun _ _ _ h => h) (Or.inl ⟨by rfl, ?_⟩) hHeld ?_ ?_
                                rotate_left
                                · rintro w' ⟨s0, s1, s2, s3, s4, s5⟩
                                  go_simp
                                  with_reducible rfl
                                rotate_left
                                · simp only [Act.put, List.setIfInBounds_toArray, List.set_cons_zero, List.set_cons_succ, i64_w, i32_w]
                                  rfl
                                refine one_ (i := 10) (N := some 109) #[true, true, true, true, true, true, true, true, true, true, true, false, false, false, false, false] rfl rfl (one_of HT_.out (by kernel_rfl)) (by decide) (fun K hK => ?_)
                                refine goes_ Try.func27 (by kernel_rfl) rfl #[.int .i64 ((rd_T47 t397 x14_3).f0), .string ((rd_T47 t397 x14_3).f2)] (by rfl) rfl rfl gAr ?_
                                with_reducible refine (frame_Put.calls ((rd_T47 t397 x14_3).f0) ((rd_T47 t397 x14_3).f2) t407 false _ A24.out).mono ?_
                                rintro e w43 ⟨rfl, hb⟩
                                have HS0_ := (hb.cell (World.block_lt_of_cell? _ _ (hHeld.1))).trans (hHeld.1)
                                have HS1_ := (hb.cell (World.block_lt_of_cell? _ _ (hHeld.2.1))).trans (hHeld.2.1)
                                have HS2_ := (hb.cell (World.block_lt_of_cell? _ _ (hHeld.2.2.1))).trans (hHeld.2.2.1)
                                have HS3_ := (hb.cell (World.block_lt_of_cell? _ _ (hHeld.2.2.2.1))).trans (hHeld.2.2.2.1)
                                have HS4_ := (hb.cell (World.block_lt_of_cell? _ _ (hHeld.2.2.2.2.1))).trans (hHeld.2.2.2.2.1)
                                have HS5_ := (hb.cell (World.block_lt_of_cell? _ _ (hHeld.2.2.2.2.2))).trans (hHeld.2.2.2.2.2)
                                refine ⟨_, rfl, ?_⟩
                                have n0_ := Aside0.mk (Kd.R_below (Kd.R_below HO_10.out bll) hb)
                                have n1_ := Aside0.mk (below_step (bel) hb)
                                clear HO_10
                                clear HB
                                have HO_10 := n0_
                                have HB := n1_
                                clear n0_ n1_
                                (try clear hb)
                                (try clear hb2)
                                (try clear hk)
                                (try clear hi)
                                refine hK.out _ _ ⟨HS0_, HS1_, HS2_, HS3_, HS4_, HS5_⟩ (fun hHeld => ?_)
                                clear hK K
                                refine norm_ (a' := ?_) ?_ ?_
                                rotate_left
                                · show Act.put _ (some 109) _ = _
                                  simp only [Act.put, List.setIfInBounds_toArray, List.set_cons_zero, List.set_cons_succ, i64_w, i32_w]
                                  rfl
                                refine pure_ (i := 11) (N := some 98) (v := ?_) (a' := ?_) #[true, true, true, true, true, true, true, true, true, true, true, true, false, false, false, false] rfl rfl (any_of HT_.out (by kernel_rfl)) (fun _ _ _ h => h) (Or.inl ⟨by rfl, ?_⟩) ?_ ?_
                                rotate_left
                                · intro w'
                                  go_simp
                                  with_reducible rfl
                                rotate_left
                                · simp only [Act.put, List.setIfInBounds_toArray, List.set_cons_zero, List.set_cons_succ, i64_w, i32_w]
                                  rfl
                                refine pure_ (i := 12) (N := some 110) (v := ?_) (a' := ?_) #[true, true, true, true, true, true, true, true, true, true, true, true, true, false, false, false] rfl rfl (any_of HT_.out (by kernel_rfl)) (fun _ _ _ h => h) (Or.inl ⟨by rfl, ?_⟩) ?_ ?_
                                rotate_left
                                · intro w'
                                  go_simp
                                  with_reducible rfl
                                rotate_left
                                · simp only [Act.put, List.setIfInBounds_toArray, List.set_cons_zero, List.set_cons_succ, i64_w, i32_w]
                                  rfl
                                refine pure_ (i := 13) (N := some 111) (v := ?_) (a' := ?_) #[true, true, true, true, true, true, true, true, true, true, true, true, true, true, false, false] rfl rfl (any_of HT_.out (by kernel_rfl)) (fun _ _ _ h => h) (Or.inl ⟨by rfl, ?_⟩) ?_ ?_
                                rotate_left
                                · intro w'
                                  go_simp
                                  with_reducible rfl
                                rotate_left
                                · simp only [Act.put, List.setIfInBounds_toArray, List.set_cons_zero, List.set_cons_succ, i64_w, i32_w]
                                  rfl
                                refine pure_ (i := 14) (N := some 15) (v := ?_) (a' := ?_) #[true, true, true, true, true, true, true, true, true, true, true, true, true, true, true, false] rfl rfl (any_of HT_.out (by kernel_rfl)) (fun _ _ _ h => h) (Or.inl ⟨by rfl, ?_⟩) ?_ ?_
                                rotate_left
                                · intro w'
                                  go_simp
                                  with_reducible rfl
                                rotate_left
                                · simp only [Act.put, List.setIfInBounds_toArray, List.set_cons_zero, List.set_cons_succ, i64_w, i32_w]
                                  rfl
                                refine pure_ (i := 15) (N := some 16) (v := ?_) (a' := ?_) #[true, true, true, true, true, true, true, true, true, true, true, true, true, true, true, true] rfl rfl (any_of HT_.out (by kernel_rfl)) (fun _ _ _ h => h) (Or.inl ⟨by rfl, ?_⟩) ?_ ?_
                                rotate_left
                                · intro w'
                                  go_simp
                                  with_reducible rfl
                                rotate_left
                                · simp only [Act.put, List.setIfInBounds_toArray, List.set_cons_zero, List.set_cons_succ, i64_w, i32_w]
                                  rfl
                                refine done_ (done_of HT_.out (by kernel_rfl)) ?_
                                have p409 : 0 ≤ (x14_3 : Int) := odt
                                have q409 : x14_3 < (t397.length : Int) := odt
                                obtain ⟨ad409, e409, hx409_0, hx409_1, hx409_2⟩ := at_T47 (Kd.R_reads' HO_10.out).2.2 x14_3 p409 q409
                                obtain rfl : ad404 = ad409 := (by injection e409)
                                replace p409 := eq_true p409
                                replace q409 := eq_true q409
                                try go_wp2
                                go_ret
                                exact ⟨rtE, bel⟩
                          · rw [if_neg c23] at H
                            have c23b0 : (((rd_T47 t397 x14_3).f1) == (wrap64 (4 + (x13_3.size : Int)))) = false := beq_eq_false_iff_ne.mpr c23
                            have c23b1 : (((rd_T47 t397 x14_3).f1) != (wrap64 (4 + (x13_3.size : Int)))) = true := bne_iff_ne.mpr c23
                            obtain rfl := Option.some.inj H
                            obtain ⟨Ao44, co44, eo44⟩ := Kd.R_slice HO_10.out
                            subst eo44
                            have p404 : 0 ≤ (x14_3 : Int) := odt
                            have q404 : x14_3 < (t397.length : Int) := odt
                            obtain ⟨ad404, e404, hx404_0, hx404_1, hx404_2⟩ := at_T47 (Kd.R_reads' HO_10.out).2.2 x14_3 p404 q404
                            cases e404
                            replace p404 := eq_true p404
                            replace q404 := eq_true q404
                            go_wp2
                            go_ret
                            exact ⟨rtE, bel⟩
                        · rw [if_neg c22] at H
                          exact absurd H (by simp)
                      · rw [if_neg c21] at H
                        have c21b0 : decide (x14_3 < (t397.length : Int)) = false := decide_eq_false c21
                        clear c21
                        replace H := Option.bind_eq_some_iff.mp H
                        obtain ⟨t403, A450, H⟩ := H
                        replace H : (if t403 = true then (some (x13_3.toList == a0.toList)) else (some false)) = some r := H
                        have A45 := Aside0.mk A450
                        clear A450
                        by_cases c46 : t403 = true
                        · subst c46
                          have H1 : (some (x13_3.toList == a0.toList)) = some r := by rw [if_pos rfl] at H; exact H
                          clear H
                          have H := H1
                          clear H1
                          obtain rfl := Option.some.inj H
                          obtain ⟨Ao47, co47, eo47⟩ := Kd.R_slice HO_10.out
                          subst eo47
                          go_wp2_with (first | ((with_reducible refine gate_callee (f := 17) rfl ?_); refine goesL_ (some 129) rfl rfl Try.func17 (by kernel_rfl) rfl #[] rfl gAr ?_; (with_reducible refine (roadbooklaw18_awake.calls k3  true _ A45.out).mono ?_); rintro e w48 ⟨rfl, hb⟩; refine ⟨_, rfl, ?_⟩; have n0_ := Aside0.mk (Kd.R_below (Kd.R_below HO_10.out bll) hb); have n1_ := Aside0.mk (below_step (bel) hb); clear HO_10; clear HB; have HO_10 := n0_; have HB := n1_; clear n0_ n1_; (try clear hb)))
                          go_ret
                          exact ⟨rtE, bel⟩
                        · replace c46 := Bool.eq_false_iff.mpr c46
                          subst c46
                          have H1 : (some false) = some r := by rw [if_neg (show ¬ (false = true) by decide)] at H; exact H
                          clear H
                          have H := H1
                          clear H1
                          obtain rfl := Option.some.inj H
                          obtain ⟨Ao49, co49, eo49⟩ := Kd.R_slice HO_10.out
                          subst eo49
                          go_wp2_with (first | ((with_reducible refine gate_callee (f := 17) rfl ?_); refine goesL_ (some 129) rfl rfl Try.func17 (by kernel_rfl) rfl #[] rfl gAr ?_; (with_reducible refine (roadbooklaw18_awake.calls k3  false _ A45.out).mono ?_); rintro e w50 ⟨rfl, hb⟩; refine ⟨_, rfl, ?_⟩; have n0_ := Aside0.mk (Kd.R_below (Kd.R_below HO_10.out bll) hb); have n1_ := Aside0.mk (below_step (bel) hb); clear HO_10; clear HB; have HO_10 := n0_; have HB := n1_; clear n0_ n1_; (try clear hb)))
                          go_ret
                          exact ⟨rtE, bel⟩
                · rw [if_neg c19] at H
                  have c19b0 : (t399 == 0) = false := beq_eq_false_iff_ne.mpr c19
                  have c19b1 : (t399 != 0) = true := bne_iff_ne.mpr c19
                  replace H := Option.bind_eq_some_iff.mp H
                  obtain ⟨t402, A510, H⟩ := H
                  replace H : (if t402 = true then (if (t397.length : Int) = 0 then (if t398 ≥ 4 then (some (decide (t398 < (wrap64 (4 + (a0.size : Int)))))) else (some false)) else (some false)) else (some false)) = some r := H
                  have A51 := Aside0.mk A510
                  clear A510
                  by_cases c52 : t402 = true
                  · subst c52
                    have H1 : (if (t397.length : Int) = 0 then (if t398 ≥ 4 then (some (decide (t398 < (wrap64 (4 + (a0.size : Int)))))) else (some false)) else (some false)) = some r := by rw [if_pos rfl] at H; exact H
                    clear H
                    have H := H1
                    clear H1
                    by_cases c53 : (t397.length : Int) = 0
                    · rw [if_pos c53] at H
                      have c53b0 : ((t397.length : Int) == 0) = true := beq_iff_eq.mpr c53
                      have c53b1 : ((t397.length : Int) != 0) = false := bne_eq_false_iff_eq.mpr c53
                      clear c53
                      by_cases c54 : t398 ≥ 4
                      · rw [if_pos c54] at H
                        have c54b0 : decide (4 ≤ t398) = true := decide_eq_true c54
                        clear c54
                        obtain rfl := Option.some.inj H
                        go_wp2_with (first | ((with_reducible refine gate_callee (f := 18) rfl ?_); refine goesL_ (some 60) rfl rfl Try.func18 (by kernel_rfl) rfl #[.string a0, .int .i64 4] rfl gAr ?_; (with_reducible refine (frame_Split.calls kj10 a0 4 t397 t398 t399 _ A18.out).mono ?_); rintro e w55 ⟨v400, rfl, ho0, hb⟩; refine ⟨_, rfl, ?_⟩; have n0_ := Aside0.mk (Kd.R_lower ho0 bsz); have n1_ := Aside0.mk (below_step (bel) hb); clear HB; have HO401 := n0_; have HB := n1_; clear n0_ n1_; (try clear hb); (try clear ho0)) | ((with_reducible refine gate_callee (f := 17) rfl ?_); refine goesL_ (some 66) rfl rfl Try.func17 (by kernel_rfl) rfl #[] rfl gAr ?_; (with_reducible refine (roadbooklaw18_awake.calls kj10  true _ A51.out).mono ?_); rintro e w56 ⟨rfl, hb⟩; refine ⟨_, rfl, ?_⟩; have n0_ := Aside0.mk (Kd.R_below (Kd.R_below HO401.out bll) hb); have n1_ := Aside0.mk (below_step (bel) hb); clear HO401; clear HB; have HO401 := n0_; have HB := n1_; clear n0_ n1_; (try clear hb); obtain ⟨Ao57, co57, eo57⟩ := Kd.R_slice HO401.out; subst eo57))
                        go_ret
                        exact ⟨rtE, bel⟩
                      · rw [if_neg c54] at H
                        have c54b0 : decide (4 ≤ t398) = false := decide_eq_false c54
                        clear c54
                        obtain rfl := Option.some.inj H
                        go_wp2_with (first | ((with_reducible refine gate_callee (f := 18) rfl ?_); refine goesL_ (some 60) rfl rfl Try.func18 (by kernel_rfl) rfl #[.string a0, .int .i64 4] rfl gAr ?_; (with_reducible refine (frame_Split.calls kj10 a0 4 t397 t398 t399 _ A18.out).mono ?_); rintro e w58 ⟨v400, rfl, ho0, hb⟩; refine ⟨_, rfl, ?_⟩; have n0_ := Aside0.mk (Kd.R_lower ho0 bsz); have n1_ := Aside0.mk (below_step (bel) hb); clear HB; have HO401 := n0_; have HB := n1_; clear n0_ n1_; (try clear hb); (try clear ho0)) | ((with_reducible refine gate_callee (f := 17) rfl ?_); refine goesL_ (some 66) rfl rfl Try.func17 (by kernel_rfl) rfl #[] rfl gAr ?_; (with_reducible refine (roadbooklaw18_awake.calls kj10  true _ A51.out).mono ?_); rintro e w59 ⟨rfl, hb⟩; refine ⟨_, rfl, ?_⟩; have n0_ := Aside0.mk (Kd.R_below (Kd.R_below HO401.out bll) hb); have n1_ := Aside0.mk (below_step (bel) hb); clear HO401; clear HB; have HO401 := n0_; have HB := n1_; clear n0_ n1_; (try clear hb); obtain ⟨Ao60, co60, eo60⟩ := Kd.R_slice HO401.out; subst eo60))
                        go_ret
                        exact ⟨rtE, bel⟩
                    · rw [if_neg c53] at H
                      have c53b0 : ((t397.length : Int) == 0) = false := beq_eq_false_iff_ne.mpr c53
                      have c53b1 : ((t397.length : Int) != 0) = true := bne_iff_ne.mpr c53
                      have c53b2 : ¬ (t397 = []) := fun h_ => c53 (by rw [h_]; rfl)
                      obtain rfl := Option.some.inj H
                      go_wp2_with (first | ((with_reducible refine gate_callee (f := 18) rfl ?_); refine goesL_ (some 60) rfl rfl Try.func18 (by kernel_rfl) rfl #[.string a0, .int .i64 4] rfl gAr ?_; (with_reducible refine (frame_Split.calls kj10 a0 4 t397 t398 t399 _ A18.out).mono ?_); rintro e w61 ⟨v400, rfl, ho0, hb⟩; refine ⟨_, rfl, ?_⟩; have n0_ := Aside0.mk (Kd.R_lower ho0 bsz); have n1_ := Aside0.mk (below_step (bel) hb); clear HB; have HO401 := n0_; have HB := n1_; clear n0_ n1_; (try clear hb); (try clear ho0)) | ((with_reducible refine gate_callee (f := 17) rfl ?_); refine goesL_ (some 66) rfl rfl Try.func17 (by kernel_rfl) rfl #[] rfl gAr ?_; (with_reducible refine (roadbooklaw18_awake.calls kj10  true _ A51.out).mono ?_); rintro e w62 ⟨rfl, hb⟩; refine ⟨_, rfl, ?_⟩; have n0_ := Aside0.mk (Kd.R_below (Kd.R_below HO401.out bll) hb); have n1_ := Aside0.mk (below_step (bel) hb); clear HO401; clear HB; have HO401 := n0_; have HB := n1_; clear n0_ n1_; (try clear hb); obtain ⟨Ao63, co63, eo63⟩ := Kd.R_slice HO401.out; subst eo63))
                      go_ret
                      exact ⟨rtE, bel⟩
                  · replace c52 := Bool.eq_false_iff.mpr c52
                    subst c52
                    have H1 : (some false) = some r := by rw [if_neg (show ¬ (false = true) by decide)] at H; exact H
                    clear H
                    have H := H1
                    clear H1
                    obtain rfl := Option.some.inj H
                    go_wp2_with (first | ((with_reducible refine gate_callee (f := 18) rfl ?_); refine goesL_ (some 60) rfl rfl Try.func18 (by kernel_rfl) rfl #[.string a0, .int .i64 4] rfl gAr ?_; (with_reducible refine (frame_Split.calls kj10 a0 4 t397 t398 t399 _ A18.out).mono ?_); rintro e w64 ⟨v400, rfl, ho0, hb⟩; refine ⟨_, rfl, ?_⟩; have n0_ := Aside0.mk (Kd.R_lower ho0 bsz); have n1_ := Aside0.mk (below_step (bel) hb); clear HB; have HO401 := n0_; have HB := n1_; clear n0_ n1_; (try clear hb); (try clear ho0)) | ((with_reducible refine gate_callee (f := 17) rfl ?_); refine goesL_ (some 66) rfl rfl Try.func17 (by kernel_rfl) rfl #[] rfl gAr ?_; (with_reducible refine (roadbooklaw18_awake.calls kj10  false _ A51.out).mono ?_); rintro e w65 ⟨rfl, hb⟩; refine ⟨_, rfl, ?_⟩; have n0_ := Aside0.mk (Kd.R_below (Kd.R_below HO401.out bll) hb); have n1_ := Aside0.mk (below_step (bel) hb); clear HO401; clear HB; have HO401 := n0_; have HB := n1_; clear n0_ n1_; (try clear hb)))
                    go_ret
                    exact ⟨rtE, bel⟩
        · rw [if_neg c9] at H
          exact absurd H (by simp)

/-- THE ONE PURE STATEMENT of roadbooklaw18_FrameBack. -/
def roadbooklaw18_FrameBack.Pure : Prop := ∀ (a0 : ByteArray) (a1 : ByteArray), a0.size ≤ 140737488351232 → a1.size ≤ 140737488351232 → ∃ k, roadbooklaw18_FrameBack.f k a0 a1 = some true
theorem roadbooklaw18_FrameBack.walk (P : roadbooklaw18_FrameBack.Pure) (a0 : ByteArray) (a1 : ByteArray) (w : World) (g0 : a0.size ≤ 140737488351232) (g1 : a1.size ≤ 140737488351232) :
    Calls Try.prog 8 #[.string a0, .string a1] w fun e w' => e = .returned (.bool true) ∧ Below w.heap.size w w' := by
  obtain ⟨k, h⟩ := P a0 a1 g0 g1
  refine (roadbooklaw18_FrameBack.calls k a0 a1 true w h).mono ?_
  rintro e w' ⟨rfl, hd⟩
  exact ⟨rfl, hd⟩

end Go.Proofs.Ytjgnpggpgkkknaa.Pr
