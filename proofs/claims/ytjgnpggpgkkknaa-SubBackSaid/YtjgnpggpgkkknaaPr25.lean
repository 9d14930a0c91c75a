-- Written by wip/tools/xprint.py of this repo over the kit's printer, out of the translation. Lean checks it.
import Derived.Test.YtjgnpggpgkkknaaPr0
import Derived.Test.YtjgnpggpgkkknaaPr13
import Derived.Test.YtjgnpggpgkkknaaPr14
import Derived.Test.YtjgnpggpgkkknaaPr17
namespace Go.Proofs.Ytjgnpggpgkkknaa.Pr
open Go.RowKit Go.Proofs.YtjgnpggpgkkknaaW.PrintWords Go.Proofs.YtjgnpggpgkkknaaW.PrintLast
set_option linter.unusedVariables false
set_option linter.unusedSimpArgs false

/-! ### roadbooklaw19_SubBack: function 10 -/
mutual
def roadbooklaw19_SubBack.j0 : Nat → List (S78) → ByteArray → Bool → Option (Bool)
  | 0, _, _, _ => none
  | k + 1, x0, x1, x25 => if x25 = true then ((roadbooklaw19_awake.f k).bind fun t508 => (some t508)) else ((sub_Put.f k x0).bind fun bt509 => ((sub_Right.f k x0).bind fun t511 => (if (bt509.2 != t511) = true then (some false) else ((sub_Get.f k bt509.1).bind fun bt512 => (if bt509.2 = true then (if bt512.2.2 = 0 then (if bt512.2.1 = true then ((roadbooklaw19_same.f k x0 bt512.1).bind fun t517 => (roadbooklaw19_SubBack.j1 k x1 (!t517))) else (roadbooklaw19_SubBack.j1 k x1 true)) else (roadbooklaw19_SubBack.j1 k x1 true)) else (roadbooklaw19_SubBack.j1 k x1 false))))))
def roadbooklaw19_SubBack.j1 : Nat → ByteArray → Bool → Option (Bool)
  | 0, _, _ => none
  | k + 1, x1, x56 => if x56 = true then (some false) else ((sub_Get.f k x1).bind fun bt518 => (if bt518.2.2 = 0 then ((sub_Put.f k bt518.1).bind fun bt524 => ((sub_Get.f k bt524.1).bind fun bt526 => ((roadbooklaw19_awake.f k).bind fun t531 => (if t531 = true then (if bt524.2 = true then ((roadbooklaw19_same.f k bt518.1 bt526.1).bind fun t532 => (if t532 = true then (some (decide ((bt524.1.size : Int) ≤ (x1.size : Int)))) else (some false))) else (some false)) else (some false))))) else ((roadbooklaw19_awake.f k).bind fun t523 => (if t523 = true then (some ((bt518.1.length : Int) == 0)) else (some false)))))
end
def roadbooklaw19_SubBack.f (k : Nat) (l0 : List (S78)) (a1 : ByteArray) : Option (Bool) := (roadbooklaw19_few.f k l0).bind fun t507 => (if t507 = true then (roadbooklaw19_SubBack.j0 k l0 a1 (decide ((a1.size : Int) > 1000))) else (roadbooklaw19_SubBack.j0 k l0 a1 true))
theorem roadbooklaw19_SubBack.mono_l : ∀ k, (∀ y0 y1 y2, LeO (roadbooklaw19_SubBack.j0 k y0 y1 y2) (roadbooklaw19_SubBack.j0 (k + 1) y0 y1 y2)) ∧ (∀ y0 y1, LeO (roadbooklaw19_SubBack.j1 k y0 y1) (roadbooklaw19_SubBack.j1 (k + 1) y0 y1))
  | 0 => ⟨fun _ _ _ r h => by simp [roadbooklaw19_SubBack.j0] at h, fun _ _ r h => by simp [roadbooklaw19_SubBack.j1] at h⟩
  | k + 1 => by
    obtain ⟨ih0, ih1⟩ := roadbooklaw19_SubBack.mono_l k
    refine ⟨?_, ?_⟩
    · intro y0 y1 y2
      unfold roadbooklaw19_SubBack.j0
      repeat' first
      | (with_reducible exact ih0 _ _ _)
      | (with_reducible exact ih1 _ _)
      | (with_reducible exact roadbooklaw19_awake.mono _)
      | (with_reducible exact roadbooklaw19_few.mono _ _)
      | (with_reducible exact roadbooklaw19_same.mono _ _ _)
      | (with_reducible exact sub_Get.mono _ _)
      | (with_reducible exact sub_Put.mono _ _)
      | (with_reducible exact sub_Right.mono _ _)
      | (with_reducible exact LeO.refl _)
      | (with_reducible exact LeO.none _)
      | (with_reducible refine LeO.ite ?_ ?_)
      | (with_reducible refine LeO.bind ?_ (fun _ => ?_))
      | exact ih0 _ _ _
      | exact ih1 _ _
      | exact roadbooklaw19_awake.mono _
      | exact roadbooklaw19_few.mono _ _
      | exact roadbooklaw19_same.mono _ _ _
      | exact sub_Get.mono _ _
      | exact sub_Put.mono _ _
      | exact sub_Right.mono _ _
      | exact LeO.none _
      | refine LeO.ite ?_ ?_
      | refine LeO.bind ?_ (fun _ => ?_)
    · intro y0 y1
      unfold roadbooklaw19_SubBack.j1
      repeat' first
      | (with_reducible exact ih0 _ _ _)
      | (with_reducible exact ih1 _ _)
      | (with_reducible exact roadbooklaw19_awake.mono _)
      | (with_reducible exact roadbooklaw19_few.mono _ _)
      | (with_reducible exact roadbooklaw19_same.mono _ _ _)
      | (with_reducible exact sub_Get.mono _ _)
      | (with_reducible exact sub_Put.mono _ _)
      | (with_reducible exact sub_Right.mono _ _)
      | (with_reducible exact LeO.refl _)
      | (with_reducible exact LeO.none _)
      | (with_reducible refine LeO.ite ?_ ?_)
      | (with_reducible refine LeO.bind ?_ (fun _ => ?_))
      | exact ih0 _ _ _
      | exact ih1 _ _
      | exact roadbooklaw19_awake.mono _
      | exact roadbooklaw19_few.mono _ _
      | exact roadbooklaw19_same.mono _ _ _
      | exact sub_Get.mono _ _
      | exact sub_Put.mono _ _
      | exact sub_Right.mono _ _
      | exact LeO.none _
      | refine LeO.ite ?_ ?_
      | refine LeO.bind ?_ (fun _ => ?_)
theorem roadbooklaw19_SubBack.mono : ∀ a0 a1 k, LeO (roadbooklaw19_SubBack.f k a0 a1) (roadbooklaw19_SubBack.f (k + 1) a0 a1) := by
  intro a0 a1 k
  obtain ⟨ih0, ih1⟩ := roadbooklaw19_SubBack.mono_l k
  unfold roadbooklaw19_SubBack.f
  repeat' first
      | (with_reducible exact ih0 _ _ _)
      | (with_reducible exact ih1 _ _)
      | (with_reducible exact roadbooklaw19_awake.mono _)
      | (with_reducible exact roadbooklaw19_few.mono _ _)
      | (with_reducible exact roadbooklaw19_same.mono _ _ _)
      | (with_reducible exact sub_Get.mono _ _)
      | (with_reducible exact sub_Put.mono _ _)
      | (with_reducible exact sub_Right.mono _ _)
      | (with_reducible exact LeO.refl _)
      | (with_reducible exact LeO.none _)
      | (with_reducible refine LeO.ite ?_ ?_)
      | (with_reducible refine LeO.bind ?_ (fun _ => ?_))
      | exact ih0 _ _ _
      | exact ih1 _ _
      | exact roadbooklaw19_awake.mono _
      | exact roadbooklaw19_few.mono _ _
      | exact roadbooklaw19_same.mono _ _ _
      | exact sub_Get.mono _ _
      | exact sub_Put.mono _ _
      | exact sub_Right.mono _ _
      | exact LeO.none _
      | refine LeO.ite ?_ ?_
      | refine LeO.bind ?_ (fun _ => ?_)
set_option maxHeartbeats 8000000 in
set_option maxRecDepth 100000 in
theorem roadbooklaw19_SubBack.calls (k : Nat) (A0 : Option Addr) (c0 : Nat) (l0 : List (S78)) (a1 : ByteArray) (r : Bool) (w : World) (hr0 : Kd.C k78 w A0 l0.length l0) (hc0 : l0.length ≤ c0) (h : roadbooklaw19_SubBack.f k l0 a1 = some r) :
    Calls Try.prog 10 #[.slice A0 l0.length c0, .string a1] w fun e w' => e = .returned (.bool r) ∧ Below w.heap.size w w' := by
  have HR0 := Aside0.mk hr0
  have HC0 := Aside0.mk hc0
  clear hr0 hc0
  have HB := Aside0.mk (Below.refl w.heap.size w)
  have H : ((roadbooklaw19_few.f k l0).bind fun t507 => (if t507 = true then (roadbooklaw19_SubBack.j0 k l0 a1 (decide ((a1.size : Int) > 1000))) else (roadbooklaw19_SubBack.j0 k l0 a1 true))) = some r := h
  clear h
  have HC3 := Aside0.mk H
  clear H
  go_enter Try.func10, Try.ntmps10
  go_upto_region 1 with (fail)
  go_cut [25] (fun v25 wc => ∃ (kq : Nat) (x25_2 : Bool), v25 = .bool x25_2 ∧ Aside0 (roadbooklaw19_SubBack.j0 kq l0 a1 x25_2 = some r) ∧ Aside0 (kq ≤ k) ∧ Aside0 (Below w.heap.size w wc))
  case first =>
    have H := HC3.out
    clear HC3
    replace H := Option.bind_eq_some_iff.mp H
    obtain ⟨t507, A40, H⟩ := H
    replace H : (if t507 = true then (roadbooklaw19_SubBack.j0 k l0 a1 (decide ((a1.size : Int) > 1000))) else (roadbooklaw19_SubBack.j0 k l0 a1 true)) = some r := H
    have A4 := Aside0.mk A40
    clear A40
    by_cases c5 : t507 = true
    · subst c5
      have H1 : (roadbooklaw19_SubBack.j0 k l0 a1 (decide ((a1.size : Int) > 1000))) = some r := by rw [if_pos rfl] at H; exact H
      clear H
      have H := H1
      clear H1
      have H' := Aside0.mk H
      clear H
      go_wp2_with (first | ((with_reducible refine gate_callee (f := 29) rfl ?_); refine goesL_ (some 19) rfl rfl Try.func29 (by kernel_rfl) rfl #[.slice A0 l0.length c0] rfl gAr ?_; (with_reducible refine (roadbooklaw19_few.calls k _ _ l0 true _ ?side1 ?side2 A4.out).mono ?_); (case side1 => repeat (first | exact (Kd.C_below HR0.out HB.out) | (with_reducible refine Kd.C_alloc ?_ _) | (with_reducible refine Kd.C_drewN ?_ _) | (with_reducible refine Kd.C_drew ?_))); (case side2 => exact HC0.out); rintro e w6 ⟨rfl, hb⟩; refine ⟨_, rfl, ?_⟩; have n0_ := Aside0.mk (below_step (bel) hb); clear HB; have HB := n0_; clear n0_; (try clear hb)))
      go_meet
      case rel => exact ⟨_, (decide ((a1.size : Int) > 1000)), rfS, H', ⟨by first | omega | exact Nat.le_refl _⟩, ⟨bel⟩⟩
    · replace c5 := Bool.eq_false_iff.mpr c5
      subst c5
      have H1 : (roadbooklaw19_SubBack.j0 k l0 a1 true) = some r := by rw [if_neg (show ¬ (false = true) by decide)] at H; exact H
      clear H
      have H := H1
      clear H1
      have H' := Aside0.mk H
      clear H
      go_wp2_with (first | ((with_reducible refine gate_callee (f := 29) rfl ?_); refine goesL_ (some 19) rfl rfl Try.func29 (by kernel_rfl) rfl #[.slice A0 l0.length c0] rfl gAr ?_; (with_reducible refine (roadbooklaw19_few.calls k _ _ l0 false _ ?side1 ?side2 A4.out).mono ?_); (case side1 => repeat (first | exact (Kd.C_below HR0.out HB.out) | (with_reducible refine Kd.C_alloc ?_ _) | (with_reducible refine Kd.C_drewN ?_ _) | (with_reducible refine Kd.C_drew ?_))); (case side2 => exact HC0.out); rintro e w7 ⟨rfl, hb⟩; refine ⟨_, rfl, ?_⟩; have n0_ := Aside0.mk (below_step (bel) hb); clear HB; have HB := n0_; clear n0_; (try clear hb)))
      go_meet
      case rel => exact ⟨_, (true), rfS, H', ⟨by first | omega | exact Nat.le_refl _⟩, ⟨bel⟩⟩
  case rest =>
    clear HC3
    try clear c5
    obtain ⟨kq, x25_2, rfl, HA, HJ2, HB⟩ := hcut
    cases kq with
    | zero => exact absurd HA.out (by simp [roadbooklaw19_SubBack.j0])
    | succ kj2 =>
      have H := HA.out
      clear HA
      simp only [roadbooklaw19_SubBack.j0] at H
      by_cases c8 : x25_2 = true
      · subst c8
        have H1 : ((roadbooklaw19_awake.f kj2).bind fun t508 => (some t508)) = some r := by rw [if_pos rfl] at H; exact H
        clear H
        have H := H1
        clear H1
        replace H := Option.bind_eq_some_iff.mp H
        obtain ⟨t508, A90, H⟩ := H
        replace H : (some t508) = some r := H
        have A9 := Aside0.mk A90
        clear A90
        obtain rfl := Option.some.inj H
        go_wp2_with (first | ((with_reducible refine gate_callee (f := 30) rfl ?_); refine goesL_ (some 26) rfl rfl Try.func30 (by kernel_rfl) rfl #[] rfl gAr ?_; (with_reducible refine (roadbooklaw19_awake.calls kj2  t508 _ A9.out).mono ?_); rintro e w10 ⟨rfl, hb⟩; refine ⟨_, rfl, ?_⟩; have n0_ := Aside0.mk (below_step (bel) hb); clear HB; have HB := n0_; clear n0_; (try clear hb)))
        go_ret
        exact ⟨rtE, bel⟩
      · replace c8 := Bool.eq_false_iff.mpr c8
        subst c8
        have H1 : ((sub_Put.f kj2 l0).bind fun bt509 => ((sub_Right.f kj2 l0).bind fun t511 => (if (bt509.2 != t511) = true then (some false) else ((sub_Get.f kj2 bt509.1).bind fun bt512 => (if bt509.2 = true then (if bt512.2.2 = 0 then (if bt512.2.1 = true then ((roadbooklaw19_same.f kj2 l0 bt512.1).bind fun t517 => (roadbooklaw19_SubBack.j1 kj2 a1 (!t517))) else (roadbooklaw19_SubBack.j1 kj2 a1 true)) else (roadbooklaw19_SubBack.j1 kj2 a1 true)) else (roadbooklaw19_SubBack.j1 kj2 a1 false)))))) = some r := by rw [if_neg (show ¬ (false = true) by decide)] at H; exact H
        clear H
        have H := H1
        clear H1
        replace H := Option.bind_eq_some_iff.mp H
        obtain ⟨⟨t509, t510⟩, A110, H⟩ := H
        replace H : ((sub_Right.f kj2 l0).bind fun t511 => (if (t510 != t511) = true then (some false) else ((sub_Get.f kj2 t509).bind fun bt512 => (if t510 = true then (if bt512.2.2 = 0 then (if bt512.2.1 = true then ((roadbooklaw19_same.f kj2 l0 bt512.1).bind fun t517 => (roadbooklaw19_SubBack.j1 kj2 a1 (!t517))) else (roadbooklaw19_SubBack.j1 kj2 a1 true)) else (roadbooklaw19_SubBack.j1 kj2 a1 true)) else (roadbooklaw19_SubBack.j1 kj2 a1 false))))) = some r := H
        have A11 := Aside0.mk A110
        clear A110
        replace H := Option.bind_eq_some_iff.mp H
        obtain ⟨t511, A120, H⟩ := H
        replace H : (if (t510 != t511) = true then (some false) else ((sub_Get.f kj2 t509).bind fun bt512 => (if t510 = true then (if bt512.2.2 = 0 then (if bt512.2.1 = true then ((roadbooklaw19_same.f kj2 l0 bt512.1).bind fun t517 => (roadbooklaw19_SubBack.j1 kj2 a1 (!t517))) else (roadbooklaw19_SubBack.j1 kj2 a1 true)) else (roadbooklaw19_SubBack.j1 kj2 a1 true)) else (roadbooklaw19_SubBack.j1 kj2 a1 false)))) = some r := H
        have A12 := Aside0.mk A120
        clear A120
        by_cases c13 : (t510 != t511) = true
        · rw [if_pos c13] at H
          have c13b0 : (t510 != t511) = true := c13
          (try (have c13b1 : decide (t510 = t511) = false := by simpa using c13))
          (try (have c13b2 : (t510 == t511) = false := by simpa using c13))
          (try (have c13b3 : ¬ (t510 = t511) := by simpa using c13))
          clear c13
          obtain rfl := Option.some.inj H
          go_wp2_with (first | ((with_reducible refine gate_callee (f := 31) rfl ?_); refine goesL_ (some 29) rfl rfl Try.func31 (by kernel_rfl) rfl #[.slice A0 l0.length c0] rfl gAr ?_; (with_reducible refine (sub_Put.calls kj2 _ _ l0 t509 t510 _ ?side1 ?side2 A11.out).mono ?_); (case side1 => repeat (first | exact (Kd.C_below HR0.out HB.out) | (with_reducible refine Kd.C_alloc ?_ _) | (with_reducible refine Kd.C_drewN ?_ _) | (with_reducible refine Kd.C_drew ?_))); (case side2 => exact HC0.out); rintro e w14 ⟨rfl, hb⟩; refine ⟨_, rfl, ?_⟩; have n0_ := Aside0.mk (below_step (bel) hb); clear HB; have HB := n0_; clear n0_; (try clear hb)) | ((with_reducible refine gate_callee (f := 35) rfl ?_); refine goesL_ (some 34) rfl rfl Try.func35 (by kernel_rfl) rfl #[.slice A0 l0.length c0] rfl gAr ?_; (with_reducible refine (sub_Right.calls kj2 _ _ l0 t511 _ ?side1 ?side2 A12.out).mono ?_); (case side1 => repeat (first | exact (Kd.C_below HR0.out HB.out) | (with_reducible refine Kd.C_alloc ?_ _) | (with_reducible refine Kd.C_drewN ?_ _) | (with_reducible refine Kd.C_drew ?_))); (case side2 => exact HC0.out); rintro e w15 ⟨rfl, hb⟩; refine ⟨_, rfl, ?_⟩; have n0_ := Aside0.mk (below_step (bel) hb); clear HB; have HB := n0_; clear n0_; (try clear hb)))
          go_ret
          exact ⟨rtE, bel⟩
        · rw [if_neg c13] at H
          have c13b0 : (t510 != t511) = false := by simpa using c13
          (try (have c13b1 : decide (t510 = t511) = true := by simpa using c13))
          (try (have c13b2 : (t510 == t511) = true := by simpa using c13))
          clear c13
          replace H := Option.bind_eq_some_iff.mp H
          obtain ⟨⟨t512, t513, t514⟩, A160, H⟩ := H
          replace H : (if t510 = true then (if t514 = 0 then (if t513 = true then ((roadbooklaw19_same.f kj2 l0 t512).bind fun t517 => (roadbooklaw19_SubBack.j1 kj2 a1 (!t517))) else (roadbooklaw19_SubBack.j1 kj2 a1 true)) else (roadbooklaw19_SubBack.j1 kj2 a1 true)) else (roadbooklaw19_SubBack.j1 kj2 a1 false)) = some r := H
          have A16 := Aside0.mk A160
          clear A160
          have HC17 := Aside0.mk H
          clear H
          go_upto_region 7 with (first | ((with_reducible refine gate_callee (f := 31) rfl ?_); refine goesL_ (some 29) rfl rfl Try.func31 (by kernel_rfl) rfl #[.slice A0 l0.length c0] rfl gAr ?_; (with_reducible refine (sub_Put.calls kj2 _ _ l0 t509 t510 _ ?side1 ?side2 A11.out).mono ?_); (case side1 => repeat (first | exact (Kd.C_below HR0.out HB.out) | (with_reducible refine Kd.C_alloc ?_ _) | (with_reducible refine Kd.C_drewN ?_ _) | (with_reducible refine Kd.C_drew ?_))); (case side2 => exact HC0.out); rintro e w18 ⟨rfl, hb⟩; refine ⟨_, rfl, ?_⟩; have n0_ := Aside0.mk (below_step (bel) hb); clear HB; have HB := n0_; clear n0_; (try clear hb)) | ((with_reducible refine gate_callee (f := 35) rfl ?_); refine goesL_ (some 34) rfl rfl Try.func35 (by kernel_rfl) rfl #[.slice A0 l0.length c0] rfl gAr ?_; (with_reducible refine (sub_Right.calls kj2 _ _ l0 t511 _ ?side1 ?side2 A12.out).mono ?_); (case side1 => repeat (first | exact (Kd.C_below HR0.out HB.out) | (with_reducible refine Kd.C_alloc ?_ _) | (with_reducible refine Kd.C_drewN ?_ _) | (with_reducible refine Kd.C_drew ?_))); (case side2 => exact HC0.out); rintro e w19 ⟨rfl, hb⟩; refine ⟨_, rfl, ?_⟩; have n0_ := Aside0.mk (below_step (bel) hb); clear HB; have HB := n0_; clear n0_; (try clear hb)) | ((with_reducible refine gate_callee (f := 33) rfl ?_); refine goesL_ (some 38) rfl rfl Try.func33 (by kernel_rfl) rfl #[.string t509] rfl gAr ?_; (with_reducible refine (sub_Get.calls kj2 t509 t512 t513 t514 _ A16.out).mono ?_); rintro e w20 ⟨v515, rfl, ho0, hb⟩; refine ⟨_, rfl, ?_⟩; have n0_ := Aside0.mk (Kd.R_lower ho0 bsz); have n1_ := Aside0.mk (below_step (bel) hb); clear HB; have HO516 := n0_; have HB := n1_; clear n0_ n1_; (try clear hb); (try clear ho0)))
          (try simp only [Act.put, List.setIfInBounds_toArray, List.set_cons_zero, List.set_cons_succ])
          go_cut [56] (fun v56 wc => ∃ (kq : Nat) (x56_16 : Bool), v56 = .bool x56_16 ∧ Aside0 (roadbooklaw19_SubBack.j1 kq a1 x56_16 = some r) ∧ Aside0 (kq ≤ kj2) ∧ Aside0 (Below w.heap.size w wc))
          case first =>
            have H := HC17.out
            clear HC17
            by_cases c21 : t510 = true
            · subst c21
              have H1 : (if t514 = 0 then (if t513 = true then ((roadbooklaw19_same.f kj2 l0 t512).bind fun t517 => (roadbooklaw19_SubBack.j1 kj2 a1 (!t517))) else (roadbooklaw19_SubBack.j1 kj2 a1 true)) else (roadbooklaw19_SubBack.j1 kj2 a1 true)) = some r := by rw [if_pos rfl] at H; exact H
              clear H
              have H := H1
              clear H1
              by_cases c22 : t514 = 0
              · rw [if_pos c22] at H
                have c22b0 : (t514 == 0) = true := beq_iff_eq.mpr c22
                have c22b1 : (t514 != 0) = false := bne_eq_false_iff_eq.mpr c22
                clear c22
                (first | rw [c22b0] | (simp only [i64_w, i32_w]; rw [c22b0]) | skip)
                by_cases c23 : t513 = true
                · subst c23
                  have H1 : ((roadbooklaw19_same.f kj2 l0 t512).bind fun t517 => (roadbooklaw19_SubBack.j1 kj2 a1 (!t517))) = some r := by rw [if_pos rfl] at H; exact H
                  clear H
                  have H := H1
                  clear H1
                  replace H := Option.bind_eq_some_iff.mp H
                  obtain ⟨t517, A240, H⟩ := H
                  replace H : (roadbooklaw19_SubBack.j1 kj2 a1 (!t517)) = some r := H
                  have A24 := Aside0.mk A240
                  clear A240
                  have H' := Aside0.mk H
                  clear H
                  obtain ⟨Ao25, co25, eo25⟩ := Kd.R_slice HO516.out
                  subst eo25
                  go_wp2_with (first | (go_at_call 37; (with_reducible refine (roadbooklaw19_same.calls kj2 _ _ l0 _ _ t512 t517 _ ?side1 ?side2 ?side3 ?side4 A24.out).mono ?_); (case side1 => repeat (first | exact (Kd.C_below HR0.out HB.out) | (with_reducible refine Kd.C_alloc ?_ _) | (with_reducible refine Kd.C_drewN ?_ _) | (with_reducible refine Kd.C_drew ?_))); (case side2 => exact HC0.out); (case side3 => repeat (first | exact (Kd.R_reads' HO516.out).2.2 | (with_reducible refine Kd.C_alloc ?_ _) | (with_reducible refine Kd.C_drewN ?_ _) | (with_reducible refine Kd.C_drew ?_))); (case side4 => exact (Kd.R_reads' HO516.out).2.1); rintro e w26 ⟨rfl, hb⟩; have n0_ := Aside0.mk (Kd.R_below (Kd.R_below HO516.out bll) hb); have n1_ := Aside0.mk (below_step (bel) hb); clear HO516; clear HB; have HO516 := n0_; have HB := n1_; clear n0_ n1_; (try clear hb)))
                  go_meet
                  case rel => exact ⟨_, (!t517), rfS, H', ⟨by have := HJ2.out; first | omega | exact Nat.le_refl _⟩, ⟨bel⟩⟩
                · replace c23 := Bool.eq_false_iff.mpr c23
                  subst c23
                  have H1 : (roadbooklaw19_SubBack.j1 kj2 a1 true) = some r := by rw [if_neg (show ¬ (false = true) by decide)] at H; exact H
                  clear H
                  have H := H1
                  clear H1
                  have H' := Aside0.mk H
                  clear H
                  go_wp2
                  go_meet
                  case rel => exact ⟨_, (true), rfS, H', ⟨by have := HJ2.out; first | omega | exact Nat.le_refl _⟩, ⟨bel⟩⟩
              · rw [if_neg c22] at H
                have c22b0 : (t514 == 0) = false := beq_eq_false_iff_ne.mpr c22
                have c22b1 : (t514 != 0) = true := bne_iff_ne.mpr c22
                (first | rw [c22b0] | (simp only [i64_w, i32_w]; rw [c22b0]) | skip)
                have H' := Aside0.mk H
                clear H
                go_wp2
                go_meet
                case rel => exact ⟨_, (true), rfS, H', ⟨by have := HJ2.out; first | omega | exact Nat.le_refl _⟩, ⟨bel⟩⟩
            · replace c21 := Bool.eq_false_iff.mpr c21
              subst c21
              have H1 : (roadbooklaw19_SubBack.j1 kj2 a1 false) = some r := by rw [if_neg (show ¬ (false = true) by decide)] at H; exact H
              clear H
              have H := H1
              clear H1
              have H' := Aside0.mk H
              clear H
              go_wp2
              go_meet
              case rel => exact ⟨_, (false), rfS, H', ⟨by have := HJ2.out; first | omega | exact Nat.le_refl _⟩, ⟨bel⟩⟩
          case rest =>
            clear HC17
            try clear c5
            try clear c8
            try clear c13
            try clear c13b0
            try clear c13b1
            try clear c13b2
            try clear c21
            try clear c22
            try clear c22b0
            try clear c22b1
            try clear c23
            obtain ⟨kq, x56_16, rfl, HA, HJ16, HB⟩ := hcut
            cases kq with
            | zero => exact absurd HA.out (by simp [roadbooklaw19_SubBack.j1])
            | succ kj16 =>
              have H := HA.out
              clear HA
              simp only [roadbooklaw19_SubBack.j1] at H
              by_cases c27 : x56_16 = true
              · subst c27
                have H1 : (some false) = some r := by rw [if_pos rfl] at H; exact H
                clear H
                have H := H1
                clear H1
                obtain rfl := Option.some.inj H
                go_wp2
                go_ret
                exact ⟨rtE, bel⟩
              · replace c27 := Bool.eq_false_iff.mpr c27
                subst c27
                have H1 : ((sub_Get.f kj16 a1).bind fun bt518 => (if bt518.2.2 = 0 then ((sub_Put.f kj16 bt518.1).bind fun bt524 => ((sub_Get.f kj16 bt524.1).bind fun bt526 => ((roadbooklaw19_awake.f kj16).bind fun t531 => (if t531 = true then (if bt524.2 = true then ((roadbooklaw19_same.f kj16 bt518.1 bt526.1).bind fun t532 => (if t532 = true then (some (decide ((bt524.1.size : Int) ≤ (a1.size : Int)))) else (some false))) else (some false)) else (some false))))) else ((roadbooklaw19_awake.f kj16).bind fun t523 => (if t523 = true then (some ((bt518.1.length : Int) == 0)) else (some false))))) = some r := by rw [if_neg (show ¬ (false = true) by decide)] at H; exact H
                clear H
                have H := H1
                clear H1
                replace H := Option.bind_eq_some_iff.mp H
                obtain ⟨⟨t518, t519, t520⟩, A280, H⟩ := H
                replace H : (if t520 = 0 then ((sub_Put.f kj16 t518).bind fun bt524 => ((sub_Get.f kj16 bt524.1).bind fun bt526 => ((roadbooklaw19_awake.f kj16).bind fun t531 => (if t531 = true then (if bt524.2 = true then ((roadbooklaw19_same.f kj16 t518 bt526.1).bind fun t532 => (if t532 = true then (some (decide ((bt524.1.size : Int) ≤ (a1.size : Int)))) else (some false))) else (some false)) else (some false))))) else ((roadbooklaw19_awake.f kj16).bind fun t523 => (if t523 = true then (some ((t518.length : Int) == 0)) else (some false)))) = some r := H
                have A28 := Aside0.mk A280
                clear A280
                by_cases c29 : t520 = 0
                · rw [if_pos c29] at H
                  have c29b0 : (t520 == 0) = true := beq_iff_eq.mpr c29
                  have c29b1 : (t520 != 0) = false := bne_eq_false_iff_eq.mpr c29
                  clear c29
                  replace H := Option.bind_eq_some_iff.mp H
                  obtain ⟨⟨t524, t525⟩, A300, H⟩ := H
                  replace H : ((sub_Get.f kj16 t524).bind fun bt526 => ((roadbooklaw19_awake.f kj16).bind fun t531 => (if t531 = true then (if t525 = true then ((roadbooklaw19_same.f kj16 t518 bt526.1).bind fun t532 => (if t532 = true then (some (decide ((t524.size : Int) ≤ (a1.size : Int)))) else (some false))) else (some false)) else (some false)))) = some r := H
                  have A30 := Aside0.mk A300
                  clear A300
                  replace H := Option.bind_eq_some_iff.mp H
                  obtain ⟨⟨t526, t527, t528⟩, A310, H⟩ := H
                  replace H : ((roadbooklaw19_awake.f kj16).bind fun t531 => (if t531 = true then (if t525 = true then ((roadbooklaw19_same.f kj16 t518 t526).bind fun t532 => (if t532 = true then (some (decide ((t524.size : Int) ≤ (a1.size : Int)))) else (some false))) else (some false)) else (some false))) = some r := H
                  have A31 := Aside0.mk A310
                  clear A310
                  replace H := Option.bind_eq_some_iff.mp H
                  obtain ⟨t531, A320, H⟩ := H
                  replace H : (if t531 = true then (if t525 = true then ((roadbooklaw19_same.f kj16 t518 t526).bind fun t532 => (if t532 = true then (some (decide ((t524.size : Int) ≤ (a1.size : Int)))) else (some false))) else (some false)) else (some false)) = some r := H
                  have A32 := Aside0.mk A320
                  clear A320
                  by_cases c33 : t531 = true
                  · subst c33
                    have H1 : (if t525 = true then ((roadbooklaw19_same.f kj16 t518 t526).bind fun t532 => (if t532 = true then (some (decide ((t524.size : Int) ≤ (a1.size : Int)))) else (some false))) else (some false)) = some r := by rw [if_pos rfl] at H; exact H
                    clear H
                    have H := H1
                    clear H1
                    by_cases c34 : t525 = true
                    · subst c34
                      have H1 : ((roadbooklaw19_same.f kj16 t518 t526).bind fun t532 => (if t532 = true then (some (decide ((t524.size : Int) ≤ (a1.size : Int)))) else (some false))) = some r := by rw [if_pos rfl] at H; exact H
                      clear H
                      have H := H1
                      clear H1
                      replace H := Option.bind_eq_some_iff.mp H
                      obtain ⟨t532, A350, H⟩ := H
                      replace H : (if t532 = true then (some (decide ((t524.size : Int) ≤ (a1.size : Int)))) else (some false)) = some r := H
                      have A35 := Aside0.mk A350
                      clear A350
                      by_cases c36 : t532 = true
                      · subst c36
                        have H1 : (some (decide ((t524.size : Int) ≤ (a1.size : Int)))) = some r := by rw [if_pos rfl] at H; exact H
                        clear H
                        have H := H1
                        clear H1
                        obtain rfl := Option.some.inj H
                        go_wp2_with (first | ((with_reducible refine gate_callee (f := 33) rfl ?_); refine goesL_ (some 59) rfl rfl Try.func33 (by kernel_rfl) rfl #[.string a1] rfl gAr ?_; (with_reducible refine (sub_Get.calls kj16 a1 t518 t519 t520 _ A28.out).mono ?_); rintro e w37 ⟨v521, rfl, ho0, hb⟩; refine ⟨_, rfl, ?_⟩; have n0_ := Aside0.mk (Kd.R_lower ho0 bsz); have n1_ := Aside0.mk (below_step (bel) hb); clear HB; have HO522 := n0_; have HB := n1_; clear n0_ n1_; (try clear hb); (try clear ho0); obtain ⟨Ao38, co38, eo38⟩ := Kd.R_slice HO522.out; subst eo38) | ((with_reducible refine gate_callee (f := 31) rfl ?_); refine goesL_ (some 73) rfl rfl Try.func31 (by kernel_rfl) rfl #[.slice Ao38 t518.length co38] rfl gAr ?_; (with_reducible refine (sub_Put.calls kj16 _ _ t518 t524 true _ ?side1 ?side2 A30.out).mono ?_); (case side1 => repeat (first | exact (Kd.R_reads' HO522.out).2.2 | (with_reducible refine Kd.C_alloc ?_ _) | (with_reducible refine Kd.C_drewN ?_ _) | (with_reducible refine Kd.C_drew ?_))); (case side2 => exact (Kd.R_reads' HO522.out).2.1); rintro e w39 ⟨rfl, hb⟩; refine ⟨_, rfl, ?_⟩; have n0_ := Aside0.mk (Kd.R_below (Kd.R_below HO522.out bll) hb); have n1_ := Aside0.mk (below_step (bel) hb); clear HO522; clear HB; have HO522 := n0_; have HB := n1_; clear n0_ n1_; (try clear hb)) | ((with_reducible refine gate_callee (f := 33) rfl ?_); refine goesL_ (some 78) rfl rfl Try.func33 (by kernel_rfl) rfl #[.string t524] rfl gAr ?_; (with_reducible refine (sub_Get.calls kj16 t524 t526 t527 t528 _ A31.out).mono ?_); rintro e w40 ⟨v529, rfl, ho0, hb⟩; refine ⟨_, rfl, ?_⟩; have n0_ := Aside0.mk (Kd.R_elder' (Kd.R_below HO522.out bll) (Kd.R_base ho0) hb); have n1_ := Aside0.mk (Kd.R_lower (Kd.R_new' ho0 (Kd.R_lt (Kd.R_below HO522.out bll))) bsz); have n2_ := Aside0.mk (below_step (bel) hb); clear HO522; clear HB; have HO522 := n0_; have HO530 := n1_; have HB := n2_; clear n0_ n1_ n2_; (try clear hb); (try clear ho0)) | ((with_reducible refine gate_callee (f := 30) rfl ?_); refine goesL_ (some 82) rfl rfl Try.func30 (by kernel_rfl) rfl #[] rfl gAr ?_; (with_reducible refine (roadbooklaw19_awake.calls kj16  true _ A32.out).mono ?_); rintro e w41 ⟨rfl, hb⟩; refine ⟨_, rfl, ?_⟩; have n0_ := Aside0.mk (Kd.R_below (Kd.R_below HO522.out bll) hb); have n1_ := Aside0.mk (Kd.R_below (Kd.R_below HO530.out bll) hb); have n2_ := Aside0.mk (below_step (bel) hb); clear HO522; clear HO530; clear HB; have HO522 := n0_; have HO530 := n1_; have HB := n2_; clear n0_ n1_ n2_; (try clear hb); obtain ⟨Ao42, co42, eo42⟩ := Kd.R_slice HO530.out; subst eo42) | (go_at_call 37; (with_reducible refine (roadbooklaw19_same.calls kj16 _ _ t518 _ _ t526 true _ ?side1 ?side2 ?side3 ?side4 A35.out).mono ?_); (case side1 => repeat (first | exact (Kd.R_reads' HO522.out).2.2 | (with_reducible refine Kd.C_alloc ?_ _) | (with_reducible refine Kd.C_drewN ?_ _) | (with_reducible refine Kd.C_drew ?_))); (case side2 => exact (Kd.R_reads' HO522.out).2.1); (case side3 => repeat (first | exact (Kd.R_reads' HO530.out).2.2 | (with_reducible refine Kd.C_alloc ?_ _) | (with_reducible refine Kd.C_drewN ?_ _) | (with_reducible refine Kd.C_drew ?_))); (case side4 => exact (Kd.R_reads' HO530.out).2.1); rintro e w43 ⟨rfl, hb⟩; have n0_ := Aside0.mk (Kd.R_below (Kd.R_below HO522.out bll) hb); have n1_ := Aside0.mk (Kd.R_below (Kd.R_below HO530.out bll) hb); have n2_ := Aside0.mk (below_step (bel) hb); clear HO522; clear HO530; clear HB; have HO522 := n0_; have HO530 := n1_; have HB := n2_; clear n0_ n1_ n2_; (try clear hb)))
                        go_ret
                        exact ⟨rtE, bel⟩
                      · replace c36 := Bool.eq_false_iff.mpr c36
                        subst c36
                        have H1 : (some false) = some r := by rw [if_neg (show ¬ (false = true) by decide)] at H; exact H
                        clear H
                        have H := H1
                        clear H1
                        obtain rfl := Option.some.inj H
                        go_wp2_with (first | ((with_reducible refine gate_callee (f := 33) rfl ?_); refine goesL_ (some 59) rfl rfl Try.func33 (by kernel_rfl) rfl #[.string a1] rfl gAr ?_; (with_reducible refine (sub_Get.calls kj16 a1 t518 t519 t520 _ A28.out).mono ?_); rintro e w44 ⟨v521, rfl, ho0, hb⟩; refine ⟨_, rfl, ?_⟩; have n0_ := Aside0.mk (Kd.R_lower ho0 bsz); have n1_ := Aside0.mk (below_step (bel) hb); clear HB; have HO522 := n0_; have HB := n1_; clear n0_ n1_; (try clear hb); (try clear ho0); obtain ⟨Ao45, co45, eo45⟩ := Kd.R_slice HO522.out; subst eo45) | ((with_reducible refine gate_callee (f := 31) rfl ?_); refine goesL_ (some 73) rfl rfl Try.func31 (by kernel_rfl) rfl #[.slice Ao45 t518.length co45] rfl gAr ?_; (with_reducible refine (sub_Put.calls kj16 _ _ t518 t524 true _ ?side1 ?side2 A30.out).mono ?_); (case side1 => repeat (first | exact (Kd.R_reads' HO522.out).2.2 | (with_reducible refine Kd.C_alloc ?_ _) | (with_reducible refine Kd.C_drewN ?_ _) | (with_reducible refine Kd.C_drew ?_))); (case side2 => exact (Kd.R_reads' HO522.out).2.1); rintro e w46 ⟨rfl, hb⟩; refine ⟨_, rfl, ?_⟩; have n0_ := Aside0.mk (Kd.R_below (Kd.R_below HO522.out bll) hb); have n1_ := Aside0.mk (below_step (bel) hb); clear HO522; clear HB; have HO522 := n0_; have HB := n1_; clear n0_ n1_; (try clear hb)) | ((with_reducible refine gate_callee (f := 33) rfl ?_); refine goesL_ (some 78) rfl rfl Try.func33 (by kernel_rfl) rfl #[.string t524] rfl gAr ?_; (with_reducible refine (sub_Get.calls kj16 t524 t526 t527 t528 _ A31.out).mono ?_); rintro e w47 ⟨v529, rfl, ho0, hb⟩; refine ⟨_, rfl, ?_⟩; have n0_ := Aside0.mk (Kd.R_elder' (Kd.R_below HO522.out bll) (Kd.R_base ho0) hb); have n1_ := Aside0.mk (Kd.R_lower (Kd.R_new' ho0 (Kd.R_lt (Kd.R_below HO522.out bll))) bsz); have n2_ := Aside0.mk (below_step (bel) hb); clear HO522; clear HB; have HO522 := n0_; have HO530 := n1_; have HB := n2_; clear n0_ n1_ n2_; (try clear hb); (try clear ho0)) | ((with_reducible refine gate_callee (f := 30) rfl ?_); refine goesL_ (some 82) rfl rfl Try.func30 (by kernel_rfl) rfl #[] rfl gAr ?_; (with_reducible refine (roadbooklaw19_awake.calls kj16  true _ A32.out).mono ?_); rintro e w48 ⟨rfl, hb⟩; refine ⟨_, rfl, ?_⟩; have n0_ := Aside0.mk (Kd.R_below (Kd.R_below HO522.out bll) hb); have n1_ := Aside0.mk (Kd.R_below (Kd.R_below HO530.out bll) hb); have n2_ := Aside0.mk (below_step (bel) hb); clear HO522; clear HO530; clear HB; have HO522 := n0_; have HO530 := n1_; have HB := n2_; clear n0_ n1_ n2_; (try clear hb); obtain ⟨Ao49, co49, eo49⟩ := Kd.R_slice HO530.out; subst eo49) | (go_at_call 37; (with_reducible refine (roadbooklaw19_same.calls kj16 _ _ t518 _ _ t526 false _ ?side1 ?side2 ?side3 ?side4 A35.out).mono ?_); (case side1 => repeat (first | exact (Kd.R_reads' HO522.out).2.2 | (with_reducible refine Kd.C_alloc ?_ _) | (with_reducible refine Kd.C_drewN ?_ _) | (with_reducible refine Kd.C_drew ?_))); (case side2 => exact (Kd.R_reads' HO522.out).2.1); (case side3 => repeat (first | exact (Kd.R_reads' HO530.out).2.2 | (with_reducible refine Kd.C_alloc ?_ _) | (with_reducible refine Kd.C_drewN ?_ _) | (with_reducible refine Kd.C_drew ?_))); (case side4 => exact (Kd.R_reads' HO530.out).2.1); rintro e w50 ⟨rfl, hb⟩; have n0_ := Aside0.mk (Kd.R_below (Kd.R_below HO522.out bll) hb); have n1_ := Aside0.mk (Kd.R_below (Kd.R_below HO530.out bll) hb); have n2_ := Aside0.mk (below_step (bel) hb); clear HO522; clear HO530; clear HB; have HO522 := n0_; have HO530 := n1_; have HB := n2_; clear n0_ n1_ n2_; (try clear hb)))
                        go_ret
                        exact ⟨rtE, bel⟩
                    · replace c34 := Bool.eq_false_iff.mpr c34
                      subst c34
                      have H1 : (some false) = some r := by rw [if_neg (show ¬ (false = true) by decide)] at H; exact H
                      clear H
                      have H := H1
                      clear H1
                      obtain rfl := Option.some.inj H
                      go_wp2_with (first | ((with_reducible refine gate_callee (f := 33) rfl ?_); refine goesL_ (some 59) rfl rfl Try.func33 (by kernel_rfl) rfl #[.string a1] rfl gAr ?_; (with_reducible refine (sub_Get.calls kj16 a1 t518 t519 t520 _ A28.out).mono ?_); rintro e w51 ⟨v521, rfl, ho0, hb⟩; refine ⟨_, rfl, ?_⟩; have n0_ := Aside0.mk (Kd.R_lower ho0 bsz); have n1_ := Aside0.mk (below_step (bel) hb); clear HB; have HO522 := n0_; have HB := n1_; clear n0_ n1_; (try clear hb); (try clear ho0); obtain ⟨Ao52, co52, eo52⟩ := Kd.R_slice HO522.out; subst eo52) | ((with_reducible refine gate_callee (f := 31) rfl ?_); refine goesL_ (some 73) rfl rfl Try.func31 (by kernel_rfl) rfl #[.slice Ao52 t518.length co52] rfl gAr ?_; (with_reducible refine (sub_Put.calls kj16 _ _ t518 t524 false _ ?side1 ?side2 A30.out).mono ?_); (case side1 => repeat (first | exact (Kd.R_reads' HO522.out).2.2 | (with_reducible refine Kd.C_alloc ?_ _) | (with_reducible refine Kd.C_drewN ?_ _) | (with_reducible refine Kd.C_drew ?_))); (case side2 => exact (Kd.R_reads' HO522.out).2.1); rintro e w53 ⟨rfl, hb⟩; refine ⟨_, rfl, ?_⟩; have n0_ := Aside0.mk (Kd.R_below (Kd.R_below HO522.out bll) hb); have n1_ := Aside0.mk (below_step (bel) hb); clear HO522; clear HB; have HO522 := n0_; have HB := n1_; clear n0_ n1_; (try clear hb)) | ((with_reducible refine gate_callee (f := 33) rfl ?_); refine goesL_ (some 78) rfl rfl Try.func33 (by kernel_rfl) rfl #[.string t524] rfl gAr ?_; (with_reducible refine (sub_Get.calls kj16 t524 t526 t527 t528 _ A31.out).mono ?_); rintro e w54 ⟨v529, rfl, ho0, hb⟩; refine ⟨_, rfl, ?_⟩; have n0_ := Aside0.mk (Kd.R_elder' (Kd.R_below HO522.out bll) (Kd.R_base ho0) hb); have n1_ := Aside0.mk (Kd.R_lower (Kd.R_new' ho0 (Kd.R_lt (Kd.R_below HO522.out bll))) bsz); have n2_ := Aside0.mk (below_step (bel) hb); clear HO522; clear HB; have HO522 := n0_; have HO530 := n1_; have HB := n2_; clear n0_ n1_ n2_; (try clear hb); (try clear ho0)) | ((with_reducible refine gate_callee (f := 30) rfl ?_); refine goesL_ (some 82) rfl rfl Try.func30 (by kernel_rfl) rfl #[] rfl gAr ?_; (with_reducible refine (roadbooklaw19_awake.calls kj16  true _ A32.out).mono ?_); rintro e w55 ⟨rfl, hb⟩; refine ⟨_, rfl, ?_⟩; have n0_ := Aside0.mk (Kd.R_below (Kd.R_below HO522.out bll) hb); have n1_ := Aside0.mk (Kd.R_below (Kd.R_below HO530.out bll) hb); have n2_ := Aside0.mk (below_step (bel) hb); clear HO522; clear HO530; clear HB; have HO522 := n0_; have HO530 := n1_; have HB := n2_; clear n0_ n1_ n2_; (try clear hb)))
                      go_ret
                      exact ⟨rtE, bel⟩
                  · replace c33 := Bool.eq_false_iff.mpr c33
                    subst c33
                    have H1 : (some false) = some r := by rw [if_neg (show ¬ (false = true) by decide)] at H; exact H
                    clear H
                    have H := H1
                    clear H1
                    obtain rfl := Option.some.inj H
                    go_wp2_with (first | ((with_reducible refine gate_callee (f := 33) rfl ?_); refine goesL_ (some 59) rfl rfl Try.func33 (by kernel_rfl) rfl #[.string a1] rfl gAr ?_; (with_reducible refine (sub_Get.calls kj16 a1 t518 t519 t520 _ A28.out).mono ?_); rintro e w56 ⟨v521, rfl, ho0, hb⟩; refine ⟨_, rfl, ?_⟩; have n0_ := Aside0.mk (Kd.R_lower ho0 bsz); have n1_ := Aside0.mk (below_step (bel) hb); clear HB; have HO522 := n0_; have HB := n1_; clear n0_ n1_; (try clear hb); (try clear ho0); obtain ⟨Ao57, co57, eo57⟩ := Kd.R_slice HO522.out; subst eo57) | ((with_reducible refine gate_callee (f := 31) rfl ?_); refine goesL_ (some 73) rfl rfl Try.func31 (by kernel_rfl) rfl #[.slice Ao57 t518.length co57] rfl gAr ?_; (with_reducible refine (sub_Put.calls kj16 _ _ t518 t524 t525 _ ?side1 ?side2 A30.out).mono ?_); (case side1 => repeat (first | exact (Kd.R_reads' HO522.out).2.2 | (with_reducible refine Kd.C_alloc ?_ _) | (with_reducible refine Kd.C_drewN ?_ _) | (with_reducible refine Kd.C_drew ?_))); (case side2 => exact (Kd.R_reads' HO522.out).2.1); rintro e w58 ⟨rfl, hb⟩; refine ⟨_, rfl, ?_⟩; have n0_ := Aside0.mk (Kd.R_below (Kd.R_below HO522.out bll) hb); have n1_ := Aside0.mk (below_step (bel) hb); clear HO522; clear HB; have HO522 := n0_; have HB := n1_; clear n0_ n1_; (try clear hb)) | ((with_reducible refine gate_callee (f := 33) rfl ?_); refine goesL_ (some 78) rfl rfl Try.func33 (by kernel_rfl) rfl #[.string t524] rfl gAr ?_; (with_reducible refine (sub_Get.calls kj16 t524 t526 t527 t528 _ A31.out).mono ?_); rintro e w59 ⟨v529, rfl, ho0, hb⟩; refine ⟨_, rfl, ?_⟩; have n0_ := Aside0.mk (Kd.R_elder' (Kd.R_below HO522.out bll) (Kd.R_base ho0) hb); have n1_ := Aside0.mk (Kd.R_lower (Kd.R_new' ho0 (Kd.R_lt (Kd.R_below HO522.out bll))) bsz); have n2_ := Aside0.mk (below_step (bel) hb); clear HO522; clear HB; have HO522 := n0_; have HO530 := n1_; have HB := n2_; clear n0_ n1_ n2_; (try clear hb); (try clear ho0)) | ((with_reducible refine gate_callee (f := 30) rfl ?_); refine goesL_ (some 82) rfl rfl Try.func30 (by kernel_rfl) rfl #[] rfl gAr ?_; (with_reducible refine (roadbooklaw19_awake.calls kj16  false _ A32.out).mono ?_); rintro e w60 ⟨rfl, hb⟩; refine ⟨_, rfl, ?_⟩; have n0_ := Aside0.mk (Kd.R_below (Kd.R_below HO522.out bll) hb); have n1_ := Aside0.mk (Kd.R_below (Kd.R_below HO530.out bll) hb); have n2_ := Aside0.mk (below_step (bel) hb); clear HO522; clear HO530; clear HB; have HO522 := n0_; have HO530 := n1_; have HB := n2_; clear n0_ n1_ n2_; (try clear hb)))
                    go_ret
                    exact ⟨rtE, bel⟩
                · rw [if_neg c29] at H
                  have c29b0 : (t520 == 0) = false := beq_eq_false_iff_ne.mpr c29
                  have c29b1 : (t520 != 0) = true := bne_iff_ne.mpr c29
                  replace H := Option.bind_eq_some_iff.mp H
                  obtain ⟨t523, A610, H⟩ := H
                  replace H : (if t523 = true then (some ((t518.length : Int) == 0)) else (some false)) = some r := H
                  have A61 := Aside0.mk A610
                  clear A610
                  by_cases c62 : t523 = true
                  · subst c62
                    have H1 : (some ((t518.length : Int) == 0)) = some r := by rw [if_pos rfl] at H; exact H
                    clear H
                    have H := H1
                    clear H1
                    obtain rfl := Option.some.inj H
                    go_wp2_with (first | ((with_reducible refine gate_callee (f := 33) rfl ?_); refine goesL_ (some 59) rfl rfl Try.func33 (by kernel_rfl) rfl #[.string a1] rfl gAr ?_; (with_reducible refine (sub_Get.calls kj16 a1 t518 t519 t520 _ A28.out).mono ?_); rintro e w63 ⟨v521, rfl, ho0, hb⟩; refine ⟨_, rfl, ?_⟩; have n0_ := Aside0.mk (Kd.R_lower ho0 bsz); have n1_ := Aside0.mk (below_step (bel) hb); clear HB; have HO522 := n0_; have HB := n1_; clear n0_ n1_; (try clear hb); (try clear ho0)) | ((with_reducible refine gate_callee (f := 30) rfl ?_); refine goesL_ (some 65) rfl rfl Try.func30 (by kernel_rfl) rfl #[] rfl gAr ?_; (with_reducible refine (roadbooklaw19_awake.calls kj16  true _ A61.out).mono ?_); rintro e w64 ⟨rfl, hb⟩; refine ⟨_, rfl, ?_⟩; have n0_ := Aside0.mk (Kd.R_below (Kd.R_below HO522.out bll) hb); have n1_ := Aside0.mk (below_step (bel) hb); clear HO522; clear HB; have HO522 := n0_; have HB := n1_; clear n0_ n1_; (try clear hb); obtain ⟨Ao65, co65, eo65⟩ := Kd.R_slice HO522.out; subst eo65))
                    go_ret
                    exact ⟨rtE, bel⟩
                  · replace c62 := Bool.eq_false_iff.mpr c62
                    subst c62
                    have H1 : (some false) = some r := by rw [if_neg (show ¬ (false = true) by decide)] at H; exact H
                    clear H
                    have H := H1
                    clear H1
                    obtain rfl := Option.some.inj H
                    go_wp2_with (first | ((with_reducible refine gate_callee (f := 33) rfl ?_); refine goesL_ (some 59) rfl rfl Try.func33 (by kernel_rfl) rfl #[.string a1] rfl gAr ?_; (with_reducible refine (sub_Get.calls kj16 a1 t518 t519 t520 _ A28.out).mono ?_); rintro e w66 ⟨v521, rfl, ho0, hb⟩; refine ⟨_, rfl, ?_⟩; have n0_ := Aside0.mk (Kd.R_lower ho0 bsz); have n1_ := Aside0.mk (below_step (bel) hb); clear HB; have HO522 := n0_; have HB := n1_; clear n0_ n1_; (try clear hb); (try clear ho0)) | ((with_reducible refine gate_callee (f := 30) rfl ?_); refine goesL_ (some 65) rfl rfl Try.func30 (by kernel_rfl) rfl #[] rfl gAr ?_; (with_reducible refine (roadbooklaw19_awake.calls kj16  false _ A61.out).mono ?_); rintro e w67 ⟨rfl, hb⟩; refine ⟨_, rfl, ?_⟩; have n0_ := Aside0.mk (Kd.R_below (Kd.R_below HO522.out bll) hb); have n1_ := Aside0.mk (below_step (bel) hb); clear HO522; clear HB; have HO522 := n0_; have HB := n1_; clear n0_ n1_; (try clear hb)))
                    go_ret
                    exact ⟨rtE, bel⟩

/-- THE ONE PURE STATEMENT of roadbooklaw19_SubBack. -/
def roadbooklaw19_SubBack.Pure : Prop := ∀ (l0 : List (S78)) (a1 : ByteArray), (l0.length * 24 ≤ 140737488351232 ∧ ∀ y_ ∈ l0, G78 y_) → a1.size ≤ 140737488351232 → ∃ k, roadbooklaw19_SubBack.f k l0 a1 = some true
theorem roadbooklaw19_SubBack.walk (P : roadbooklaw19_SubBack.Pure) (l0 : List (S78)) (a1 : ByteArray) (A0 : Option Addr) (c0 : Nat) (w : World) (g0 : (l0.length * 24 ≤ 140737488351232 ∧ ∀ y_ ∈ l0, G78 y_)) (g1 : a1.size ≤ 140737488351232) (hr0 : Kd.C k78 w A0 l0.length l0) (hc0 : l0.length ≤ c0) :
    Calls Try.prog 10 #[.slice A0 l0.length c0, .string a1] w fun e w' => e = .returned (.bool true) ∧ Below w.heap.size w w' := by
  obtain ⟨k, h⟩ := P l0 a1 g0 g1
  refine (roadbooklaw19_SubBack.calls k A0 c0 l0 a1 true w hr0 hc0 h).mono ?_
  rintro e w' ⟨rfl, hd⟩
  exact ⟨rfl, hd⟩

end Go.Proofs.Ytjgnpggpgkkknaa.Pr
