-- Written by wip/tools/xprint.py of this repo over the kit's printer, out of the translation. Lean checks it.
import Derived.Test.YtjgnpggpgkkknaaPr0
import Derived.Test.YtjgnpggpgkkknaaPr13
import Derived.Test.YtjgnpggpgkkknaaPr14
import Derived.Test.YtjgnpggpgkkknaaPr15
import Derived.Test.YtjgnpggpgkkknaaPr16
import Derived.Test.YtjgnpggpgkkknaaPr17
namespace Go.Proofs.Ytjgnpggpgkkknaa.Pr
open Go.RowKit Go.Proofs.YtjgnpggpgkkknaaW.PrintWords Go.Proofs.YtjgnpggpgkkknaaW.PrintLast
set_option linter.unusedVariables false
set_option linter.unusedSimpArgs false

/-! ### roadbooklaw19_SubTells: function 9 -/
def roadbooklaw19_SubTells.j0 : Nat → List (S78) → ByteArray → Bool → Option (Bool)
  | 0, _, _, _ => none
  | k + 1, x0, x1, x22 => if x22 = true then ((roadbooklaw19_awake.f k).bind fun t488 => (some t488)) else ((sub_Put.f k x0).bind fun bt489 => ((roadbookref19_Put.f k x0).bind fun bt491 => ((sub_Get.f k x1).bind fun bt493 => ((roadbookref19_Get.f k x1).bind fun bt498 => ((roadbooklaw19_awake.f k).bind fun t503 => (if t503 = true then ((sub_Right.f k x0).bind fun t504 => ((roadbookref19_Right.f k x0).bind fun t505 => (if (t504 == t505) = true then (if bt489.1.toList = bt491.1.toList then (if (bt489.2 == bt491.2) = true then ((roadbooklaw19_same.f k bt493.1 bt498.1).bind fun t506 => (if t506 = true then (if (bt493.2.1 == bt498.2.1) = true then (some (bt493.2.2 == bt498.2.2)) else (some false)) else (some false))) else (some false)) else (some false)) else (some false)))) else (some false)))))))
def roadbooklaw19_SubTells.f (k : Nat) (l0 : List (S78)) (a1 : ByteArray) : Option (Bool) := (roadbooklaw19_few.f k l0).bind fun t487 => (if t487 = true then (roadbooklaw19_SubTells.j0 k l0 a1 (decide ((a1.size : Int) > 1000))) else (roadbooklaw19_SubTells.j0 k l0 a1 true))
theorem roadbooklaw19_SubTells.mono_l : ∀ k, (∀ y0 y1 y2, LeO (roadbooklaw19_SubTells.j0 k y0 y1 y2) (roadbooklaw19_SubTells.j0 (k + 1) y0 y1 y2))
  | 0 => fun _ _ _ r h => by simp [roadbooklaw19_SubTells.j0] at h
  | k + 1 => by
    have ih0 := roadbooklaw19_SubTells.mono_l k
    · intro y0 y1 y2
      unfold roadbooklaw19_SubTells.j0
      repeat' first
      | (with_reducible exact ih0 _ _ _)
      | (with_reducible exact roadbooklaw19_awake.mono _)
      | (with_reducible exact roadbooklaw19_few.mono _ _)
      | (with_reducible exact roadbooklaw19_same.mono _ _ _)
      | (with_reducible exact roadbookref19_Get.mono _ _)
      | (with_reducible exact roadbookref19_Put.mono _ _)
      | (with_reducible exact roadbookref19_Right.mono _ _)
      | (with_reducible exact sub_Get.mono _ _)
      | (with_reducible exact sub_Put.mono _ _)
      | (with_reducible exact sub_Right.mono _ _)
      | (with_reducible exact LeO.refl _)
      | (with_reducible exact LeO.none _)
      | (with_reducible refine LeO.ite ?_ ?_)
      | (with_reducible refine LeO.bind ?_ (fun _ => ?_))
      | exact ih0 _ _ _
      | exact roadbooklaw19_awake.mono _
      | exact roadbooklaw19_few.mono _ _
      | exact roadbooklaw19_same.mono _ _ _
      | exact roadbookref19_Get.mono _ _
      | exact roadbookref19_Put.mono _ _
      | exact roadbookref19_Right.mono _ _
      | exact sub_Get.mono _ _
      | exact sub_Put.mono _ _
      | exact sub_Right.mono _ _
      | exact LeO.none _
      | refine LeO.ite ?_ ?_
      | refine LeO.bind ?_ (fun _ => ?_)
theorem roadbooklaw19_SubTells.mono : ∀ a0 a1 k, LeO (roadbooklaw19_SubTells.f k a0 a1) (roadbooklaw19_SubTells.f (k + 1) a0 a1) := by
  intro a0 a1 k
  have ih0 := roadbooklaw19_SubTells.mono_l k
  unfold roadbooklaw19_SubTells.f
  repeat' first
      | (with_reducible exact ih0 _ _ _)
      | (with_reducible exact roadbooklaw19_awake.mono _)
      | (with_reducible exact roadbooklaw19_few.mono _ _)
      | (with_reducible exact roadbooklaw19_same.mono _ _ _)
      | (with_reducible exact roadbookref19_Get.mono _ _)
      | (with_reducible exact roadbookref19_Put.mono _ _)
      | (with_reducible exact roadbookref19_Right.mono _ _)
      | (with_reducible exact sub_Get.mono _ _)
      | (with_reducible exact sub_Put.mono _ _)
      | (with_reducible exact sub_Right.mono _ _)
      | (with_reducible exact LeO.refl _)
      | (with_reducible exact LeO.none _)
      | (with_reducible refine LeO.ite ?_ ?_)
      | (with_reducible refine LeO.bind ?_ (fun _ => ?_))
      | exact ih0 _ _ _
      | exact roadbooklaw19_awake.mono _
      | exact roadbooklaw19_few.mono _ _
      | exact roadbooklaw19_same.mono _ _ _
      | exact roadbookref19_Get.mono _ _
      | exact roadbookref19_Put.mono _ _
      | exact roadbookref19_Right.mono _ _
      | exact sub_Get.mono _ _
      | exact sub_Put.mono _ _
      | exact sub_Right.mono _ _
      | exact LeO.none _
      | refine LeO.ite ?_ ?_
      | refine LeO.bind ?_ (fun _ => ?_)
set_option maxHeartbeats 8000000 in
set_option maxRecDepth 100000 in
theorem roadbooklaw19_SubTells.calls (k : Nat) (A0 : Option Addr) (c0 : Nat) (l0 : List (S78)) (a1 : ByteArray) (r : Bool) (w : World) (hr0 : Kd.C k78 w A0 l0.length l0) (hc0 : l0.length ≤ c0) (h : roadbooklaw19_SubTells.f k l0 a1 = some r) :
    Calls Try.prog 9 #[.slice A0 l0.length c0, .string a1] w fun e w' => e = .returned (.bool r) ∧ Below w.heap.size w w' := by
  have HR0 := Aside0.mk hr0
  have HC0 := Aside0.mk hc0
  clear hr0 hc0
  have HB := Aside0.mk (Below.refl w.heap.size w)
  have H : ((roadbooklaw19_few.f k l0).bind fun t487 => (if t487 = true then (roadbooklaw19_SubTells.j0 k l0 a1 (decide ((a1.size : Int) > 1000))) else (roadbooklaw19_SubTells.j0 k l0 a1 true))) = some r := h
  clear h
  have HC3 := Aside0.mk H
  clear H
  go_enter Try.func9, Try.ntmps9
  go_upto_region 1 with (fail)
  go_cut [22] (fun v22 wc => ∃ (kq : Nat) (x22_2 : Bool), v22 = .bool x22_2 ∧ Aside0 (roadbooklaw19_SubTells.j0 kq l0 a1 x22_2 = some r) ∧ Aside0 (kq ≤ k) ∧ Aside0 (Below w.heap.size w wc))
  case first =>
    have H := HC3.out
    clear HC3
    replace H := Option.bind_eq_some_iff.mp H
    obtain ⟨t487, A40, H⟩ := H
    replace H : (if t487 = true then (roadbooklaw19_SubTells.j0 k l0 a1 (decide ((a1.size : Int) > 1000))) else (roadbooklaw19_SubTells.j0 k l0 a1 true)) = some r := H
    have A4 := Aside0.mk A40
    clear A40
    by_cases c5 : t487 = true
    · subst c5
      have H1 : (roadbooklaw19_SubTells.j0 k l0 a1 (decide ((a1.size : Int) > 1000))) = some r := by rw [if_pos rfl] at H; exact H
      clear H
      have H := H1
      clear H1
      have H' := Aside0.mk H
      clear H
      go_wp2_with (first | ((with_reducible refine gate_callee (f := 29) rfl ?_); refine goesL_ (some 16) rfl rfl Try.func29 (by kernel_rfl) rfl #[.slice A0 l0.length c0] rfl gAr ?_; (with_reducible refine (roadbooklaw19_few.calls k _ _ l0 true _ ?side1 ?side2 A4.out).mono ?_); (case side1 => repeat (first | exact (Kd.C_below HR0.out HB.out) | (with_reducible refine Kd.C_alloc ?_ _) | (with_reducible refine Kd.C_drewN ?_ _) | (with_reducible refine Kd.C_drew ?_))); (case side2 => exact HC0.out); rintro e w6 ⟨rfl, hb⟩; refine ⟨_, rfl, ?_⟩; have n0_ := Aside0.mk (below_step (bel) hb); clear HB; have HB := n0_; clear n0_; (try clear hb)))
      go_meet
      case rel => exact ⟨_, (decide ((a1.size : Int) > 1000)), rfS, H', ⟨by first | omega | exact Nat.le_refl _⟩, ⟨bel⟩⟩
    · replace c5 := Bool.eq_false_iff.mpr c5
      subst c5
      have H1 : (roadbooklaw19_SubTells.j0 k l0 a1 true) = some r := by rw [if_neg (show ¬ (false = true) by decide)] at H; exact H
      clear H
      have H := H1
      clear H1
      have H' := Aside0.mk H
      clear H
      go_wp2_with (first | ((with_reducible refine gate_callee (f := 29) rfl ?_); refine goesL_ (some 16) rfl rfl Try.func29 (by kernel_rfl) rfl #[.slice A0 l0.length c0] rfl gAr ?_; (with_reducible refine (roadbooklaw19_few.calls k _ _ l0 false _ ?side1 ?side2 A4.out).mono ?_); (case side1 => repeat (first | exact (Kd.C_below HR0.out HB.out) | (with_reducible refine Kd.C_alloc ?_ _) | (with_reducible refine Kd.C_drewN ?_ _) | (with_reducible refine Kd.C_drew ?_))); (case side2 => exact HC0.out); rintro e w7 ⟨rfl, hb⟩; refine ⟨_, rfl, ?_⟩; have n0_ := Aside0.mk (below_step (bel) hb); clear HB; have HB := n0_; clear n0_; (try clear hb)))
      go_meet
      case rel => exact ⟨_, (true), rfS, H', ⟨by first | omega | exact Nat.le_refl _⟩, ⟨bel⟩⟩
  case rest =>
    clear HC3
    try clear c5
    obtain ⟨kq, x22_2, rfl, HA, HJ2, HB⟩ := hcut
    cases kq with
    | zero => exact absurd HA.out (by simp [roadbooklaw19_SubTells.j0])
    | succ kj2 =>
      have H := HA.out
      clear HA
      simp only [roadbooklaw19_SubTells.j0] at H
      by_cases c8 : x22_2 = true
      · subst c8
        have H1 : ((roadbooklaw19_awake.f kj2).bind fun t488 => (some t488)) = some r := by rw [if_pos rfl] at H; exact H
        clear H
        have H := H1
        clear H1
        replace H := Option.bind_eq_some_iff.mp H
        obtain ⟨t488, A90, H⟩ := H
        replace H : (some t488) = some r := H
        have A9 := Aside0.mk A90
        clear A90
        obtain rfl := Option.some.inj H
        go_wp2_with (first | ((with_reducible refine gate_callee (f := 30) rfl ?_); refine goesL_ (some 23) rfl rfl Try.func30 (by kernel_rfl) rfl #[] rfl gAr ?_; (with_reducible refine (roadbooklaw19_awake.calls kj2  t488 _ A9.out).mono ?_); rintro e w10 ⟨rfl, hb⟩; refine ⟨_, rfl, ?_⟩; have n0_ := Aside0.mk (below_step (bel) hb); clear HB; have HB := n0_; clear n0_; (try clear hb)))
        go_ret
        exact ⟨rtE, bel⟩
      · replace c8 := Bool.eq_false_iff.mpr c8
        subst c8
        have H1 : ((sub_Put.f kj2 l0).bind fun bt489 => ((roadbookref19_Put.f kj2 l0).bind fun bt491 => ((sub_Get.f kj2 a1).bind fun bt493 => ((roadbookref19_Get.f kj2 a1).bind fun bt498 => ((roadbooklaw19_awake.f kj2).bind fun t503 => (if t503 = true then ((sub_Right.f kj2 l0).bind fun t504 => ((roadbookref19_Right.f kj2 l0).bind fun t505 => (if (t504 == t505) = true then (if bt489.1.toList = bt491.1.toList then (if (bt489.2 == bt491.2) = true then ((roadbooklaw19_same.f kj2 bt493.1 bt498.1).bind fun t506 => (if t506 = true then (if (bt493.2.1 == bt498.2.1) = true then (some (bt493.2.2 == bt498.2.2)) else (some false)) else (some false))) else (some false)) else (some false)) else (some false)))) else (some false))))))) = some r := by rw [if_neg (show ¬ (false = true) by decide)] at H; exact H
        clear H
        have H := H1
        clear H1
        replace H := Option.bind_eq_some_iff.mp H
        obtain ⟨⟨t489, t490⟩, A110, H⟩ := H
        replace H : ((roadbookref19_Put.f kj2 l0).bind fun bt491 => ((sub_Get.f kj2 a1).bind fun bt493 => ((roadbookref19_Get.f kj2 a1).bind fun bt498 => ((roadbooklaw19_awake.f kj2).bind fun t503 => (if t503 = true then ((sub_Right.f kj2 l0).bind fun t504 => ((roadbookref19_Right.f kj2 l0).bind fun t505 => (if (t504 == t505) = true then (if t489.toList = bt491.1.toList then (if (t490 == bt491.2) = true then ((roadbooklaw19_same.f kj2 bt493.1 bt498.1).bind fun t506 => (if t506 = true then (if (bt493.2.1 == bt498.2.1) = true then (some (bt493.2.2 == bt498.2.2)) else (some false)) else (some false))) else (some false)) else (some false)) else (some false)))) else (some false)))))) = some r := H
        have A11 := Aside0.mk A110
        clear A110
        replace H := Option.bind_eq_some_iff.mp H
        obtain ⟨⟨t491, t492⟩, A120, H⟩ := H
        replace H : ((sub_Get.f kj2 a1).bind fun bt493 => ((roadbookref19_Get.f kj2 a1).bind fun bt498 => ((roadbooklaw19_awake.f kj2).bind fun t503 => (if t503 = true then ((sub_Right.f kj2 l0).bind fun t504 => ((roadbookref19_Right.f kj2 l0).bind fun t505 => (if (t504 == t505) = true then (if t489.toList = t491.toList then (if (t490 == t492) = true then ((roadbooklaw19_same.f kj2 bt493.1 bt498.1).bind fun t506 => (if t506 = true then (if (bt493.2.1 == bt498.2.1) = true then (some (bt493.2.2 == bt498.2.2)) else (some false)) else (some false))) else (some false)) else (some false)) else (some false)))) else (some false))))) = some r := H
        have A12 := Aside0.mk A120
        clear A120
        replace H := Option.bind_eq_some_iff.mp H
        obtain ⟨⟨t493, t494, t495⟩, A130, H⟩ := H
        replace H : ((roadbookref19_Get.f kj2 a1).bind fun bt498 => ((roadbooklaw19_awake.f kj2).bind fun t503 => (if t503 = true then ((sub_Right.f kj2 l0).bind fun t504 => ((roadbookref19_Right.f kj2 l0).bind fun t505 => (if (t504 == t505) = true then (if t489.toList = t491.toList then (if (t490 == t492) = true then ((roadbooklaw19_same.f kj2 t493 bt498.1).bind fun t506 => (if t506 = true then (if (t494 == bt498.2.1) = true then (some (t495 == bt498.2.2)) else (some false)) else (some false))) else (some false)) else (some false)) else (some false)))) else (some false)))) = some r := H
        have A13 := Aside0.mk A130
        clear A130
        replace H := Option.bind_eq_some_iff.mp H
        obtain ⟨⟨t498, t499, t500⟩, A140, H⟩ := H
        replace H : ((roadbooklaw19_awake.f kj2).bind fun t503 => (if t503 = true then ((sub_Right.f kj2 l0).bind fun t504 => ((roadbookref19_Right.f kj2 l0).bind fun t505 => (if (t504 == t505) = true then (if t489.toList = t491.toList then (if (t490 == t492) = true then ((roadbooklaw19_same.f kj2 t493 t498).bind fun t506 => (if t506 = true then (if (t494 == t499) = true then (some (t495 == t500)) else (some false)) else (some false))) else (some false)) else (some false)) else (some false)))) else (some false))) = some r := H
        have A14 := Aside0.mk A140
        clear A140
        replace H := Option.bind_eq_some_iff.mp H
        obtain ⟨t503, A150, H⟩ := H
        replace H : (if t503 = true then ((sub_Right.f kj2 l0).bind fun t504 => ((roadbookref19_Right.f kj2 l0).bind fun t505 => (if (t504 == t505) = true then (if t489.toList = t491.toList then (if (t490 == t492) = true then ((roadbooklaw19_same.f kj2 t493 t498).bind fun t506 => (if t506 = true then (if (t494 == t499) = true then (some (t495 == t500)) else (some false)) else (some false))) else (some false)) else (some false)) else (some false)))) else (some false)) = some r := H
        have A15 := Aside0.mk A150
        clear A150
        by_cases c16 : t503 = true
        · subst c16
          have H1 : ((sub_Right.f kj2 l0).bind fun t504 => ((roadbookref19_Right.f kj2 l0).bind fun t505 => (if (t504 == t505) = true then (if t489.toList = t491.toList then (if (t490 == t492) = true then ((roadbooklaw19_same.f kj2 t493 t498).bind fun t506 => (if t506 = true then (if (t494 == t499) = true then (some (t495 == t500)) else (some false)) else (some false))) else (some false)) else (some false)) else (some false)))) = some r := by rw [if_pos rfl] at H; exact H
          clear H
          have H := H1
          clear H1
          replace H := Option.bind_eq_some_iff.mp H
          obtain ⟨t504, A170, H⟩ := H
          replace H : ((roadbookref19_Right.f kj2 l0).bind fun t505 => (if (t504 == t505) = true then (if t489.toList = t491.toList then (if (t490 == t492) = true then ((roadbooklaw19_same.f kj2 t493 t498).bind fun t506 => (if t506 = true then (if (t494 == t499) = true then (some (t495 == t500)) else (some false)) else (some false))) else (some false)) else (some false)) else (some false))) = some r := H
          have A17 := Aside0.mk A170
          clear A170
          replace H := Option.bind_eq_some_iff.mp H
          obtain ⟨t505, A180, H⟩ := H
          replace H : (if (t504 == t505) = true then (if t489.toList = t491.toList then (if (t490 == t492) = true then ((roadbooklaw19_same.f kj2 t493 t498).bind fun t506 => (if t506 = true then (if (t494 == t499) = true then (some (t495 == t500)) else (some false)) else (some false))) else (some false)) else (some false)) else (some false)) = some r := H
          have A18 := Aside0.mk A180
          clear A180
          by_cases c19 : (t504 == t505) = true
          · rw [if_pos c19] at H
            have c19b0 : (t504 == t505) = true := c19
            (try (have c19b1 : decide (t504 = t505) = true := by simpa using c19))
            (try (have c19b2 : (t504 == t505) = true := by simpa using c19))
            clear c19
            by_cases c20 : t489.toList = t491.toList
            · rw [if_pos c20] at H
              have c20b0 : (t489.toList == t491.toList) = true := beq_iff_eq.mpr c20
              have c20b1 : (t489.toList != t491.toList) = false := bne_eq_false_iff_eq.mpr c20
              clear c20
              by_cases c21 : (t490 == t492) = true
              · rw [if_pos c21] at H
                have c21b0 : (t490 == t492) = true := c21
                (try (have c21b1 : decide (t490 = t492) = true := by simpa using c21))
                (try (have c21b2 : (t490 == t492) = true := by simpa using c21))
                clear c21
                replace H := Option.bind_eq_some_iff.mp H
                obtain ⟨t506, A220, H⟩ := H
                replace H : (if t506 = true then (if (t494 == t499) = true then (some (t495 == t500)) else (some false)) else (some false)) = some r := H
                have A22 := Aside0.mk A220
                clear A220
                by_cases c23 : t506 = true
                · subst c23
                  have H1 : (if (t494 == t499) = true then (some (t495 == t500)) else (some false)) = some r := by rw [if_pos rfl] at H; exact H
                  clear H
                  have H := H1
                  clear H1
                  by_cases c24 : (t494 == t499) = true
                  · rw [if_pos c24] at H
                    have c24b0 : (t494 == t499) = true := c24
                    (try (have c24b1 : decide (t494 = t499) = true := by simpa using c24))
                    (try (have c24b2 : (t494 == t499) = true := by simpa using c24))
                    clear c24
                    obtain rfl := Option.some.inj H
                    go_wp2_with (first | ((with_reducible refine gate_callee (f := 31) rfl ?_); refine goesL_ (some 26) rfl rfl Try.func31 (by kernel_rfl) rfl #[.slice A0 l0.length c0] rfl gAr ?_; (with_reducible refine (sub_Put.calls kj2 _ _ l0 t489 t490 _ ?side1 ?side2 A11.out).mono ?_); (case side1 => repeat (first | exact (Kd.C_below HR0.out HB.out) | (with_reducible refine Kd.C_alloc ?_ _) | (with_reducible refine Kd.C_drewN ?_ _) | (with_reducible refine Kd.C_drew ?_))); (case side2 => exact HC0.out); rintro e w25 ⟨rfl, hb⟩; refine ⟨_, rfl, ?_⟩; have n0_ := Aside0.mk (below_step (bel) hb); clear HB; have HB := n0_; clear n0_; (try clear hb)) | ((with_reducible refine gate_callee (f := 32) rfl ?_); refine goesL_ (some 31) rfl rfl Try.func32 (by kernel_rfl) rfl #[.slice A0 l0.length c0] rfl gAr ?_; (with_reducible refine (roadbookref19_Put.calls kj2 _ _ l0 t491 t492 _ ?side1 ?side2 A12.out).mono ?_); (case side1 => repeat (first | exact (Kd.C_below HR0.out HB.out) | (with_reducible refine Kd.C_alloc ?_ _) | (with_reducible refine Kd.C_drewN ?_ _) | (with_reducible refine Kd.C_drew ?_))); (case side2 => exact HC0.out); rintro e w26 ⟨rfl, hb⟩; refine ⟨_, rfl, ?_⟩; have n0_ := Aside0.mk (below_step (bel) hb); clear HB; have HB := n0_; clear n0_; (try clear hb)) | ((with_reducible refine gate_callee (f := 33) rfl ?_); refine goesL_ (some 36) rfl rfl Try.func33 (by kernel_rfl) rfl #[.string a1] rfl gAr ?_; (with_reducible refine (sub_Get.calls kj2 a1 t493 t494 t495 _ A13.out).mono ?_); rintro e w27 ⟨v496, rfl, ho0, hb⟩; refine ⟨_, rfl, ?_⟩; have n0_ := Aside0.mk (Kd.R_lower ho0 bsz); have n1_ := Aside0.mk (below_step (bel) hb); clear HB; have HO497 := n0_; have HB := n1_; clear n0_ n1_; (try clear hb); (try clear ho0)) | ((with_reducible refine gate_callee (f := 34) rfl ?_); refine goesL_ (some 42) rfl rfl Try.func34 (by kernel_rfl) rfl #[.string a1] rfl gAr ?_; (with_reducible refine (roadbookref19_Get.calls kj2 a1 t498 t499 t500 _ A14.out).mono ?_); rintro e w28 ⟨v501, rfl, ho0, hb⟩; refine ⟨_, rfl, ?_⟩; have n0_ := Aside0.mk (Kd.R_elder' (Kd.R_below HO497.out bll) (Kd.R_base ho0) hb); have n1_ := Aside0.mk (Kd.R_lower (Kd.R_new' ho0 (Kd.R_lt (Kd.R_below HO497.out bll))) bsz); have n2_ := Aside0.mk (below_step (bel) hb); clear HO497; clear HB; have HO497 := n0_; have HO502 := n1_; have HB := n2_; clear n0_ n1_ n2_; (try clear hb); (try clear ho0)) | ((with_reducible refine gate_callee (f := 30) rfl ?_); refine goesL_ (some 46) rfl rfl Try.func30 (by kernel_rfl) rfl #[] rfl gAr ?_; (with_reducible refine (roadbooklaw19_awake.calls kj2  true _ A15.out).mono ?_); rintro e w29 ⟨rfl, hb⟩; refine ⟨_, rfl, ?_⟩; have n0_ := Aside0.mk (Kd.R_below (Kd.R_below HO497.out bll) hb); have n1_ := Aside0.mk (Kd.R_below (Kd.R_below HO502.out bll) hb); have n2_ := Aside0.mk (below_step (bel) hb); clear HO497; clear HO502; clear HB; have HO497 := n0_; have HO502 := n1_; have HB := n2_; clear n0_ n1_ n2_; (try clear hb)) | (go_at_call 35; (with_reducible refine (sub_Right.calls kj2 _ _ l0 t504 _ ?side1 ?side2 A17.out).mono ?_); (case side1 => repeat (first | exact (Kd.C_below HR0.out HB.out) | (with_reducible refine Kd.C_alloc ?_ _) | (with_reducible refine Kd.C_drewN ?_ _) | (with_reducible refine Kd.C_drew ?_))); (case side2 => exact HC0.out); rintro e w30 ⟨rfl, hb⟩; have n0_ := Aside0.mk (Kd.R_below (Kd.R_below HO497.out bll) hb); have n1_ := Aside0.mk (Kd.R_below (Kd.R_below HO502.out bll) hb); have n2_ := Aside0.mk (below_step (bel) hb); clear HO497; clear HO502; clear HB; have HO497 := n0_; have HO502 := n1_; have HB := n2_; clear n0_ n1_ n2_; (try clear hb)) | (go_at_call 36; (with_reducible refine (roadbookref19_Right.calls kj2 _ _ l0 t505 _ ?side1 ?side2 A18.out).mono ?_); (case side1 => repeat (first | exact (Kd.C_below HR0.out HB.out) | (with_reducible refine Kd.C_alloc ?_ _) | (with_reducible refine Kd.C_drewN ?_ _) | (with_reducible refine Kd.C_drew ?_))); (case side2 => exact HC0.out); rintro e w' ⟨rfl, ⟨nd, rfl⟩⟩; obtain ⟨Ao31, co31, eo31⟩ := Kd.R_slice HO497.out; subst eo31; obtain ⟨Ao32, co32, eo32⟩ := Kd.R_slice HO502.out; subst eo32) | (go_at_call 37; (with_reducible refine (roadbooklaw19_same.calls kj2 _ _ t493 _ _ t498 true _ ?side1 ?side2 ?side3 ?side4 A22.out).mono ?_); (case side1 => repeat (first | exact (Kd.R_reads' HO497.out).2.2 | (with_reducible refine Kd.C_alloc ?_ _) | (with_reducible refine Kd.C_drewN ?_ _) | (with_reducible refine Kd.C_drew ?_))); (case side2 => exact (Kd.R_reads' HO497.out).2.1); (case side3 => repeat (first | exact (Kd.R_reads' HO502.out).2.2 | (with_reducible refine Kd.C_alloc ?_ _) | (with_reducible refine Kd.C_drewN ?_ _) | (with_reducible refine Kd.C_drew ?_))); (case side4 => exact (Kd.R_reads' HO502.out).2.1); rintro e w33 ⟨rfl, hb⟩; have n0_ := Aside0.mk (Kd.R_below (Kd.R_below HO497.out bll) hb); have n1_ := Aside0.mk (Kd.R_below (Kd.R_below HO502.out bll) hb); have n2_ := Aside0.mk (below_step (bel) hb); clear HO497; clear HO502; clear HB; have HO497 := n0_; have HO502 := n1_; have HB := n2_; clear n0_ n1_ n2_; (try clear hb)))
                    go_ret
                    exact ⟨rtE, bel⟩
                  · rw [if_neg c24] at H
                    have c24b0 : (t494 == t499) = false := by simpa using c24
                    (try (have c24b1 : decide (t494 = t499) = false := by simpa using c24))
                    (try (have c24b2 : (t494 == t499) = false := by simpa using c24))
                    (try (have c24b3 : ¬ (t494 = t499) := by simpa using c24))
                    clear c24
                    obtain rfl := Option.some.inj H
                    go_wp2_with (first | ((with_reducible refine gate_callee (f := 31) rfl ?_); refine goesL_ (some 26) rfl rfl Try.func31 (by kernel_rfl) rfl #[.slice A0 l0.length c0] rfl gAr ?_; (with_reducible refine (sub_Put.calls kj2 _ _ l0 t489 t490 _ ?side1 ?side2 A11.out).mono ?_); (case side1 => repeat (first | exact (Kd.C_below HR0.out HB.out) | (with_reducible refine Kd.C_alloc ?_ _) | (with_reducible refine Kd.C_drewN ?_ _) | (with_reducible refine Kd.C_drew ?_))); (case side2 => exact HC0.out); rintro e w34 ⟨rfl, hb⟩; refine ⟨_, rfl, ?_⟩; have n0_ := Aside0.mk (below_step (bel) hb); clear HB; have HB := n0_; clear n0_; (try clear hb)) | ((with_reducible refine gate_callee (f := 32) rfl ?_); refine goesL_ (some 31) rfl rfl Try.func32 (by kernel_rfl) rfl #[.slice A0 l0.length c0] rfl gAr ?_; (with_reducible refine (roadbookref19_Put.calls kj2 _ _ l0 t491 t492 _ ?side1 ?side2 A12.out).mono ?_); (case side1 => repeat (first | exact (Kd.C_below HR0.out HB.out) | (with_reducible refine Kd.C_alloc ?_ _) | (with_reducible refine Kd.C_drewN ?_ _) | (with_reducible refine Kd.C_drew ?_))); (case side2 => exact HC0.out); rintro e w35 ⟨rfl, hb⟩; refine ⟨_, rfl, ?_⟩; have n0_ := Aside0.mk (below_step (bel) hb); clear HB; have HB := n0_; clear n0_; (try clear hb)) | ((with_reducible refine gate_callee (f := 33) rfl ?_); refine goesL_ (some 36) rfl rfl Try.func33 (by kernel_rfl) rfl #[.string a1] rfl gAr ?_; (with_reducible refine (sub_Get.calls kj2 a1 t493 t494 t495 _ A13.out).mono ?_); rintro e w36 ⟨v496, rfl, ho0, hb⟩; refine ⟨_, rfl, ?_⟩; have n0_ := Aside0.mk (Kd.R_lower ho0 bsz); have n1_ := Aside0.mk (below_step (bel) hb); clear HB; have HO497 := n0_; have HB := n1_; clear n0_ n1_; (try clear hb); (try clear ho0)) | ((with_reducible refine gate_callee (f := 34) rfl ?_); refine goesL_ (some 42) rfl rfl Try.func34 (by kernel_rfl) rfl #[.string a1] rfl gAr ?_; (with_reducible refine (roadbookref19_Get.calls kj2 a1 t498 t499 t500 _ A14.out).mono ?_); rintro e w37 ⟨v501, rfl, ho0, hb⟩; refine ⟨_, rfl, ?_⟩; have n0_ := Aside0.mk (Kd.R_elder' (Kd.R_below HO497.out bll) (Kd.R_base ho0) hb); have n1_ := Aside0.mk (Kd.R_lower (Kd.R_new' ho0 (Kd.R_lt (Kd.R_below HO497.out bll))) bsz); have n2_ := Aside0.mk (below_step (bel) hb); clear HO497; clear HB; have HO497 := n0_; have HO502 := n1_; have HB := n2_; clear n0_ n1_ n2_; (try clear hb); (try clear ho0)) | ((with_reducible refine gate_callee (f := 30) rfl ?_); refine goesL_ (some 46) rfl rfl Try.func30 (by kernel_rfl) rfl #[] rfl gAr ?_; (with_reducible refine (roadbooklaw19_awake.calls kj2  true _ A15.out).mono ?_); rintro e w38 ⟨rfl, hb⟩; refine ⟨_, rfl, ?_⟩; have n0_ := Aside0.mk (Kd.R_below (Kd.R_below HO497.out bll) hb); have n1_ := Aside0.mk (Kd.R_below (Kd.R_below HO502.out bll) hb); have n2_ := Aside0.mk (below_step (bel) hb); clear HO497; clear HO502; clear HB; have HO497 := n0_; have HO502 := n1_; have HB := n2_; clear n0_ n1_ n2_; (try clear hb)) | (go_at_call 35; (with_reducible refine (sub_Right.calls kj2 _ _ l0 t504 _ ?side1 ?side2 A17.out).mono ?_); (case side1 => repeat (first | exact (Kd.C_below HR0.out HB.out) | (with_reducible refine Kd.C_alloc ?_ _) | (with_reducible refine Kd.C_drewN ?_ _) | (with_reducible refine Kd.C_drew ?_))); (case side2 => exact HC0.out); rintro e w39 ⟨rfl, hb⟩; have n0_ := Aside0.mk (Kd.R_below (Kd.R_below HO497.out bll) hb); have n1_ := Aside0.mk (Kd.R_below (Kd.R_below HO502.out bll) hb); have n2_ := Aside0.mk (below_step (bel) hb); clear HO497; clear HO502; clear HB; have HO497 := n0_; have HO502 := n1_; have HB := n2_; clear n0_ n1_ n2_; (try clear hb)) | (go_at_call 36; (with_reducible refine (roadbookref19_Right.calls kj2 _ _ l0 t505 _ ?side1 ?side2 A18.out).mono ?_); (case side1 => repeat (first | exact (Kd.C_below HR0.out HB.out) | (with_reducible refine Kd.C_alloc ?_ _) | (with_reducible refine Kd.C_drewN ?_ _) | (with_reducible refine Kd.C_drew ?_))); (case side2 => exact HC0.out); rintro e w' ⟨rfl, ⟨nd, rfl⟩⟩; obtain ⟨Ao40, co40, eo40⟩ := Kd.R_slice HO497.out; subst eo40; obtain ⟨Ao41, co41, eo41⟩ := Kd.R_slice HO502.out; subst eo41) | (go_at_call 37; (with_reducible refine (roadbooklaw19_same.calls kj2 _ _ t493 _ _ t498 true _ ?side1 ?side2 ?side3 ?side4 A22.out).mono ?_); (case side1 => repeat (first | exact (Kd.R_reads' HO497.out).2.2 | (with_reducible refine Kd.C_alloc ?_ _) | (with_reducible refine Kd.C_drewN ?_ _) | (with_reducible refine Kd.C_drew ?_))); (case side2 => exact (Kd.R_reads' HO497.out).2.1); (case side3 => repeat (first | exact (Kd.R_reads' HO502.out).2.2 | (with_reducible refine Kd.C_alloc ?_ _) | (with_reducible refine Kd.C_drewN ?_ _) | (with_reducible refine Kd.C_drew ?_))); (case side4 => exact (Kd.R_reads' HO502.out).2.1); rintro e w42 ⟨rfl, hb⟩; have n0_ := Aside0.mk (Kd.R_below (Kd.R_below HO497.out bll) hb); have n1_ := Aside0.mk (Kd.R_below (Kd.R_below HO502.out bll) hb); have n2_ := Aside0.mk (below_step (bel) hb); clear HO497; clear HO502; clear HB; have HO497 := n0_; have HO502 := n1_; have HB := n2_; clear n0_ n1_ n2_; (try clear hb)))
                    go_ret
                    exact ⟨rtE, bel⟩
                · replace c23 := Bool.eq_false_iff.mpr c23
                  subst c23
                  have H1 : (some false) = some r := by rw [if_neg (show ¬ (false = true) by decide)] at H; exact H
                  clear H
                  have H := H1
                  clear H1
                  obtain rfl := Option.some.inj H
                  go_wp2_with (first | ((with_reducible refine gate_callee (f := 31) rfl ?_); refine goesL_ (some 26) rfl rfl Try.func31 (by kernel_rfl) rfl #[.slice A0 l0.length c0] rfl gAr ?_; (with_reducible refine (sub_Put.calls kj2 _ _ l0 t489 t490 _ ?side1 ?side2 A11.out).mono ?_); (case side1 => repeat (first | exact (Kd.C_below HR0.out HB.out) | (with_reducible refine Kd.C_alloc ?_ _) | (with_reducible refine Kd.C_drewN ?_ _) | (with_reducible refine Kd.C_drew ?_))); (case side2 => exact HC0.out); rintro e w43 ⟨rfl, hb⟩; refine ⟨_, rfl, ?_⟩; have n0_ := Aside0.mk (below_step (bel) hb); clear HB; have HB := n0_; clear n0_; (try clear hb)) | ((with_reducible refine gate_callee (f := 32) rfl ?_); refine goesL_ (some 31) rfl rfl Try.func32 (by kernel_rfl) rfl #[.slice A0 l0.length c0] rfl gAr ?_; (with_reducible refine (roadbookref19_Put.calls kj2 _ _ l0 t491 t492 _ ?side1 ?side2 A12.out).mono ?_); (case side1 => repeat (first | exact (Kd.C_below HR0.out HB.out) | (with_reducible refine Kd.C_alloc ?_ _) | (with_reducible refine Kd.C_drewN ?_ _) | (with_reducible refine Kd.C_drew ?_))); (case side2 => exact HC0.out); rintro e w44 ⟨rfl, hb⟩; refine ⟨_, rfl, ?_⟩; have n0_ := Aside0.mk (below_step (bel) hb); clear HB; have HB := n0_; clear n0_; (try clear hb)) | ((with_reducible refine gate_callee (f := 33) rfl ?_); refine goesL_ (some 36) rfl rfl Try.func33 (by kernel_rfl) rfl #[.string a1] rfl gAr ?_; (with_reducible refine (sub_Get.calls kj2 a1 t493 t494 t495 _ A13.out).mono ?_); rintro e w45 ⟨v496, rfl, ho0, hb⟩; refine ⟨_, rfl, ?_⟩; have n0_ := Aside0.mk (Kd.R_lower ho0 bsz); have n1_ := Aside0.mk (below_step (bel) hb); clear HB; have HO497 := n0_; have HB := n1_; clear n0_ n1_; (try clear hb); (try clear ho0)) | ((with_reducible refine gate_callee (f := 34) rfl ?_); refine goesL_ (some 42) rfl rfl Try.func34 (by kernel_rfl) rfl #[.string a1] rfl gAr ?_; (with_reducible refine (roadbookref19_Get.calls kj2 a1 t498 t499 t500 _ A14.out).mono ?_); rintro e w46 ⟨v501, rfl, ho0, hb⟩; refine ⟨_, rfl, ?_⟩; have n0_ := Aside0.mk (Kd.R_elder' (Kd.R_below HO497.out bll) (Kd.R_base ho0) hb); have n1_ := Aside0.mk (Kd.R_lower (Kd.R_new' ho0 (Kd.R_lt (Kd.R_below HO497.out bll))) bsz); have n2_ := Aside0.mk (below_step (bel) hb); clear HO497; clear HB; have HO497 := n0_; have HO502 := n1_; have HB := n2_; clear n0_ n1_ n2_; (try clear hb); (try clear ho0)) | ((with_reducible refine gate_callee (f := 30) rfl ?_); refine goesL_ (some 46) rfl rfl Try.func30 (by kernel_rfl) rfl #[] rfl gAr ?_; (with_reducible refine (roadbooklaw19_awake.calls kj2  true _ A15.out).mono ?_); rintro e w47 ⟨rfl, hb⟩; refine ⟨_, rfl, ?_⟩; have n0_ := Aside0.mk (Kd.R_below (Kd.R_below HO497.out bll) hb); have n1_ := Aside0.mk (Kd.R_below (Kd.R_below HO502.out bll) hb); have n2_ := Aside0.mk (below_step (bel) hb); clear HO497; clear HO502; clear HB; have HO497 := n0_; have HO502 := n1_; have HB := n2_; clear n0_ n1_ n2_; (try clear hb)) | (go_at_call 35; (with_reducible refine (sub_Right.calls kj2 _ _ l0 t504 _ ?side1 ?side2 A17.out).mono ?_); (case side1 => repeat (first | exact (Kd.C_below HR0.out HB.out) | (with_reducible refine Kd.C_alloc ?_ _) | (with_reducible refine Kd.C_drewN ?_ _) | (with_reducible refine Kd.C_drew ?_))); (case side2 => exact HC0.out); rintro e w48 ⟨rfl, hb⟩; have n0_ := Aside0.mk (Kd.R_below (Kd.R_below HO497.out bll) hb); have n1_ := Aside0.mk (Kd.R_below (Kd.R_below HO502.out bll) hb); have n2_ := Aside0.mk (below_step (bel) hb); clear HO497; clear HO502; clear HB; have HO497 := n0_; have HO502 := n1_; have HB := n2_; clear n0_ n1_ n2_; (try clear hb)) | (go_at_call 36; (with_reducible refine (roadbookref19_Right.calls kj2 _ _ l0 t505 _ ?side1 ?side2 A18.out).mono ?_); (case side1 => repeat (first | exact (Kd.C_below HR0.out HB.out) | (with_reducible refine Kd.C_alloc ?_ _) | (with_reducible refine Kd.C_drewN ?_ _) | (with_reducible refine Kd.C_drew ?_))); (case side2 => exact HC0.out); rintro e w' ⟨rfl, ⟨nd, rfl⟩⟩; obtain ⟨Ao49, co49, eo49⟩ := Kd.R_slice HO497.out; subst eo49; obtain ⟨Ao50, co50, eo50⟩ := Kd.R_slice HO502.out; subst eo50) | (go_at_call 37; (with_reducible refine (roadbooklaw19_same.calls kj2 _ _ t493 _ _ t498 false _ ?side1 ?side2 ?side3 ?side4 A22.out).mono ?_); (case side1 => repeat (first | exact (Kd.R_reads' HO497.out).2.2 | (with_reducible refine Kd.C_alloc ?_ _) | (with_reducible refine Kd.C_drewN ?_ _) | (with_reducible refine Kd.C_drew ?_))); (case side2 => exact (Kd.R_reads' HO497.out).2.1); (case side3 => repeat (first | exact (Kd.R_reads' HO502.out).2.2 | (with_reducible refine Kd.C_alloc ?_ _) | (with_reducible refine Kd.C_drewN ?_ _) | (with_reducible refine Kd.C_drew ?_))); (case side4 => exact (Kd.R_reads' HO502.out).2.1); rintro e w51 ⟨rfl, hb⟩; have n0_ := Aside0.mk (Kd.R_below (Kd.R_below HO497.out bll) hb); have n1_ := Aside0.mk (Kd.R_below (Kd.R_below HO502.out bll) hb); have n2_ := Aside0.mk (below_step (bel) hb); clear HO497; clear HO502; clear HB; have HO497 := n0_; have HO502 := n1_; have HB := n2_; clear n0_ n1_ n2_; (try clear hb)))
                  go_ret
                  exact ⟨rtE, bel⟩
              · rw [if_neg c21] at H
                have c21b0 : (t490 == t492) = false := by simpa using c21
                (try (have c21b1 : decide (t490 = t492) = false := by simpa using c21))
                (try (have c21b2 : (t490 == t492) = false := by simpa using c21))
                (try (have c21b3 : ¬ (t490 = t492) := by simpa using c21))
                clear c21
                obtain rfl := Option.some.inj H
                go_wp2_with (first | ((with_reducible refine gate_callee (f := 31) rfl ?_); refine goesL_ (some 26) rfl rfl Try.func31 (by kernel_rfl) rfl #[.slice A0 l0.length c0] rfl gAr ?_; (with_reducible refine (sub_Put.calls kj2 _ _ l0 t489 t490 _ ?side1 ?side2 A11.out).mono ?_); (case side1 => repeat (first | exact (Kd.C_below HR0.out HB.out) | (with_reducible refine Kd.C_alloc ?_ _) | (with_reducible refine Kd.C_drewN ?_ _) | (with_reducible refine Kd.C_drew ?_))); (case side2 => exact HC0.out); rintro e w52 ⟨rfl, hb⟩; refine ⟨_, rfl, ?_⟩; have n0_ := Aside0.mk (below_step (bel) hb); clear HB; have HB := n0_; clear n0_; (try clear hb)) | ((with_reducible refine gate_callee (f := 32) rfl ?_); refine goesL_ (some 31) rfl rfl Try.func32 (by kernel_rfl) rfl #[.slice A0 l0.length c0] rfl gAr ?_; (with_reducible refine (roadbookref19_Put.calls kj2 _ _ l0 t491 t492 _ ?side1 ?side2 A12.out).mono ?_); (case side1 => repeat (first | exact (Kd.C_below HR0.out HB.out) | (with_reducible refine Kd.C_alloc ?_ _) | (with_reducible refine Kd.C_drewN ?_ _) | (with_reducible refine Kd.C_drew ?_))); (case side2 => exact HC0.out); rintro e w53 ⟨rfl, hb⟩; refine ⟨_, rfl, ?_⟩; have n0_ := Aside0.mk (below_step (bel) hb); clear HB; have HB := n0_; clear n0_; (try clear hb)) | ((with_reducible refine gate_callee (f := 33) rfl ?_); refine goesL_ (some 36) rfl rfl Try.func33 (by kernel_rfl) rfl #[.string a1] rfl gAr ?_; (with_reducible refine (sub_Get.calls kj2 a1 t493 t494 t495 _ A13.out).mono ?_); rintro e w54 ⟨v496, rfl, ho0, hb⟩; refine ⟨_, rfl, ?_⟩; have n0_ := Aside0.mk (Kd.R_lower ho0 bsz); have n1_ := Aside0.mk (below_step (bel) hb); clear HB; have HO497 := n0_; have HB := n1_; clear n0_ n1_; (try clear hb); (try clear ho0)) | ((with_reducible refine gate_callee (f := 34) rfl ?_); refine goesL_ (some 42) rfl rfl Try.func34 (by kernel_rfl) rfl #[.string a1] rfl gAr ?_; (with_reducible refine (roadbookref19_Get.calls kj2 a1 t498 t499 t500 _ A14.out).mono ?_); rintro e w55 ⟨v501, rfl, ho0, hb⟩; refine ⟨_, rfl, ?_⟩; have n0_ := Aside0.mk (Kd.R_elder' (Kd.R_below HO497.out bll) (Kd.R_base ho0) hb); have n1_ := Aside0.mk (Kd.R_lower (Kd.R_new' ho0 (Kd.R_lt (Kd.R_below HO497.out bll))) bsz); have n2_ := Aside0.mk (below_step (bel) hb); clear HO497; clear HB; have HO497 := n0_; have HO502 := n1_; have HB := n2_; clear n0_ n1_ n2_; (try clear hb); (try clear ho0)) | ((with_reducible refine gate_callee (f := 30) rfl ?_); refine goesL_ (some 46) rfl rfl Try.func30 (by kernel_rfl) rfl #[] rfl gAr ?_; (with_reducible refine (roadbooklaw19_awake.calls kj2  true _ A15.out).mono ?_); rintro e w56 ⟨rfl, hb⟩; refine ⟨_, rfl, ?_⟩; have n0_ := Aside0.mk (Kd.R_below (Kd.R_below HO497.out bll) hb); have n1_ := Aside0.mk (Kd.R_below (Kd.R_below HO502.out bll) hb); have n2_ := Aside0.mk (below_step (bel) hb); clear HO497; clear HO502; clear HB; have HO497 := n0_; have HO502 := n1_; have HB := n2_; clear n0_ n1_ n2_; (try clear hb)) | (go_at_call 35; (with_reducible refine (sub_Right.calls kj2 _ _ l0 t504 _ ?side1 ?side2 A17.out).mono ?_); (case side1 => repeat (first | exact (Kd.C_below HR0.out HB.out) | (with_reducible refine Kd.C_alloc ?_ _) | (with_reducible refine Kd.C_drewN ?_ _) | (with_reducible refine Kd.C_drew ?_))); (case side2 => exact HC0.out); rintro e w57 ⟨rfl, hb⟩; have n0_ := Aside0.mk (Kd.R_below (Kd.R_below HO497.out bll) hb); have n1_ := Aside0.mk (Kd.R_below (Kd.R_below HO502.out bll) hb); have n2_ := Aside0.mk (below_step (bel) hb); clear HO497; clear HO502; clear HB; have HO497 := n0_; have HO502 := n1_; have HB := n2_; clear n0_ n1_ n2_; (try clear hb)) | (go_at_call 36; (with_reducible refine (roadbookref19_Right.calls kj2 _ _ l0 t505 _ ?side1 ?side2 A18.out).mono ?_); (case side1 => repeat (first | exact (Kd.C_below HR0.out HB.out) | (with_reducible refine Kd.C_alloc ?_ _) | (with_reducible refine Kd.C_drewN ?_ _) | (with_reducible refine Kd.C_drew ?_))); (case side2 => exact HC0.out); rintro e w' ⟨rfl, ⟨nd, rfl⟩⟩))
                go_ret
                exact ⟨rtE, bel⟩
            · rw [if_neg c20] at H
              have c20b0 : (t489.toList == t491.toList) = false := beq_eq_false_iff_ne.mpr c20
              have c20b1 : (t489.toList != t491.toList) = true := bne_iff_ne.mpr c20
              obtain rfl := Option.some.inj H
              go_wp2_with (first | ((with_reducible refine gate_callee (f := 31) rfl ?_); refine goesL_ (some 26) rfl rfl Try.func31 (by kernel_rfl) rfl #[.slice A0 l0.length c0] rfl gAr ?_; (with_reducible refine (sub_Put.calls kj2 _ _ l0 t489 t490 _ ?side1 ?side2 A11.out).mono ?_); (case side1 => repeat (first | exact (Kd.C_below HR0.out HB.out) | (with_reducible refine Kd.C_alloc ?_ _) | (with_reducible refine Kd.C_drewN ?_ _) | (with_reducible refine Kd.C_drew ?_))); (case side2 => exact HC0.out); rintro e w58 ⟨rfl, hb⟩; refine ⟨_, rfl, ?_⟩; have n0_ := Aside0.mk (below_step (bel) hb); clear HB; have HB := n0_; clear n0_; (try clear hb)) | ((with_reducible refine gate_callee (f := 32) rfl ?_); refine goesL_ (some 31) rfl rfl Try.func32 (by kernel_rfl) rfl #[.slice A0 l0.length c0] rfl gAr ?_; (with_reducible refine (roadbookref19_Put.calls kj2 _ _ l0 t491 t492 _ ?side1 ?side2 A12.out).mono ?_); (case side1 => repeat (first | exact (Kd.C_below HR0.out HB.out) | (with_reducible refine Kd.C_alloc ?_ _) | (with_reducible refine Kd.C_drewN ?_ _) | (with_reducible refine Kd.C_drew ?_))); (case side2 => exact HC0.out); rintro e w59 ⟨rfl, hb⟩; refine ⟨_, rfl, ?_⟩; have n0_ := Aside0.mk (below_step (bel) hb); clear HB; have HB := n0_; clear n0_; (try clear hb)) | ((with_reducible refine gate_callee (f := 33) rfl ?_); refine goesL_ (some 36) rfl rfl Try.func33 (by kernel_rfl) rfl #[.string a1] rfl gAr ?_; (with_reducible refine (sub_Get.calls kj2 a1 t493 t494 t495 _ A13.out).mono ?_); rintro e w60 ⟨v496, rfl, ho0, hb⟩; refine ⟨_, rfl, ?_⟩; have n0_ := Aside0.mk (Kd.R_lower ho0 bsz); have n1_ := Aside0.mk (below_step (bel) hb); clear HB; have HO497 := n0_; have HB := n1_; clear n0_ n1_; (try clear hb); (try clear ho0)) | ((with_reducible refine gate_callee (f := 34) rfl ?_); refine goesL_ (some 42) rfl rfl Try.func34 (by kernel_rfl) rfl #[.string a1] rfl gAr ?_; (with_reducible refine (roadbookref19_Get.calls kj2 a1 t498 t499 t500 _ A14.out).mono ?_); rintro e w61 ⟨v501, rfl, ho0, hb⟩; refine ⟨_, rfl, ?_⟩; have n0_ := Aside0.mk (Kd.R_elder' (Kd.R_below HO497.out bll) (Kd.R_base ho0) hb); have n1_ := Aside0.mk (Kd.R_lower (Kd.R_new' ho0 (Kd.R_lt (Kd.R_below HO497.out bll))) bsz); have n2_ := Aside0.mk (below_step (bel) hb); clear HO497; clear HB; have HO497 := n0_; have HO502 := n1_; have HB := n2_; clear n0_ n1_ n2_; (try clear hb); (try clear ho0)) | ((with_reducible refine gate_callee (f := 30) rfl ?_); refine goesL_ (some 46) rfl rfl Try.func30 (by kernel_rfl) rfl #[] rfl gAr ?_; (with_reducible refine (roadbooklaw19_awake.calls kj2  true _ A15.out).mono ?_); rintro e w62 ⟨rfl, hb⟩; refine ⟨_, rfl, ?_⟩; have n0_ := Aside0.mk (Kd.R_below (Kd.R_below HO497.out bll) hb); have n1_ := Aside0.mk (Kd.R_below (Kd.R_below HO502.out bll) hb); have n2_ := Aside0.mk (below_step (bel) hb); clear HO497; clear HO502; clear HB; have HO497 := n0_; have HO502 := n1_; have HB := n2_; clear n0_ n1_ n2_; (try clear hb)) | (go_at_call 35; (with_reducible refine (sub_Right.calls kj2 _ _ l0 t504 _ ?side1 ?side2 A17.out).mono ?_); (case side1 => repeat (first | exact (Kd.C_below HR0.out HB.out) | (with_reducible refine Kd.C_alloc ?_ _) | (with_reducible refine Kd.C_drewN ?_ _) | (with_reducible refine Kd.C_drew ?_))); (case side2 => exact HC0.out); rintro e w63 ⟨rfl, hb⟩; have n0_ := Aside0.mk (Kd.R_below (Kd.R_below HO497.out bll) hb); have n1_ := Aside0.mk (Kd.R_below (Kd.R_below HO502.out bll) hb); have n2_ := Aside0.mk (below_step (bel) hb); clear HO497; clear HO502; clear HB; have HO497 := n0_; have HO502 := n1_; have HB := n2_; clear n0_ n1_ n2_; (try clear hb)) | (go_at_call 36; (with_reducible refine (roadbookref19_Right.calls kj2 _ _ l0 t505 _ ?side1 ?side2 A18.out).mono ?_); (case side1 => repeat (first | exact (Kd.C_below HR0.out HB.out) | (with_reducible refine Kd.C_alloc ?_ _) | (with_reducible refine Kd.C_drewN ?_ _) | (with_reducible refine Kd.C_drew ?_))); (case side2 => exact HC0.out); rintro e w' ⟨rfl, ⟨nd, rfl⟩⟩))
              go_ret
              exact ⟨rtE, bel⟩
          · rw [if_neg c19] at H
            have c19b0 : (t504 == t505) = false := by simpa using c19
            (try (have c19b1 : decide (t504 = t505) = false := by simpa using c19))
            (try (have c19b2 : (t504 == t505) = false := by simpa using c19))
            (try (have c19b3 : ¬ (t504 = t505) := by simpa using c19))
            clear c19
            obtain rfl := Option.some.inj H
            go_wp2_with (first | ((with_reducible refine gate_callee (f := 31) rfl ?_); refine goesL_ (some 26) rfl rfl Try.func31 (by kernel_rfl) rfl #[.slice A0 l0.length c0] rfl gAr ?_; (with_reducible refine (sub_Put.calls kj2 _ _ l0 t489 t490 _ ?side1 ?side2 A11.out).mono ?_); (case side1 => repeat (first | exact (Kd.C_below HR0.out HB.out) | (with_reducible refine Kd.C_alloc ?_ _) | (with_reducible refine Kd.C_drewN ?_ _) | (with_reducible refine Kd.C_drew ?_))); (case side2 => exact HC0.out); rintro e w64 ⟨rfl, hb⟩; refine ⟨_, rfl, ?_⟩; have n0_ := Aside0.mk (below_step (bel) hb); clear HB; have HB := n0_; clear n0_; (try clear hb)) | ((with_reducible refine gate_callee (f := 32) rfl ?_); refine goesL_ (some 31) rfl rfl Try.func32 (by kernel_rfl) rfl #[.slice A0 l0.length c0] rfl gAr ?_; (with_reducible refine (roadbookref19_Put.calls kj2 _ _ l0 t491 t492 _ ?side1 ?side2 A12.out).mono ?_); (case side1 => repeat (first | exact (Kd.C_below HR0.out HB.out) | (with_reducible refine Kd.C_alloc ?_ _) | (with_reducible refine Kd.C_drewN ?_ _) | (with_reducible refine Kd.C_drew ?_))); (case side2 => exact HC0.out); rintro e w65 ⟨rfl, hb⟩; refine ⟨_, rfl, ?_⟩; have n0_ := Aside0.mk (below_step (bel) hb); clear HB; have HB := n0_; clear n0_; (try clear hb)) | ((with_reducible refine gate_callee (f := 33) rfl ?_); refine goesL_ (some 36) rfl rfl Try.func33 (by kernel_rfl) rfl #[.string a1] rfl gAr ?_; (with_reducible refine (sub_Get.calls kj2 a1 t493 t494 t495 _ A13.out).mono ?_); rintro e w66 ⟨v496, rfl, ho0, hb⟩; refine ⟨_, rfl, ?_⟩; have n0_ := Aside0.mk (Kd.R_lower ho0 bsz); have n1_ := Aside0.mk (below_step (bel) hb); clear HB; have HO497 := n0_; have HB := n1_; clear n0_ n1_; (try clear hb); (try clear ho0)) | ((with_reducible refine gate_callee (f := 34) rfl ?_); refine goesL_ (some 42) rfl rfl Try.func34 (by kernel_rfl) rfl #[.string a1] rfl gAr ?_; (with_reducible refine (roadbookref19_Get.calls kj2 a1 t498 t499 t500 _ A14.out).mono ?_); rintro e w67 ⟨v501, rfl, ho0, hb⟩; refine ⟨_, rfl, ?_⟩; have n0_ := Aside0.mk (Kd.R_elder' (Kd.R_below HO497.out bll) (Kd.R_base ho0) hb); have n1_ := Aside0.mk (Kd.R_lower (Kd.R_new' ho0 (Kd.R_lt (Kd.R_below HO497.out bll))) bsz); have n2_ := Aside0.mk (below_step (bel) hb); clear HO497; clear HB; have HO497 := n0_; have HO502 := n1_; have HB := n2_; clear n0_ n1_ n2_; (try clear hb); (try clear ho0)) | ((with_reducible refine gate_callee (f := 30) rfl ?_); refine goesL_ (some 46) rfl rfl Try.func30 (by kernel_rfl) rfl #[] rfl gAr ?_; (with_reducible refine (roadbooklaw19_awake.calls kj2  true _ A15.out).mono ?_); rintro e w68 ⟨rfl, hb⟩; refine ⟨_, rfl, ?_⟩; have n0_ := Aside0.mk (Kd.R_below (Kd.R_below HO497.out bll) hb); have n1_ := Aside0.mk (Kd.R_below (Kd.R_below HO502.out bll) hb); have n2_ := Aside0.mk (below_step (bel) hb); clear HO497; clear HO502; clear HB; have HO497 := n0_; have HO502 := n1_; have HB := n2_; clear n0_ n1_ n2_; (try clear hb)) | (go_at_call 35; (with_reducible refine (sub_Right.calls kj2 _ _ l0 t504 _ ?side1 ?side2 A17.out).mono ?_); (case side1 => repeat (first | exact (Kd.C_below HR0.out HB.out) | (with_reducible refine Kd.C_alloc ?_ _) | (with_reducible refine Kd.C_drewN ?_ _) | (with_reducible refine Kd.C_drew ?_))); (case side2 => exact HC0.out); rintro e w69 ⟨rfl, hb⟩; have n0_ := Aside0.mk (Kd.R_below (Kd.R_below HO497.out bll) hb); have n1_ := Aside0.mk (Kd.R_below (Kd.R_below HO502.out bll) hb); have n2_ := Aside0.mk (below_step (bel) hb); clear HO497; clear HO502; clear HB; have HO497 := n0_; have HO502 := n1_; have HB := n2_; clear n0_ n1_ n2_; (try clear hb)) | (go_at_call 36; (with_reducible refine (roadbookref19_Right.calls kj2 _ _ l0 t505 _ ?side1 ?side2 A18.out).mono ?_); (case side1 => repeat (first | exact (Kd.C_below HR0.out HB.out) | (with_reducible refine Kd.C_alloc ?_ _) | (with_reducible refine Kd.C_drewN ?_ _) | (with_reducible refine Kd.C_drew ?_))); (case side2 => exact HC0.out); rintro e w' ⟨rfl, ⟨nd, rfl⟩⟩))
            go_ret
            exact ⟨rtE, bel⟩
        · replace c16 := Bool.eq_false_iff.mpr c16
          subst c16
          have H1 : (some false) = some r := by rw [if_neg (show ¬ (false = true) by decide)] at H; exact H
          clear H
          have H := H1
          clear H1
          obtain rfl := Option.some.inj H
          go_wp2_with (first | ((with_reducible refine gate_callee (f := 31) rfl ?_); refine goesL_ (some 26) rfl rfl Try.func31 (by kernel_rfl) rfl #[.slice A0 l0.length c0] rfl gAr ?_; (with_reducible refine (sub_Put.calls kj2 _ _ l0 t489 t490 _ ?side1 ?side2 A11.out).mono ?_); (case side1 => repeat (first | exact (Kd.C_below HR0.out HB.out) | (with_reducible refine Kd.C_alloc ?_ _) | (with_reducible refine Kd.C_drewN ?_ _) | (with_reducible refine Kd.C_drew ?_))); (case side2 => exact HC0.out); rintro e w70 ⟨rfl, hb⟩; refine ⟨_, rfl, ?_⟩; have n0_ := Aside0.mk (below_step (bel) hb); clear HB; have HB := n0_; clear n0_; (try clear hb)) | ((with_reducible refine gate_callee (f := 32) rfl ?_); refine goesL_ (some 31) rfl rfl Try.func32 (by kernel_rfl) rfl #[.slice A0 l0.length c0] rfl gAr ?_; (with_reducible refine (roadbookref19_Put.calls kj2 _ _ l0 t491 t492 _ ?side1 ?side2 A12.out).mono ?_); (case side1 => repeat (first | exact (Kd.C_below HR0.out HB.out) | (with_reducible refine Kd.C_alloc ?_ _) | (with_reducible refine Kd.C_drewN ?_ _) | (with_reducible refine Kd.C_drew ?_))); (case side2 => exact HC0.out); rintro e w71 ⟨rfl, hb⟩; refine ⟨_, rfl, ?_⟩; have n0_ := Aside0.mk (below_step (bel) hb); clear HB; have HB := n0_; clear n0_; (try clear hb)) | ((with_reducible refine gate_callee (f := 33) rfl ?_); refine goesL_ (some 36) rfl rfl Try.func33 (by kernel_rfl) rfl #[.string a1] rfl gAr ?_; (with_reducible refine (sub_Get.calls kj2 a1 t493 t494 t495 _ A13.out).mono ?_); rintro e w72 ⟨v496, rfl, ho0, hb⟩; refine ⟨_, rfl, ?_⟩; have n0_ := Aside0.mk (Kd.R_lower ho0 bsz); have n1_ := Aside0.mk (below_step (bel) hb); clear HB; have HO497 := n0_; have HB := n1_; clear n0_ n1_; (try clear hb); (try clear ho0)) | ((with_reducible refine gate_callee (f := 34) rfl ?_); refine goesL_ (some 42) rfl rfl Try.func34 (by kernel_rfl) rfl #[.string a1] rfl gAr ?_; (with_reducible refine (roadbookref19_Get.calls kj2 a1 t498 t499 t500 _ A14.out).mono ?_); rintro e w73 ⟨v501, rfl, ho0, hb⟩; refine ⟨_, rfl, ?_⟩; have n0_ := Aside0.mk (Kd.R_elder' (Kd.R_below HO497.out bll) (Kd.R_base ho0) hb); have n1_ := Aside0.mk (Kd.R_lower (Kd.R_new' ho0 (Kd.R_lt (Kd.R_below HO497.out bll))) bsz); have n2_ := Aside0.mk (below_step (bel) hb); clear HO497; clear HB; have HO497 := n0_; have HO502 := n1_; have HB := n2_; clear n0_ n1_ n2_; (try clear hb); (try clear ho0)) | ((with_reducible refine gate_callee (f := 30) rfl ?_); refine goesL_ (some 46) rfl rfl Try.func30 (by kernel_rfl) rfl #[] rfl gAr ?_; (with_reducible refine (roadbooklaw19_awake.calls kj2  false _ A15.out).mono ?_); rintro e w74 ⟨rfl, hb⟩; refine ⟨_, rfl, ?_⟩; have n0_ := Aside0.mk (Kd.R_below (Kd.R_below HO497.out bll) hb); have n1_ := Aside0.mk (Kd.R_below (Kd.R_below HO502.out bll) hb); have n2_ := Aside0.mk (below_step (bel) hb); clear HO497; clear HO502; clear HB; have HO497 := n0_; have HO502 := n1_; have HB := n2_; clear n0_ n1_ n2_; (try clear hb)))
          go_ret
          exact ⟨rtE, bel⟩

/-- THE ONE PURE STATEMENT of roadbooklaw19_SubTells. -/
def roadbooklaw19_SubTells.Pure : Prop := ∀ (l0 : List (S78)) (a1 : ByteArray), (l0.length * 24 ≤ 140737488351232 ∧ ∀ y_ ∈ l0, G78 y_) → a1.size ≤ 140737488351232 → ∃ k, roadbooklaw19_SubTells.f k l0 a1 = some true
theorem roadbooklaw19_SubTells.walk (P : roadbooklaw19_SubTells.Pure) (l0 : List (S78)) (a1 : ByteArray) (A0 : Option Addr) (c0 : Nat) (w : World) (g0 : (l0.length * 24 ≤ 140737488351232 ∧ ∀ y_ ∈ l0, G78 y_)) (g1 : a1.size ≤ 140737488351232) (hr0 : Kd.C k78 w A0 l0.length l0) (hc0 : l0.length ≤ c0) :
    Calls Try.prog 9 #[.slice A0 l0.length c0, .string a1] w fun e w' => e = .returned (.bool true) ∧ Below w.heap.size w w' := by
  obtain ⟨k, h⟩ := P l0 a1 g0 g1
  refine (roadbooklaw19_SubTells.calls k A0 c0 l0 a1 true w hr0 hc0 h).mono ?_
  rintro e w' ⟨rfl, hd⟩
  exact ⟨rfl, hd⟩

end Go.Proofs.Ytjgnpggpgkkknaa.Pr
