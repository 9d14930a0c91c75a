-- Written by wip/tools/xprint.py of this repo over the kit's printer, out of the translation. Lean checks it.
import Derived.Test.YtjgnpggpgkkknaaPr0
import Derived.Test.YtjgnpggpgkkknaaPr13
import Derived.Test.YtjgnpggpgkkknaaPr14
import Derived.Test.YtjgnpggpgkkknaaPr17
namespace Go.Proofs.Ytjgnpggpgkkknaa.Pr
open Go.RowKit Go.Proofs.YtjgnpggpgkkknaaW.PrintWords Go.Proofs.YtjgnpggpgkkknaaW.PrintLast
set_option linter.unusedVariables false
set_option linter.unusedSimpArgs false

/-! ### roadbooklaw19_SubPads: function 11 -/
mutual
def roadbooklaw19_SubPads.j0 : Nat → List (S78) → List Int → Bool → Option (Bool)
  | 0, _, _, _ => none
  | k + 1, x0, x1, x25 => if x25 = true then ((roadbooklaw19_awake.f k).bind fun t535 => (some t535)) else (roadbooklaw19_SubPads.l0 k x0 x1 (⟨#[]⟩ : ByteArray) 0)
def roadbooklaw19_SubPads.l0 : Nat → List (S78) → List Int → ByteArray → Int → Option (Bool)
  | 0, _, _, _, _ => none
  | k + 1, x0, x1, x5, x6 => if x6 ≤ (x0.length : Int) then (if x6 < (x1.length : Int) then (if 0 ≤ x6 then ((some (([(⟨#[]⟩ : ByteArray), (⟨#[0]⟩ : ByteArray), (⟨#[1, 0]⟩ : ByteArray), (⟨#[1, 2, 0, 0]⟩ : ByteArray), (⟨#[0, 0]⟩ : ByteArray)] : List ByteArray) : List ByteArray)).bind fun y544 => (if 0 ≤ (wrap64 (Int.tmod (rd x1 x6) 5)) then (if (wrap64 (Int.tmod (rd x1 x6) 5)) < (y544.length : Int) then (if x5.size + (rdOf ByteArray.empty y544 (wrap64 (Int.tmod (rd x1 x6) 5))).size ≤ 9223372036854775807 then (roadbooklaw19_SubPads.j2 k x0 x1 (x5 ++ (rdOf ByteArray.empty y544 (wrap64 (Int.tmod (rd x1 x6) 5)))) x6) else (none)) else (none)) else (none))) else (none)) else (roadbooklaw19_SubPads.j2 k x0 x1 x5 x6)) else ((sub_Get.f k x5).bind fun bt536 => ((roadbooklaw19_awake.f k).bind fun t541 => (if t541 = true then (if bt536.2.2 = 0 then (if bt536.2.1 = true then ((roadbooklaw19_same.f k x0 bt536.1).bind fun t542 => (some t542)) else (some false)) else (some false)) else (some false))))
def roadbooklaw19_SubPads.j2 : Nat → List (S78) → List Int → ByteArray → Int → Option (Bool)
  | 0, _, _, _, _ => none
  | k + 1, x0, x1, x5, x6 => if x6 < (x0.length : Int) then (if 0 ≤ x6 then (if x6 ≤ (wrap64 (x6 + 1)) then (if (wrap64 (x6 + 1)) ≤ (x0.length : Int) then ((sub_Put.f k ((x0.take ((wrap64 (x6 + 1)) : Int).toNat).drop (x6 : Int).toNat)).bind fun bt552 => (if bt552.2 = true then (if x5.size + bt552.1.size ≤ 9223372036854775807 then (roadbooklaw19_SubPads.l0 k x0 x1 (x5 ++ bt552.1) (wrap64 (x6 + 1))) else (none)) else (some false))) else (none)) else (none)) else (none)) else (roadbooklaw19_SubPads.l0 k x0 x1 x5 (wrap64 (x6 + 1)))
end
def roadbooklaw19_SubPads.f (k : Nat) (l0 : List (S78)) (l1 : List Int) : Option (Bool) := (roadbooklaw19_few.f k l0).bind fun t533 => (if t533 = true then ((sub_Right.f k l0).bind fun t534 => (if t534 = true then (roadbooklaw19_SubPads.j0 k l0 l1 (decide ((l1.length : Int) > 60))) else (roadbooklaw19_SubPads.j0 k l0 l1 true))) else (roadbooklaw19_SubPads.j0 k l0 l1 true))
theorem roadbooklaw19_SubPads.mono_l : ∀ k, (∀ y0 y1 y2, LeO (roadbooklaw19_SubPads.j0 k y0 y1 y2) (roadbooklaw19_SubPads.j0 (k + 1) y0 y1 y2)) ∧ (∀ y0 y1 y2 y3, LeO (roadbooklaw19_SubPads.l0 k y0 y1 y2 y3) (roadbooklaw19_SubPads.l0 (k + 1) y0 y1 y2 y3)) ∧ (∀ y0 y1 y2 y3, LeO (roadbooklaw19_SubPads.j2 k y0 y1 y2 y3) (roadbooklaw19_SubPads.j2 (k + 1) y0 y1 y2 y3))
  | 0 => ⟨fun _ _ _ r h => by simp [roadbooklaw19_SubPads.j0] at h, fun _ _ _ _ r h => by simp [roadbooklaw19_SubPads.l0] at h, fun _ _ _ _ r h => by simp [roadbooklaw19_SubPads.j2] at h⟩
  | k + 1 => by
    obtain ⟨ih0, ih1, ih2⟩ := roadbooklaw19_SubPads.mono_l k
    refine ⟨?_, ?_, ?_⟩
    · intro y0 y1 y2
      unfold roadbooklaw19_SubPads.j0
      repeat' first
      | (with_reducible exact ih0 _ _ _)
      | (with_reducible exact ih1 _ _ _ _)
      | (with_reducible exact ih2 _ _ _ _)
      | (with_reducible exact roadbooklaw19_awake.mono _)
      | (with_reducible exact roadbooklaw19_few.mono _ _)
      | (with_reducible exact roadbooklaw19_same.mono _ _ _)
      | (with_reducible exact sub_Get.mono _ _)
      | (with_reducible exact sub_Put.mono _ _)
      | (with_reducible exact sub_Right.mono _ _)
      | (with_reducible exact LeO.refl _)
      | (with_reducible exact LeO.none _)
      | (with_reducible refine LeO.ite ?_ ?_)
      | (with_reducible refine LeO.bind ?_ (fun _ => ?_))
      | exact ih0 _ _ _
      | exact ih1 _ _ _ _
      | exact ih2 _ _ _ _
      | exact roadbooklaw19_awake.mono _
      | exact roadbooklaw19_few.mono _ _
      | exact roadbooklaw19_same.mono _ _ _
      | exact sub_Get.mono _ _
      | exact sub_Put.mono _ _
      | exact sub_Right.mono _ _
      | exact LeO.none _
      | refine LeO.ite ?_ ?_
      | refine LeO.bind ?_ (fun _ => ?_)
    · intro y0 y1 y2 y3
      unfold roadbooklaw19_SubPads.l0
      repeat' first
      | (with_reducible exact ih0 _ _ _)
      | (with_reducible exact ih1 _ _ _ _)
      | (with_reducible exact ih2 _ _ _ _)
      | (with_reducible exact roadbooklaw19_awake.mono _)
      | (with_reducible exact roadbooklaw19_few.mono _ _)
      | (with_reducible exact roadbooklaw19_same.mono _ _ _)
      | (with_reducible exact sub_Get.mono _ _)
      | (with_reducible exact sub_Put.mono _ _)
      | (with_reducible exact sub_Right.mono _ _)
      | (with_reducible exact LeO.refl _)
      | (with_reducible exact LeO.none _)
      | (with_reducible refine LeO.ite ?_ ?_)
      | (with_reducible refine LeO.bind ?_ (fun _ => ?_))
      | exact ih0 _ _ _
      | exact ih1 _ _ _ _
      | exact ih2 _ _ _ _
      | exact roadbooklaw19_awake.mono _
      | exact roadbooklaw19_few.mono _ _
      | exact roadbooklaw19_same.mono _ _ _
      | exact sub_Get.mono _ _
      | exact sub_Put.mono _ _
      | exact sub_Right.mono _ _
      | exact LeO.none _
      | refine LeO.ite ?_ ?_
      | refine LeO.bind ?_ (fun _ => ?_)
    · intro y0 y1 y2 y3
      unfold roadbooklaw19_SubPads.j2
      repeat' first
      | (with_reducible exact ih0 _ _ _)
      | (with_reducible exact ih1 _ _ _ _)
      | (with_reducible exact ih2 _ _ _ _)
      | (with_reducible exact roadbooklaw19_awake.mono _)
      | (with_reducible exact roadbooklaw19_few.mono _ _)
      | (with_reducible exact roadbooklaw19_same.mono _ _ _)
      | (with_reducible exact sub_Get.mono _ _)
      | (with_reducible exact sub_Put.mono _ _)
      | (with_reducible exact sub_Right.mono _ _)
      | (with_reducible exact LeO.refl _)
      | (with_reducible exact LeO.none _)
      | (with_reducible refine LeO.ite ?_ ?_)
      | (with_reducible refine LeO.bind ?_ (fun _ => ?_))
      | exact ih0 _ _ _
      | exact ih1 _ _ _ _
      | exact ih2 _ _ _ _
      | exact roadbooklaw19_awake.mono _
      | exact roadbooklaw19_few.mono _ _
      | exact roadbooklaw19_same.mono _ _ _
      | exact sub_Get.mono _ _
      | exact sub_Put.mono _ _
      | exact sub_Right.mono _ _
      | exact LeO.none _
      | refine LeO.ite ?_ ?_
      | refine LeO.bind ?_ (fun _ => ?_)
theorem roadbooklaw19_SubPads.mono : ∀ a0 a1 k, LeO (roadbooklaw19_SubPads.f k a0 a1) (roadbooklaw19_SubPads.f (k + 1) a0 a1) := by
  intro a0 a1 k
  obtain ⟨ih0, ih1, ih2⟩ := roadbooklaw19_SubPads.mono_l k
  unfold roadbooklaw19_SubPads.f
  repeat' first
      | (with_reducible exact ih0 _ _ _)
      | (with_reducible exact ih1 _ _ _ _)
      | (with_reducible exact ih2 _ _ _ _)
      | (with_reducible exact roadbooklaw19_awake.mono _)
      | (with_reducible exact roadbooklaw19_few.mono _ _)
      | (with_reducible exact roadbooklaw19_same.mono _ _ _)
      | (with_reducible exact sub_Get.mono _ _)
      | (with_reducible exact sub_Put.mono _ _)
      | (with_reducible exact sub_Right.mono _ _)
      | (with_reducible exact LeO.refl _)
      | (with_reducible exact LeO.none _)
      | (with_reducible refine LeO.ite ?_ ?_)
      | (with_reducible refine LeO.bind ?_ (fun _ => ?_))
      | exact ih0 _ _ _
      | exact ih1 _ _ _ _
      | exact ih2 _ _ _ _
      | exact roadbooklaw19_awake.mono _
      | exact roadbooklaw19_few.mono _ _
      | exact roadbooklaw19_same.mono _ _ _
      | exact sub_Get.mono _ _
      | exact sub_Put.mono _ _
      | exact sub_Right.mono _ _
      | exact LeO.none _
      | refine LeO.ite ?_ ?_
      | refine LeO.bind ?_ (fun _ => ?_)
set_option maxHeartbeats 8000000 in
set_option maxRecDepth 100000 in
theorem roadbooklaw19_SubPads.calls (k : Nat) (A0 : Option Addr) (c0 : Nat) (l0 : List (S78)) (A1 : Option Addr) (c1 : Nat) (l1 : List Int) (r : Bool) (w : World) (hr0 : Kd.C k78 w A0 l0.length l0) (hc0 : l0.length ≤ c0) (hr1 : Kd.C (Kd.int .u8) w A1 l1.length l1) (hc1 : l1.length ≤ c1) (h : roadbooklaw19_SubPads.f k l0 l1 = some r) :
    Calls Try.prog 11 #[.slice A0 l0.length c0, .slice A1 l1.length c1] w fun e w' => e = .returned (.bool r) ∧ Below w.heap.size w w' := by
  have HR0 := Aside0.mk hr0
  have HC0 := Aside0.mk hc0
  clear hr0 hc0
  have HR1 := Aside0.mk hr1
  have HC1 := Aside0.mk hc1
  clear hr1 hc1
  have HB := Aside0.mk (Below.refl w.heap.size w)
  have H : ((roadbooklaw19_few.f k l0).bind fun t533 => (if t533 = true then ((sub_Right.f k l0).bind fun t534 => (if t534 = true then (roadbooklaw19_SubPads.j0 k l0 l1 (decide ((l1.length : Int) > 60))) else (roadbooklaw19_SubPads.j0 k l0 l1 true))) else (roadbooklaw19_SubPads.j0 k l0 l1 true))) = some r := h
  clear h
  have HC3 := Aside0.mk H
  clear H
  go_enter Try.func11, Try.ntmps11
  go_upto_region 1 with (fail)
  go_cut [25] (fun v25 wc => ∃ (kq : Nat) (x25_2 : Bool), v25 = .bool x25_2 ∧ Aside0 (roadbooklaw19_SubPads.j0 kq l0 l1 x25_2 = some r) ∧ Aside0 (kq ≤ k) ∧ Aside0 (Below w.heap.size w wc))
  case first =>
    have H := HC3.out
    clear HC3
    replace H := Option.bind_eq_some_iff.mp H
    obtain ⟨t533, A40, H⟩ := H
    replace H : (if t533 = true then ((sub_Right.f k l0).bind fun t534 => (if t534 = true then (roadbooklaw19_SubPads.j0 k l0 l1 (decide ((l1.length : Int) > 60))) else (roadbooklaw19_SubPads.j0 k l0 l1 true))) else (roadbooklaw19_SubPads.j0 k l0 l1 true)) = some r := H
    have A4 := Aside0.mk A40
    clear A40
    by_cases c5 : t533 = true
    · subst c5
      have H1 : ((sub_Right.f k l0).bind fun t534 => (if t534 = true then (roadbooklaw19_SubPads.j0 k l0 l1 (decide ((l1.length : Int) > 60))) else (roadbooklaw19_SubPads.j0 k l0 l1 true))) = some r := by rw [if_pos rfl] at H; exact H
      clear H
      have H := H1
      clear H1
      replace H := Option.bind_eq_some_iff.mp H
      obtain ⟨t534, A60, H⟩ := H
      replace H : (if t534 = true then (roadbooklaw19_SubPads.j0 k l0 l1 (decide ((l1.length : Int) > 60))) else (roadbooklaw19_SubPads.j0 k l0 l1 true)) = some r := H
      have A6 := Aside0.mk A60
      clear A60
      by_cases c7 : t534 = true
      · subst c7
        have H1 : (roadbooklaw19_SubPads.j0 k l0 l1 (decide ((l1.length : Int) > 60))) = some r := by rw [if_pos rfl] at H; exact H
        clear H
        have H := H1
        clear H1
        have H' := Aside0.mk H
        clear H
        go_wp2_with (first | ((with_reducible refine gate_callee (f := 29) rfl ?_); refine goesL_ (some 14) rfl rfl Try.func29 (by kernel_rfl) rfl #[.slice A0 l0.length c0] rfl gAr ?_; (with_reducible refine (roadbooklaw19_few.calls k _ _ l0 true _ ?side1 ?side2 A4.out).mono ?_); (case side1 => repeat (first | exact (Kd.C_below HR0.out HB.out) | (with_reducible refine Kd.C_alloc ?_ _) | (with_reducible refine Kd.C_drewN ?_ _) | (with_reducible refine Kd.C_drew ?_))); (case side2 => exact HC0.out); rintro e w8 ⟨rfl, hb⟩; refine ⟨_, rfl, ?_⟩; have n0_ := Aside0.mk (below_step (bel) hb); clear HB; have HB := n0_; clear n0_; (try clear hb)) | (go_at_call 35; (with_reducible refine (sub_Right.calls k _ _ l0 true _ ?side1 ?side2 A6.out).mono ?_); (case side1 => repeat (first | exact (Kd.C_below HR0.out HB.out) | (with_reducible refine Kd.C_alloc ?_ _) | (with_reducible refine Kd.C_drewN ?_ _) | (with_reducible refine Kd.C_drew ?_))); (case side2 => exact HC0.out); rintro e w9 ⟨rfl, hb⟩; have n0_ := Aside0.mk (below_step (bel) hb); clear HB; have HB := n0_; clear n0_; (try clear hb)))
        go_meet
        case rel => exact ⟨_, (decide ((l1.length : Int) > 60)), rfS, H', ⟨by first | omega | exact Nat.le_refl _⟩, ⟨bel⟩⟩
      · replace c7 := Bool.eq_false_iff.mpr c7
        subst c7
        have H1 : (roadbooklaw19_SubPads.j0 k l0 l1 true) = some r := by rw [if_neg (show ¬ (false = true) by decide)] at H; exact H
        clear H
        have H := H1
        clear H1
        have H' := Aside0.mk H
        clear H
        go_wp2_with (first | ((with_reducible refine gate_callee (f := 29) rfl ?_); refine goesL_ (some 14) rfl rfl Try.func29 (by kernel_rfl) rfl #[.slice A0 l0.length c0] rfl gAr ?_; (with_reducible refine (roadbooklaw19_few.calls k _ _ l0 true _ ?side1 ?side2 A4.out).mono ?_); (case side1 => repeat (first | exact (Kd.C_below HR0.out HB.out) | (with_reducible refine Kd.C_alloc ?_ _) | (with_reducible refine Kd.C_drewN ?_ _) | (with_reducible refine Kd.C_drew ?_))); (case side2 => exact HC0.out); rintro e w10 ⟨rfl, hb⟩; refine ⟨_, rfl, ?_⟩; have n0_ := Aside0.mk (below_step (bel) hb); clear HB; have HB := n0_; clear n0_; (try clear hb)) | (go_at_call 35; (with_reducible refine (sub_Right.calls k _ _ l0 false _ ?side1 ?side2 A6.out).mono ?_); (case side1 => repeat (first | exact (Kd.C_below HR0.out HB.out) | (with_reducible refine Kd.C_alloc ?_ _) | (with_reducible refine Kd.C_drewN ?_ _) | (with_reducible refine Kd.C_drew ?_))); (case side2 => exact HC0.out); rintro e w11 ⟨rfl, hb⟩; have n0_ := Aside0.mk (below_step (bel) hb); clear HB; have HB := n0_; clear n0_; (try clear hb)))
        go_meet
        case rel => exact ⟨_, (true), rfS, H', ⟨by first | omega | exact Nat.le_refl _⟩, ⟨bel⟩⟩
    · replace c5 := Bool.eq_false_iff.mpr c5
      subst c5
      have H1 : (roadbooklaw19_SubPads.j0 k l0 l1 true) = some r := by rw [if_neg (show ¬ (false = true) by decide)] at H; exact H
      clear H
      have H := H1
      clear H1
      have H' := Aside0.mk H
      clear H
      go_wp2_with (first | ((with_reducible refine gate_callee (f := 29) rfl ?_); refine goesL_ (some 14) rfl rfl Try.func29 (by kernel_rfl) rfl #[.slice A0 l0.length c0] rfl gAr ?_; (with_reducible refine (roadbooklaw19_few.calls k _ _ l0 false _ ?side1 ?side2 A4.out).mono ?_); (case side1 => repeat (first | exact (Kd.C_below HR0.out HB.out) | (with_reducible refine Kd.C_alloc ?_ _) | (with_reducible refine Kd.C_drewN ?_ _) | (with_reducible refine Kd.C_drew ?_))); (case side2 => exact HC0.out); rintro e w12 ⟨rfl, hb⟩; refine ⟨_, rfl, ?_⟩; have n0_ := Aside0.mk (below_step (bel) hb); clear HB; have HB := n0_; clear n0_; (try clear hb)))
      go_meet
      case rel => exact ⟨_, (true), rfS, H', ⟨by first | omega | exact Nat.le_refl _⟩, ⟨bel⟩⟩
  case rest =>
    clear HC3
    try clear c1
    try clear c5
    try clear c7
    obtain ⟨kq, x25_2, rfl, HA, HJ2, HB⟩ := hcut
    cases kq with
    | zero => exact absurd HA.out (by simp [roadbooklaw19_SubPads.j0])
    | succ kj2 =>
      have H := HA.out
      clear HA
      simp only [roadbooklaw19_SubPads.j0] at H
      by_cases c13 : x25_2 = true
      · subst c13
        have H1 : ((roadbooklaw19_awake.f kj2).bind fun t535 => (some t535)) = some r := by rw [if_pos rfl] at H; exact H
        clear H
        have H := H1
        clear H1
        replace H := Option.bind_eq_some_iff.mp H
        obtain ⟨t535, A140, H⟩ := H
        replace H : (some t535) = some r := H
        have A14 := Aside0.mk A140
        clear A140
        obtain rfl := Option.some.inj H
        go_wp2_with (first | ((with_reducible refine gate_callee (f := 30) rfl ?_); refine goesL_ (some 26) rfl rfl Try.func30 (by kernel_rfl) rfl #[] rfl gAr ?_; (with_reducible refine (roadbooklaw19_awake.calls kj2  t535 _ A14.out).mono ?_); rintro e w15 ⟨rfl, hb⟩; refine ⟨_, rfl, ?_⟩; have n0_ := Aside0.mk (below_step (bel) hb); clear HB; have HB := n0_; clear n0_; (try clear hb)))
        go_ret
        exact ⟨rtE, bel⟩
      · replace c13 := Bool.eq_false_iff.mpr c13
        subst c13
        have H1 : (roadbooklaw19_SubPads.l0 kj2 l0 l1 (⟨#[]⟩ : ByteArray) 0) = some r := by rw [if_neg (show ¬ (false = true) by decide)] at H; exact H
        clear H
        have H := H1
        clear H1
        have H' := Aside0.mk H
        clear H
        go_wp2
        go_loopg [5, 6] kj2 (fun kq v5 v6 w' => ∃ (x5_2 : ByteArray) (x6_2 : Int), v5 = .string x5_2 ∧ v6 = .int .i64 x6_2 ∧ Aside0 (roadbooklaw19_SubPads.l0 kq l0 l1 x5_2 x6_2 = some r) ∧ Aside0 (kq ≤ kj2) ∧ Aside0 (Below w.heap.size w w'))
        case atStart => exact ⟨((⟨#[]⟩ : ByteArray)), (0), rfS, rfS, H', ⟨Nat.le_refl _⟩, ⟨bel⟩⟩
        case round =>
          clear H'
          try clear c1
          try clear c5
          try clear c7
          try clear c13
          obtain ⟨x5_2, x6_2, rfl, rfl, HA, HK2, HB⟩ := hrel
          cases gk with
          | zero => exact absurd HA.out (by simp [roadbooklaw19_SubPads.l0])
          | succ k2 =>
            have H := HA.out
            clear HA
            simp only [roadbooklaw19_SubPads.l0] at H
            by_cases c16 : x6_2 ≤ (l0.length : Int)
            · rw [if_pos c16] at H
              have c16b0 : decide (x6_2 ≤ (l0.length : Int)) = true := decide_eq_true c16
              clear c16
              have HC17 := Aside0.mk H
              clear H
              go_upto_if 36 with (fail)
              go_cut [5] (fun v5 wc => ∃ (kq : Nat) (x5_16 : ByteArray), v5 = .string x5_16 ∧ Aside0 (roadbooklaw19_SubPads.j2 kq l0 l1 x5_16 x6_2 = some r) ∧ Aside0 (kq ≤ k2) ∧ Aside0 (Below w.heap.size w wc))
              case first =>
                have H := HC17.out
                clear HC17
                by_cases c18 : x6_2 < (l1.length : Int)
                · rw [if_pos c18] at H
                  have c18b0 : decide (x6_2 < (l1.length : Int)) = true := decide_eq_true c18
                  clear c18
                  (first | rw [c18b0] | (simp only [i64_w, i32_w]; rw [c18b0]) | skip)
                  by_cases c19 : 0 ≤ x6_2
                  · rw [if_pos c19] at H
                    have c19b0 : decide (0 ≤ x6_2) = true := decide_eq_true c19
                    clear c19
                    obtain ⟨y544, hy544⟩ : ∃ y_ : List ByteArray, y_ = (([(⟨#[]⟩ : ByteArray), (⟨#[0]⟩ : ByteArray), (⟨#[1, 0]⟩ : ByteArray), (⟨#[1, 2, 0, 0]⟩ : ByteArray), (⟨#[0, 0]⟩ : ByteArray)] : List ByteArray)) := ⟨_, rfl⟩
                    replace H : (if 0 ≤ (wrap64 (Int.tmod (rd l1 x6_2) 5)) then (if (wrap64 (Int.tmod (rd l1 x6_2) 5)) < (y544.length : Int) then (if x5_2.size + (rdOf ByteArray.empty y544 (wrap64 (Int.tmod (rd l1 x6_2) 5))).size ≤ 9223372036854775807 then (roadbooklaw19_SubPads.j2 k2 l0 l1 (x5_2 ++ (rdOf ByteArray.empty y544 (wrap64 (Int.tmod (rd l1 x6_2) 5)))) x6_2) else (none)) else (none)) else (none)) = some r := by first | (rw [hy544]; with_reducible exact H) | (have H2_ := (Option.bind_some _ _).symm.trans H; rw [hy544]; with_reducible exact H2_) | (have H2_ := (Option.bind_some _ _).symm.trans H; with_reducible exact H2_) | with_reducible exact H | (rw [hy544]; exact H) | exact H
                    have Ny544 := Aside0.mk hy544
                    clear hy544
                    obtain ⟨ji20, hji20⟩ : ∃ j_ : Int, (wrap64 (Int.tmod (rd l1 x6_2) 5)) = j_ := ⟨_, rfl⟩
                    replace H : (if 0 ≤ (ji20) then (if (ji20) < (y544.length : Int) then (if x5_2.size + (rdOf ByteArray.empty y544 (ji20)).size ≤ 9223372036854775807 then (roadbooklaw19_SubPads.j2 k2 l0 l1 (x5_2 ++ (rdOf ByteArray.empty y544 (ji20))) x6_2) else (none)) else (none)) else (none)) = some r := by first | (rw [hji20] at H; exact H) | (simp only [hji20] at H ⊢; exact H)
                    have hji20w : (IntKind.i64.wrap (Int.tmod (rd l1 x6_2) 5)) = ji20 := (i64_w _).trans hji20
                    by_cases c21 : 0 ≤ (ji20)
                    · rw [if_pos c21] at H
                      have c21b0 : decide (0 ≤ (ji20)) = true := decide_eq_true c21
                      clear c21
                      by_cases c22 : (ji20) < (y544.length : Int)
                      · rw [if_pos c22] at H
                        have c22b0 : decide ((ji20) < (y544.length : Int)) = true := decide_eq_true c22
                        clear c22
                        by_cases c23 : x5_2.size + (rdOf ByteArray.empty y544 (ji20)).size ≤ 9223372036854775807
                        · rw [if_pos c23] at H
                          have c23b0 := eq_true c23
                          have c23b1 : decide (x5_2.size + (rdOf ByteArray.empty y544 (ji20)).size ≤ 9223372036854775807) = true := decide_eq_true c23
                          try have c23b2 : (9223372036854775807 < x5_2.size + (rdOf ByteArray.empty y544 (ji20)).size) = False := eq_false (Nat.not_lt.2 c23)
                          have H' := Aside0.mk H
                          clear H
                          have p543 : 0 ≤ (x6_2 : Int) := odt
                          have q543 : x6_2 < (l1.length : Int) := odt
                          obtain ⟨ad543, e543, hx543_0⟩ := Kd.at_int HR1.out x6_2 p543 q543
                          cases e543
                          replace hx543_0 := (HB.out.cell (World.block_lt_of_cell? w _ hx543_0)).trans hx543_0
                          replace p543 := eq_true p543
                          replace q543 := eq_true q543
                          go_wp2_with (first | ((with_reducible refine gate_dst (N := 44) rfl ?_); refine Kd.R_lit Kd.string _ 9 ?hg (N := 44) ?hd (xs := ([(⟨#[]⟩ : ByteArray), (⟨#[0]⟩ : ByteArray), (⟨#[1, 0]⟩ : ByteArray), (⟨#[1, 2, 0, 0]⟩ : ByteArray), (⟨#[0, 0]⟩ : ByteArray)] : List ByteArray)) (inner := [.string (⟨#[]⟩ : ByteArray), .string (⟨#[0]⟩ : ByteArray), .string (⟨#[1, 0]⟩ : ByteArray), .string (⟨#[1, 2, 0, 0]⟩ : ByteArray), .string (⟨#[0, 0]⟩ : ByteArray)]) (ok := fun _ => True) (okp := fun _ => True) ?hr ?hp (fun _ hk => hk) trivial (Below.refl _ _) (Nat.le_refl _) (by simp) ?_; (case hd => rfl); (case hg => rfl); (case hr => first | (go_simp; done) | (go_simp; rfl)); (case hp => exact (Reps.one (show Kd.M Kd.string _ _ _ (⟨#[]⟩ : ByteArray) [.string (⟨#[]⟩ : ByteArray)] from rfl) (Reps.one (show Kd.M Kd.string _ _ _ (⟨#[0]⟩ : ByteArray) [.string (⟨#[0]⟩ : ByteArray)] from rfl) (Reps.one (show Kd.M Kd.string _ _ _ (⟨#[1, 0]⟩ : ByteArray) [.string (⟨#[1, 0]⟩ : ByteArray)] from rfl) (Reps.one (show Kd.M Kd.string _ _ _ (⟨#[1, 2, 0, 0]⟩ : ByteArray) [.string (⟨#[1, 2, 0, 0]⟩ : ByteArray)] from rfl) (Reps.one (show Kd.M Kd.string _ _ _ (⟨#[0, 0]⟩ : ByteArray) [.string (⟨#[0, 0]⟩ : ByteArray)] from rfl) (Reps.none _ _))))))); intro v545 w24 ho25 hb hg_ hnew_; clear hg_ hnew_; (first | rw [← Ny544.out] at ho25 | (simp only [Int.reduceToNat] at ho25; rw [← Ny544.out] at ho25)); have n0_ := Aside0.mk (Kd.R_lower ho25 bsz); have n1_ := Aside0.mk (below_step (bel) hb); clear HB; have HO546 := n0_; have HB := n1_; clear n0_ n1_; clear hb ho25; obtain ⟨Ao26, co26, eo26⟩ := Kd.R_slice HO546.out; subst eo26; have p547 : 0 ≤ ((ji20) : Int) := odt; have q547 : (ji20) < (y544.length : Int) := odt; obtain ⟨ad547, e547, hx547_0⟩ := Kd.at_string (Kd.R_reads' HO546.out).2.2 (ji20) p547 q547; cases e547; replace p547 := eq_true p547; replace q547 := eq_true q547))
                          go_meet
                          case rel => exact ⟨_, (x5_2 ++ (rdOf ByteArray.empty y544 (ji20))), (by first | rfl | (simp; done) | (simp only [← hji20] <;> (first | rfl | simp)) | (simp [*]; done)), H', ⟨by have := HJ2.out; have := HK2.out; first | omega | exact Nat.le_refl _⟩, ⟨bel⟩⟩
                        · rw [if_neg c23] at H
                          exact absurd H (by simp)
                      · rw [if_neg c22] at H
                        exact absurd H (by simp)
                    · rw [if_neg c21] at H
                      exact absurd H (by simp)
                  · rw [if_neg c19] at H
                    exact absurd H (by simp)
                · rw [if_neg c18] at H
                  have c18b0 : decide (x6_2 < (l1.length : Int)) = false := decide_eq_false c18
                  clear c18
                  (first | rw [c18b0] | (simp only [i64_w, i32_w]; rw [c18b0]) | skip)
                  have H' := Aside0.mk H
                  clear H
                  go_wp2
                  go_meet
                  case rel => exact ⟨_, (x5_2), rfS, H', ⟨by have := HJ2.out; have := HK2.out; first | omega | exact Nat.le_refl _⟩, ⟨bel⟩⟩
              case rest =>
                clear HC17
                try clear c1
                try clear c5
                try clear c7
                try clear c13
                try clear c16
                try clear c16b0
                try clear c18
                try clear c18b0
                try clear c19
                try clear c19b0
                try clear c21
                try clear c21b0
                try clear c22
                try clear c22b0
                try clear c23
                try clear c23b0
                try clear c23b1
                try clear c23b2
                try clear hx543_0
                try clear hx547_0
                try clear p543
                try clear p547
                try clear q543
                try clear q547
                obtain ⟨kq, x5_16, rfl, HA, HJ16, HB⟩ := hcut
                cases kq with
                | zero => exact absurd HA.out (by simp [roadbooklaw19_SubPads.j2])
                | succ kj16 =>
                  have H := HA.out
                  clear HA
                  simp only [roadbooklaw19_SubPads.j2] at H
                  by_cases c27 : x6_2 < (l0.length : Int)
                  · rw [if_pos c27] at H
                    have c27b0 : decide (x6_2 < (l0.length : Int)) = true := decide_eq_true c27
                    clear c27
                    by_cases c28 : 0 ≤ x6_2
                    · rw [if_pos c28] at H
                      have c28b0 := eq_true c28
                      have c28b1 : decide (0 ≤ x6_2) = true := decide_eq_true c28
                      clear c28
                      by_cases c29 : x6_2 ≤ (wrap64 (x6_2 + 1))
                      · rw [if_pos c29] at H
                        have c29b0 := eq_true c29
                        have c29b1 : decide (x6_2 ≤ (wrap64 (x6_2 + 1))) = true := decide_eq_true c29
                        by_cases c30 : (wrap64 (x6_2 + 1)) ≤ (l0.length : Int)
                        · rw [if_pos c30] at H
                          have c30b0 := eq_true c30
                          have c30b1 : decide ((wrap64 (x6_2 + 1)) ≤ (l0.length : Int)) = true := decide_eq_true c30
                          obtain ⟨y548, hy548⟩ : ∃ y_ : List (S78), y_ = ((l0.take ((wrap64 (x6_2 + 1)) : Int).toNat).drop (x6_2 : Int).toNat) := ⟨_, rfl⟩
                          replace H : ((sub_Put.f kj16 y548).bind fun bt552 => (if bt552.2 = true then (if x5_16.size + bt552.1.size ≤ 9223372036854775807 then (roadbooklaw19_SubPads.l0 kj16 l0 l1 (x5_16 ++ bt552.1) (wrap64 (x6_2 + 1))) else (none)) else (some false))) = some r := by first | (rw [hy548]; with_reducible exact H) | (have H2_ := (Option.bind_some _ _).symm.trans H; rw [hy548]; with_reducible exact H2_) | (have H2_ := (Option.bind_some _ _).symm.trans H; with_reducible exact H2_) | with_reducible exact H | (rw [hy548]; exact H) | exact H
                          have Ny548 := Aside0.mk hy548
                          clear hy548
                          replace H := Option.bind_eq_some_iff.mp H
                          obtain ⟨⟨t552, t553⟩, A310, H⟩ := H
                          replace H : (if t553 = true then (if x5_16.size + t552.size ≤ 9223372036854775807 then (roadbooklaw19_SubPads.l0 kj16 l0 l1 (x5_16 ++ t552) (wrap64 (x6_2 + 1))) else (none)) else (some false)) = some r := H
                          have A31 := Aside0.mk A310
                          clear A310
                          by_cases c32 : t553 = true
                          · subst c32
                            have H1 : (if x5_16.size + t552.size ≤ 9223372036854775807 then (roadbooklaw19_SubPads.l0 kj16 l0 l1 (x5_16 ++ t552) (wrap64 (x6_2 + 1))) else (none)) = some r := by rw [if_pos rfl] at H; exact H
                            clear H
                            have H := H1
                            clear H1
                            by_cases c33 : x5_16.size + t552.size ≤ 9223372036854775807
                            · rw [if_pos c33] at H
                              have c33b0 := eq_true c33
                              have c33b1 : decide (x5_16.size + t552.size ≤ 9223372036854775807) = true := decide_eq_true c33
                              try have c33b2 : (9223372036854775807 < x5_16.size + t552.size) = False := eq_false (Nat.not_lt.2 c33)
                              have H' := Aside0.mk H
                              clear H
                              have q34 : ((wrap64 (x6_2 + 1)) : Int) ≤ ((l0.length : Int) : Int) := odt
                              obtain ⟨i034, hi034, _, hsz34, _⟩ := info_parts info78
                              have hroom34 : l0.length ≤ c0 := HC0.out
                              have hC34 : Kd.C k78 _ A0 l0.length l0 := HR0.out
                              have ql34 : (x6_2 : Int) ≤ ((wrap64 (x6_2 + 1)) : Int) := odt
                              have q034 : (0 : Int) ≤ (x6_2 : Int) := odt
                              have hcut34 := cut_mid (P := Try.prog) 48 78 .i64 .i64 Try.underlying48 hi034 2 hsz34 A0 l0.length c0 x6_2 (wrap64 (x6_2 + 1)) q034 ql34 q34 hroom34
                              have hr34 := Kd.C_mid (lo := (x6_2 : Int).toNat) (hi := ((wrap64 (x6_2 + 1)) : Int).toNat) (c := c0) hC34 (by omega) (by omega) hroom34
                              obtain ⟨A34, hA34⟩ : ∃ A1, A1 = (if c0 = (x6_2 : Int).toNat then A0 else (A0 : Option Addr).map (·.add ((x6_2 : Int).toNat * 2))) := ⟨_, rfl⟩
                              obtain ⟨c34, hc34⟩ : ∃ c1, c1 = c0 - (x6_2 : Int).toNat := ⟨_, rfl⟩
                              have hy34 : y548.length = ((wrap64 (x6_2 + 1)) : Int).toNat - (x6_2 : Int).toNat := (by rw [Ny548.out, List.length_drop, List.length_take] <;> omega)
                              rw [show ((l0).take ((wrap64 (x6_2 + 1)) : Int).toNat).drop (x6_2 : Int).toNat = y548 from Ny548.out.symm] at hr34
                              replace hr34 : Kd.C k78 _ A34 y548.length y548 := (by rw [hA34]; exact hr34)
                              rw [← hy34, ← hA34, ← hc34] at hcut34
                              have HR551 := Aside0.mk hr34
                              have HC551 := Aside0.mk (show y548.length ≤ c34 from by rw [hy34, hc34]; exact Nat.sub_le_sub_right (Nat.le_trans (by omega) hroom34) _)
                              clear hr34 hC34 hroom34 hi034 hsz34 hc34
                              have KY34 := Aside0.mk hy34
                              have KA34 := Aside0.mk hA34
                              clear hy34 hA34
                              replace q34 := eq_true q34
                              go_wp2_with (first | ((with_reducible refine gate_callee (f := 31) rfl ?_); refine goesL_ (some 59) rfl rfl Try.func31 (by kernel_rfl) rfl #[.slice A34 y548.length c34] rfl gAr ?_; (with_reducible refine (sub_Put.calls kj16 _ _ y548 t552 true _ ?side1 ?side2 A31.out).mono ?_); (case side1 => repeat (first | exact (Kd.C_below HR551.out HB.out) | (with_reducible refine Kd.C_alloc ?_ _) | (with_reducible refine Kd.C_drewN ?_ _) | (with_reducible refine Kd.C_drew ?_))); (case side2 => exact HC551.out); rintro e w35 ⟨rfl, hb⟩; refine ⟨_, rfl, ?_⟩; have n0_ := Aside0.mk (below_step (bel) hb); clear HB; have HB := n0_; clear n0_; (try clear hb)))
                              go_roundg kj16
                              case measure => have := HJ2.out; have := HK2.out; have := HJ16.out; omega
                              case rel => exact ⟨(x5_16 ++ t552), (wrap64 (x6_2 + 1)), rfS, rfS, H', ⟨by have := HJ2.out; have := HK2.out; have := HJ16.out; omega⟩, ⟨bel⟩⟩
                            · rw [if_neg c33] at H
                              exact absurd H (by simp)
                          · replace c32 := Bool.eq_false_iff.mpr c32
                            subst c32
                            have H1 : (some false) = some r := by rw [if_neg (show ¬ (false = true) by decide)] at H; exact H
                            clear H
                            have H := H1
                            clear H1
                            obtain rfl := Option.some.inj H
                            have q36 : ((wrap64 (x6_2 + 1)) : Int) ≤ ((l0.length : Int) : Int) := odt
                            obtain ⟨i036, hi036, _, hsz36, _⟩ := info_parts info78
                            have hroom36 : l0.length ≤ c0 := HC0.out
                            have hC36 : Kd.C k78 _ A0 l0.length l0 := HR0.out
                            have ql36 : (x6_2 : Int) ≤ ((wrap64 (x6_2 + 1)) : Int) := odt
                            have q036 : (0 : Int) ≤ (x6_2 : Int) := odt
                            have hcut36 := cut_mid (P := Try.prog) 48 78 .i64 .i64 Try.underlying48 hi036 2 hsz36 A0 l0.length c0 x6_2 (wrap64 (x6_2 + 1)) q036 ql36 q36 hroom36
                            have hr36 := Kd.C_mid (lo := (x6_2 : Int).toNat) (hi := ((wrap64 (x6_2 + 1)) : Int).toNat) (c := c0) hC36 (by omega) (by omega) hroom36
                            obtain ⟨A36, hA36⟩ : ∃ A1, A1 = (if c0 = (x6_2 : Int).toNat then A0 else (A0 : Option Addr).map (·.add ((x6_2 : Int).toNat * 2))) := ⟨_, rfl⟩
                            obtain ⟨c36, hc36⟩ : ∃ c1, c1 = c0 - (x6_2 : Int).toNat := ⟨_, rfl⟩
                            have hy36 : y548.length = ((wrap64 (x6_2 + 1)) : Int).toNat - (x6_2 : Int).toNat := (by rw [Ny548.out, List.length_drop, List.length_take] <;> omega)
                            rw [show ((l0).take ((wrap64 (x6_2 + 1)) : Int).toNat).drop (x6_2 : Int).toNat = y548 from Ny548.out.symm] at hr36
                            replace hr36 : Kd.C k78 _ A36 y548.length y548 := (by rw [hA36]; exact hr36)
                            rw [← hy36, ← hA36, ← hc36] at hcut36
                            have HR551 := Aside0.mk hr36
                            have HC551 := Aside0.mk (show y548.length ≤ c36 from by rw [hy36, hc36]; exact Nat.sub_le_sub_right (Nat.le_trans (by omega) hroom36) _)
                            clear hr36 hC36 hroom36 hi036 hsz36 hc36
                            have KY36 := Aside0.mk hy36
                            have KA36 := Aside0.mk hA36
                            clear hy36 hA36
                            replace q36 := eq_true q36
                            go_wp2_with (first | ((with_reducible refine gate_callee (f := 31) rfl ?_); refine goesL_ (some 59) rfl rfl Try.func31 (by kernel_rfl) rfl #[.slice A36 y548.length c36] rfl gAr ?_; (with_reducible refine (sub_Put.calls kj16 _ _ y548 t552 false _ ?side1 ?side2 A31.out).mono ?_); (case side1 => repeat (first | exact (Kd.C_below HR551.out HB.out) | (with_reducible refine Kd.C_alloc ?_ _) | (with_reducible refine Kd.C_drewN ?_ _) | (with_reducible refine Kd.C_drew ?_))); (case side2 => exact HC551.out); rintro e w37 ⟨rfl, hb⟩; refine ⟨_, rfl, ?_⟩; have n0_ := Aside0.mk (below_step (bel) hb); clear HB; have HB := n0_; clear n0_; (try clear hb)))
                            go_ret
                            exact ⟨rtE, bel⟩
                        · rw [if_neg c30] at H
                          exact absurd H (by simp)
                      · rw [if_neg c29] at H
                        exact absurd H (by simp)
                    · rw [if_neg c28] at H
                      exact absurd H (by simp)
                  · rw [if_neg c27] at H
                    have c27b0 : decide (x6_2 < (l0.length : Int)) = false := decide_eq_false c27
                    clear c27
                    have H' := Aside0.mk H
                    clear H
                    go_wp2
                    go_roundg kj16
                    case measure => have := HJ2.out; have := HK2.out; have := HJ16.out; omega
                    case rel => exact ⟨(x5_16), (wrap64 (x6_2 + 1)), rfS, rfS, H', ⟨by have := HJ2.out; have := HK2.out; have := HJ16.out; omega⟩, ⟨bel⟩⟩
            · rw [if_neg c16] at H
              have c16b0 : decide (x6_2 ≤ (l0.length : Int)) = false := decide_eq_false c16
              clear c16
              replace H := Option.bind_eq_some_iff.mp H
              obtain ⟨⟨t536, t537, t538⟩, A380, H⟩ := H
              replace H : ((roadbooklaw19_awake.f k2).bind fun t541 => (if t541 = true then (if t538 = 0 then (if t537 = true then ((roadbooklaw19_same.f k2 l0 t536).bind fun t542 => (some t542)) else (some false)) else (some false)) else (some false))) = some r := H
              have A38 := Aside0.mk A380
              clear A380
              replace H := Option.bind_eq_some_iff.mp H
              obtain ⟨t541, A390, H⟩ := H
              replace H : (if t541 = true then (if t538 = 0 then (if t537 = true then ((roadbooklaw19_same.f k2 l0 t536).bind fun t542 => (some t542)) else (some false)) else (some false)) else (some false)) = some r := H
              have A39 := Aside0.mk A390
              clear A390
              by_cases c40 : t541 = true
              · subst c40
                have H1 : (if t538 = 0 then (if t537 = true then ((roadbooklaw19_same.f k2 l0 t536).bind fun t542 => (some t542)) else (some false)) else (some false)) = some r := by rw [if_pos rfl] at H; exact H
                clear H
                have H := H1
                clear H1
                by_cases c41 : t538 = 0
                · rw [if_pos c41] at H
                  have c41b0 : (t538 == 0) = true := beq_iff_eq.mpr c41
                  have c41b1 : (t538 != 0) = false := bne_eq_false_iff_eq.mpr c41
                  clear c41
                  by_cases c42 : t537 = true
                  · subst c42
                    have H1 : ((roadbooklaw19_same.f k2 l0 t536).bind fun t542 => (some t542)) = some r := by rw [if_pos rfl] at H; exact H
                    clear H
                    have H := H1
                    clear H1
                    replace H := Option.bind_eq_some_iff.mp H
                    obtain ⟨t542, A430, H⟩ := H
                    replace H : (some t542) = some r := H
                    have A43 := Aside0.mk A430
                    clear A430
                    obtain rfl := Option.some.inj H
                    go_wp2_with (first | ((with_reducible refine gate_callee (f := 33) rfl ?_); refine goesL_ (some 69) rfl rfl Try.func33 (by kernel_rfl) rfl #[.string x5_2] rfl gAr ?_; (with_reducible refine (sub_Get.calls k2 x5_2 t536 true t538 _ A38.out).mono ?_); rintro e w44 ⟨v539, rfl, ho0, hb⟩; refine ⟨_, rfl, ?_⟩; have n0_ := Aside0.mk (Kd.R_lower ho0 bsz); have n1_ := Aside0.mk (below_step (bel) hb); clear HB; have HO540 := n0_; have HB := n1_; clear n0_ n1_; (try clear hb); (try clear ho0)) | ((with_reducible refine gate_callee (f := 30) rfl ?_); refine goesL_ (some 73) rfl rfl Try.func30 (by kernel_rfl) rfl #[] rfl gAr ?_; (with_reducible refine (roadbooklaw19_awake.calls k2  true _ A39.out).mono ?_); rintro e w45 ⟨rfl, hb⟩; refine ⟨_, rfl, ?_⟩; have n0_ := Aside0.mk (Kd.R_below (Kd.R_below HO540.out bll) hb); have n1_ := Aside0.mk (below_step (bel) hb); clear HO540; clear HB; have HO540 := n0_; have HB := n1_; clear n0_ n1_; (try clear hb); obtain ⟨Ao46, co46, eo46⟩ := Kd.R_slice HO540.out; subst eo46) | (go_at_call 37; (with_reducible refine (roadbooklaw19_same.calls k2 _ _ l0 _ _ t536 t542 _ ?side1 ?side2 ?side3 ?side4 A43.out).mono ?_); (case side1 => repeat (first | exact (Kd.C_below HR0.out HB.out) | (with_reducible refine Kd.C_alloc ?_ _) | (with_reducible refine Kd.C_drewN ?_ _) | (with_reducible refine Kd.C_drew ?_))); (case side2 => exact HC0.out); (case side3 => repeat (first | exact (Kd.R_reads' HO540.out).2.2 | (with_reducible refine Kd.C_alloc ?_ _) | (with_reducible refine Kd.C_drewN ?_ _) | (with_reducible refine Kd.C_drew ?_))); (case side4 => exact (Kd.R_reads' HO540.out).2.1); rintro e w47 ⟨rfl, hb⟩; have n0_ := Aside0.mk (Kd.R_below (Kd.R_below HO540.out bll) hb); have n1_ := Aside0.mk (below_step (bel) hb); clear HO540; clear HB; have HO540 := n0_; have HB := n1_; clear n0_ n1_; (try clear hb)))
                    go_ret
                    exact ⟨rtE, bel⟩
                  · replace c42 := Bool.eq_false_iff.mpr c42
                    subst c42
                    have H1 : (some false) = some r := by rw [if_neg (show ¬ (false = true) by decide)] at H; exact H
                    clear H
                    have H := H1
                    clear H1
                    obtain rfl := Option.some.inj H
                    go_wp2_with (first | ((with_reducible refine gate_callee (f := 33) rfl ?_); refine goesL_ (some 69) rfl rfl Try.func33 (by kernel_rfl) rfl #[.string x5_2] rfl gAr ?_; (with_reducible refine (sub_Get.calls k2 x5_2 t536 false t538 _ A38.out).mono ?_); rintro e w48 ⟨v539, rfl, ho0, hb⟩; refine ⟨_, rfl, ?_⟩; have n0_ := Aside0.mk (Kd.R_lower ho0 bsz); have n1_ := Aside0.mk (below_step (bel) hb); clear HB; have HO540 := n0_; have HB := n1_; clear n0_ n1_; (try clear hb); (try clear ho0)) | ((with_reducible refine gate_callee (f := 30) rfl ?_); refine goesL_ (some 73) rfl rfl Try.func30 (by kernel_rfl) rfl #[] rfl gAr ?_; (with_reducible refine (roadbooklaw19_awake.calls k2  true _ A39.out).mono ?_); rintro e w49 ⟨rfl, hb⟩; refine ⟨_, rfl, ?_⟩; have n0_ := Aside0.mk (Kd.R_below (Kd.R_below HO540.out bll) hb); have n1_ := Aside0.mk (below_step (bel) hb); clear HO540; clear HB; have HO540 := n0_; have HB := n1_; clear n0_ n1_; (try clear hb)))
                    go_ret
                    exact ⟨rtE, bel⟩
                · rw [if_neg c41] at H
                  have c41b0 : (t538 == 0) = false := beq_eq_false_iff_ne.mpr c41
                  have c41b1 : (t538 != 0) = true := bne_iff_ne.mpr c41
                  obtain rfl := Option.some.inj H
                  go_wp2_with (first | ((with_reducible refine gate_callee (f := 33) rfl ?_); refine goesL_ (some 69) rfl rfl Try.func33 (by kernel_rfl) rfl #[.string x5_2] rfl gAr ?_; (with_reducible refine (sub_Get.calls k2 x5_2 t536 t537 t538 _ A38.out).mono ?_); rintro e w50 ⟨v539, rfl, ho0, hb⟩; refine ⟨_, rfl, ?_⟩; have n0_ := Aside0.mk (Kd.R_lower ho0 bsz); have n1_ := Aside0.mk (below_step (bel) hb); clear HB; have HO540 := n0_; have HB := n1_; clear n0_ n1_; (try clear hb); (try clear ho0)) | ((with_reducible refine gate_callee (f := 30) rfl ?_); refine goesL_ (some 73) rfl rfl Try.func30 (by kernel_rfl) rfl #[] rfl gAr ?_; (with_reducible refine (roadbooklaw19_awake.calls k2  true _ A39.out).mono ?_); rintro e w51 ⟨rfl, hb⟩; refine ⟨_, rfl, ?_⟩; have n0_ := Aside0.mk (Kd.R_below (Kd.R_below HO540.out bll) hb); have n1_ := Aside0.mk (below_step (bel) hb); clear HO540; clear HB; have HO540 := n0_; have HB := n1_; clear n0_ n1_; (try clear hb)))
                  go_ret
                  exact ⟨rtE, bel⟩
              · replace c40 := Bool.eq_false_iff.mpr c40
                subst c40
                have H1 : (some false) = some r := by rw [if_neg (show ¬ (false = true) by decide)] at H; exact H
                clear H
                have H := H1
                clear H1
                obtain rfl := Option.some.inj H
                go_wp2_with (first | ((with_reducible refine gate_callee (f := 33) rfl ?_); refine goesL_ (some 69) rfl rfl Try.func33 (by kernel_rfl) rfl #[.string x5_2] rfl gAr ?_; (with_reducible refine (sub_Get.calls k2 x5_2 t536 t537 t538 _ A38.out).mono ?_); rintro e w52 ⟨v539, rfl, ho0, hb⟩; refine ⟨_, rfl, ?_⟩; have n0_ := Aside0.mk (Kd.R_lower ho0 bsz); have n1_ := Aside0.mk (below_step (bel) hb); clear HB; have HO540 := n0_; have HB := n1_; clear n0_ n1_; (try clear hb); (try clear ho0)) | ((with_reducible refine gate_callee (f := 30) rfl ?_); refine goesL_ (some 73) rfl rfl Try.func30 (by kernel_rfl) rfl #[] rfl gAr ?_; (with_reducible refine (roadbooklaw19_awake.calls k2  false _ A39.out).mono ?_); rintro e w53 ⟨rfl, hb⟩; refine ⟨_, rfl, ?_⟩; have n0_ := Aside0.mk (Kd.R_below (Kd.R_below HO540.out bll) hb); have n1_ := Aside0.mk (below_step (bel) hb); clear HO540; clear HB; have HO540 := n0_; have HB := n1_; clear n0_ n1_; (try clear hb)))
                go_ret
                exact ⟨rtE, bel⟩

/-- THE ONE PURE STATEMENT of roadbooklaw19_SubPads. -/
def roadbooklaw19_SubPads.Pure : Prop := ∀ (l0 : List (S78)) (l1 : List Int), (l0.length * 24 ≤ 140737488351232 ∧ ∀ y_ ∈ l0, G78 y_) → (l1.length * 1 ≤ 140737488351232 ∧ ∀ y_ ∈ l1, (Lit.int .u8 y_).wf = true) → ∃ k, roadbooklaw19_SubPads.f k l0 l1 = some true
theorem roadbooklaw19_SubPads.walk (P : roadbooklaw19_SubPads.Pure) (l0 : List (S78)) (l1 : List Int) (A0 : Option Addr) (c0 : Nat) (A1 : Option Addr) (c1 : Nat) (w : World) (g0 : (l0.length * 24 ≤ 140737488351232 ∧ ∀ y_ ∈ l0, G78 y_)) (g1 : (l1.length * 1 ≤ 140737488351232 ∧ ∀ y_ ∈ l1, (Lit.int .u8 y_).wf = true)) (hr0 : Kd.C k78 w A0 l0.length l0) (hc0 : l0.length ≤ c0) (hr1 : Kd.C (Kd.int .u8) w A1 l1.length l1) (hc1 : l1.length ≤ c1) :
    Calls Try.prog 11 #[.slice A0 l0.length c0, .slice A1 l1.length c1] w fun e w' => e = .returned (.bool true) ∧ Below w.heap.size w w' := by
  obtain ⟨k, h⟩ := P l0 l1 g0 g1
  refine (roadbooklaw19_SubPads.calls k A0 c0 l0 A1 c1 l1 true w hr0 hc0 hr1 hc1 h).mono ?_
  rintro e w' ⟨rfl, hd⟩
  exact ⟨rfl, hd⟩

end Go.Proofs.Ytjgnpggpgkkknaa.Pr
