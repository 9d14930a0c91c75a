-- Written by wip/tools/xprint.py of this repo over the kit's printer, out of the translation. Lean checks it.
import Derived.Test.YtjgnpggpgkkknaaPr0
import Derived.Test.YtjgnpggpgkkknaaPr10
import Derived.Test.YtjgnpggpgkkknaaPr13
import Derived.Test.YtjgnpggpgkkknaaPr14
namespace Go.Proofs.Ytjgnpggpgkkknaa.Pr
open Go.RowKit Go.Proofs.YtjgnpggpgkkknaaW.PrintWords Go.Proofs.YtjgnpggpgkkknaaW.PrintLast Go.Proofs.YtjgnpggpgkkknaaW.PrintMore
attribute [local go_sem] max2_int min2_int max_two min_two max_three min_three max_four min_four   -- for this text's walks alone
set_option linter.unusedVariables false
set_option linter.unusedSimpArgs false

/-! ### roadbooklaw18_FrameJoins: function 5 -/
def roadbooklaw18_FrameJoins.j0 : Nat → ByteArray → ByteArray → Bool → Option (Bool)
  | 0, _, _, _ => none
  | k + 1, x0, x1, x21 => if x21 = true then ((roadbooklaw18_awake.f k).bind fun t310 => (some t310)) else ((frame_Split.f k x0 4).bind fun bt311 => ((frame_Split.f k x1 (wrap64 (4 + (x0.size : Int)))).bind fun bt316 => (if x0.size + x1.size ≤ 9223372036854775807 then ((frame_Split.f k (x0 ++ x1) 4).bind fun bt321 => (if bt311.2.2 = 0 then (if bt316.2.2 = 0 then ((roadbooklaw18_awake.f k).bind fun t327 => (if t327 = true then (if bt321.2.2 = 0 then ((some (([] : List (S47)) : List (S47))).bind fun y328 => (if y328.length + bt311.1.length < 4398046511104 then ((some (y328 ++ bt311.1 : List (S47))).bind fun y331 => (if y331.length + bt316.1.length < 4398046511104 then ((roadbookref18_Same.f k bt321.1 (y331 ++ bt316.1)).bind fun t337 => (some t337)) else (none))) else (none))) else (some false)) else (some false))) else ((roadbooklaw18_awake.f k).bind fun t338 => (if t338 = true then (if bt321.2.2 = bt316.2.2 then (if bt321.2.1 = bt316.2.1 then (some ((bt321.1.length : Int) == 0)) else (some false)) else (some false)) else (some false)))) else ((roadbooklaw18_awake.f k).bind fun t326 => (if t326 = true then (if (bt311.1.length : Int) = 0 then (some (decide (bt311.2.1 ≥ 4))) else (some false)) else (some false))))) else (none))))
def roadbooklaw18_FrameJoins.f (k : Nat) (a0 : ByteArray) (a1 : ByteArray) : Option (Bool) := if (a0.size : Int) > 2000 then (roadbooklaw18_FrameJoins.j0 k a0 a1 true) else (roadbooklaw18_FrameJoins.j0 k a0 a1 (decide ((a1.size : Int) > 2000)))
theorem roadbooklaw18_FrameJoins.mono_l : ∀ k, (∀ y0 y1 y2, LeO (roadbooklaw18_FrameJoins.j0 k y0 y1 y2) (roadbooklaw18_FrameJoins.j0 (k + 1) y0 y1 y2))
  | 0 => fun _ _ _ r h => by simp [roadbooklaw18_FrameJoins.j0] at h
  | k + 1 => by
    have ih0 := roadbooklaw18_FrameJoins.mono_l k
    · intro y0 y1 y2
      unfold roadbooklaw18_FrameJoins.j0
      repeat' first
      | (with_reducible exact ih0 _ _ _)
      | (with_reducible exact frame_Split.mono _ _ _)
      | (with_reducible exact roadbooklaw18_awake.mono _)
      | (with_reducible exact roadbookref18_Same.mono _ _ _)
      | (with_reducible exact LeO.refl _)
      | (with_reducible exact LeO.none _)
      | (with_reducible refine LeO.ite ?_ ?_)
      | (with_reducible refine LeO.bind ?_ (fun _ => ?_))
      | exact ih0 _ _ _
      | exact frame_Split.mono _ _ _
      | exact roadbooklaw18_awake.mono _
      | exact roadbookref18_Same.mono _ _ _
      | exact LeO.none _
      | refine LeO.ite ?_ ?_
      | refine LeO.bind ?_ (fun _ => ?_)
theorem roadbooklaw18_FrameJoins.mono : ∀ a0 a1 k, LeO (roadbooklaw18_FrameJoins.f k a0 a1) (roadbooklaw18_FrameJoins.f (k + 1) a0 a1) := by
  intro a0 a1 k
  have ih0 := roadbooklaw18_FrameJoins.mono_l k
  unfold roadbooklaw18_FrameJoins.f
  repeat' first
      | (with_reducible exact ih0 _ _ _)
      | (with_reducible exact frame_Split.mono _ _ _)
      | (with_reducible exact roadbooklaw18_awake.mono _)
      | (with_reducible exact roadbookref18_Same.mono _ _ _)
      | (with_reducible exact LeO.refl _)
      | (with_reducible exact LeO.none _)
      | (with_reducible refine LeO.ite ?_ ?_)
      | (with_reducible refine LeO.bind ?_ (fun _ => ?_))
      | exact ih0 _ _ _
      | exact frame_Split.mono _ _ _
      | exact roadbooklaw18_awake.mono _
      | exact roadbookref18_Same.mono _ _ _
      | exact LeO.none _
      | refine LeO.ite ?_ ?_
      | refine LeO.bind ?_ (fun _ => ?_)
set_option maxHeartbeats 8000000 in
set_option maxRecDepth 100000 in
theorem roadbooklaw18_FrameJoins.calls (k : Nat) (a0 : ByteArray) (a1 : ByteArray) (r : Bool) (w : World) (h : roadbooklaw18_FrameJoins.f k a0 a1 = some r) :
    Calls Try.prog 5 #[.string a0, .string a1] w fun e w' => e = .returned (.bool r) ∧ Below w.heap.size w w' := by
  have HB := Aside0.mk (Below.refl w.heap.size w)
  have H : (if (a0.size : Int) > 2000 then (roadbooklaw18_FrameJoins.j0 k a0 a1 true) else (roadbooklaw18_FrameJoins.j0 k a0 a1 (decide ((a1.size : Int) > 2000)))) = some r := h
  clear h
  have HC3 := Aside0.mk H
  clear H
  go_enter Try.func5, Try.ntmps5
  go_upto_region 1 with (fail)
  go_cut [21] (fun v21 wc => ∃ (kq : Nat) (x21_2 : Bool), v21 = .bool x21_2 ∧ Aside0 (roadbooklaw18_FrameJoins.j0 kq a0 a1 x21_2 = some r) ∧ Aside0 (kq ≤ k) ∧ Aside0 (Below w.heap.size w wc))
  case first =>
    have H := HC3.out
    clear HC3
    by_cases c4 : (a0.size : Int) > 2000
    · rw [if_pos c4] at H
      have c4b0 : decide (2000 < (a0.size : Int)) = true := decide_eq_true c4
      have c4b1 : decide (2000 < a0.size) = true := decide_eq_true (by omega)
      clear c4
      (first | rw [c4b0] | (simp only [i64_w, i32_w]; rw [c4b0]) | skip)
      have H' := Aside0.mk H
      clear H
      go_wp2
      go_meet
      case rel => exact ⟨_, (true), rfS, H', ⟨by first | omega | exact Nat.le_refl _⟩, ⟨bel⟩⟩
    · rw [if_neg c4] at H
      have c4b0 : decide (2000 < (a0.size : Int)) = false := decide_eq_false c4
      have c4b1 : decide (2000 < a0.size) = false := decide_eq_false (by omega)
      clear c4
      (first | rw [c4b0] | (simp only [i64_w, i32_w]; rw [c4b0]) | skip)
      have H' := Aside0.mk H
      clear H
      go_wp2
      go_meet
      case rel => exact ⟨_, (decide ((a1.size : Int) > 2000)), rfS, H', ⟨by first | omega | exact Nat.le_refl _⟩, ⟨bel⟩⟩
  case rest =>
    clear HC3
    try clear p2
    try clear c4
    try clear c4b0
    try clear c4b1
    obtain ⟨kq, x21_2, rfl, HA, HJ2, HB⟩ := hcut
    cases kq with
    | zero => exact absurd HA.out (by simp [roadbooklaw18_FrameJoins.j0])
    | succ kj2 =>
      have H := HA.out
      clear HA
      simp only [roadbooklaw18_FrameJoins.j0] at H
      by_cases c5 : x21_2 = true
      · subst c5
        have H1 : ((roadbooklaw18_awake.f kj2).bind fun t310 => (some t310)) = some r := by rw [if_pos rfl] at H; exact H
        clear H
        have H := H1
        clear H1
        replace H := Option.bind_eq_some_iff.mp H
        obtain ⟨t310, A60, H⟩ := H
        replace H : (some t310) = some r := H
        have A6 := Aside0.mk A60
        clear A60
        obtain rfl := Option.some.inj H
        go_wp2_with (first | ((with_reducible refine gate_callee (f := 17) rfl ?_); refine goesL_ (some 22) rfl rfl Try.func17 (by kernel_rfl) rfl #[] rfl gAr ?_; (with_reducible refine (roadbooklaw18_awake.calls kj2  t310 _ A6.out).mono ?_); rintro e w7 ⟨rfl, hb⟩; refine ⟨_, rfl, ?_⟩; have n0_ := Aside0.mk (below_step (bel) hb); clear HB; have HB := n0_; clear n0_; (try clear hb)))
        go_ret
        exact ⟨rtE, bel⟩
      · replace c5 := Bool.eq_false_iff.mpr c5
        subst c5
        have H1 : ((frame_Split.f kj2 a0 4).bind fun bt311 => ((frame_Split.f kj2 a1 (wrap64 (4 + (a0.size : Int)))).bind fun bt316 => (if a0.size + a1.size ≤ 9223372036854775807 then ((frame_Split.f kj2 (a0 ++ a1) 4).bind fun bt321 => (if bt311.2.2 = 0 then (if bt316.2.2 = 0 then ((roadbooklaw18_awake.f kj2).bind fun t327 => (if t327 = true then (if bt321.2.2 = 0 then ((some (([] : List (S47)) : List (S47))).bind fun y328 => (if y328.length + bt311.1.length < 4398046511104 then ((some (y328 ++ bt311.1 : List (S47))).bind fun y331 => (if y331.length + bt316.1.length < 4398046511104 then ((roadbookref18_Same.f kj2 bt321.1 (y331 ++ bt316.1)).bind fun t337 => (some t337)) else (none))) else (none))) else (some false)) else (some false))) else ((roadbooklaw18_awake.f kj2).bind fun t338 => (if t338 = true then (if bt321.2.2 = bt316.2.2 then (if bt321.2.1 = bt316.2.1 then (some ((bt321.1.length : Int) == 0)) else (some false)) else (some false)) else (some false)))) else ((roadbooklaw18_awake.f kj2).bind fun t326 => (if t326 = true then (if (bt311.1.length : Int) = 0 then (some (decide (bt311.2.1 ≥ 4))) else (some false)) else (some false))))) else (none)))) = some r := by rw [if_neg (show ¬ (false = true) by decide)] at H; exact H
        clear H
        have H := H1
        clear H1
        replace H := Option.bind_eq_some_iff.mp H
        obtain ⟨⟨t311, t312, t313⟩, A80, H⟩ := H
        replace H : ((frame_Split.f kj2 a1 (wrap64 (4 + (a0.size : Int)))).bind fun bt316 => (if a0.size + a1.size ≤ 9223372036854775807 then ((frame_Split.f kj2 (a0 ++ a1) 4).bind fun bt321 => (if t313 = 0 then (if bt316.2.2 = 0 then ((roadbooklaw18_awake.f kj2).bind fun t327 => (if t327 = true then (if bt321.2.2 = 0 then ((some (([] : List (S47)) : List (S47))).bind fun y328 => (if y328.length + t311.length < 4398046511104 then ((some (y328 ++ t311 : List (S47))).bind fun y331 => (if y331.length + bt316.1.length < 4398046511104 then ((roadbookref18_Same.f kj2 bt321.1 (y331 ++ bt316.1)).bind fun t337 => (some t337)) else (none))) else (none))) else (some false)) else (some false))) else ((roadbooklaw18_awake.f kj2).bind fun t338 => (if t338 = true then (if bt321.2.2 = bt316.2.2 then (if bt321.2.1 = bt316.2.1 then (some ((bt321.1.length : Int) == 0)) else (some false)) else (some false)) else (some false)))) else ((roadbooklaw18_awake.f kj2).bind fun t326 => (if t326 = true then (if (t311.length : Int) = 0 then (some (decide (t312 ≥ 4))) else (some false)) else (some false))))) else (none))) = some r := H
        have A8 := Aside0.mk A80
        clear A80
        replace H := Option.bind_eq_some_iff.mp H
        obtain ⟨⟨t316, t317, t318⟩, A90, H⟩ := H
        replace H : (if a0.size + a1.size ≤ 9223372036854775807 then ((frame_Split.f kj2 (a0 ++ a1) 4).bind fun bt321 => (if t313 = 0 then (if t318 = 0 then ((roadbooklaw18_awake.f kj2).bind fun t327 => (if t327 = true then (if bt321.2.2 = 0 then ((some (([] : List (S47)) : List (S47))).bind fun y328 => (if y328.length + t311.length < 4398046511104 then ((some (y328 ++ t311 : List (S47))).bind fun y331 => (if y331.length + t316.length < 4398046511104 then ((roadbookref18_Same.f kj2 bt321.1 (y331 ++ t316)).bind fun t337 => (some t337)) else (none))) else (none))) else (some false)) else (some false))) else ((roadbooklaw18_awake.f kj2).bind fun t338 => (if t338 = true then (if bt321.2.2 = t318 then (if bt321.2.1 = t317 then (some ((bt321.1.length : Int) == 0)) else (some false)) else (some false)) else (some false)))) else ((roadbooklaw18_awake.f kj2).bind fun t326 => (if t326 = true then (if (t311.length : Int) = 0 then (some (decide (t312 ≥ 4))) else (some false)) else (some false))))) else (none)) = some r := H
        have A9 := Aside0.mk A90
        clear A90
        by_cases c10 : a0.size + a1.size ≤ 9223372036854775807
        · rw [if_pos c10] at H
          have c10b0 := eq_true c10
          have c10b1 : decide (a0.size + a1.size ≤ 9223372036854775807) = true := decide_eq_true c10
          try have c10b2 : (9223372036854775807 < a0.size + a1.size) = False := eq_false (Nat.not_lt.2 c10)
          replace H := Option.bind_eq_some_iff.mp H
          obtain ⟨⟨t321, t322, t323⟩, A110, H⟩ := H
          replace H : (if t313 = 0 then (if t318 = 0 then ((roadbooklaw18_awake.f kj2).bind fun t327 => (if t327 = true then (if t323 = 0 then ((some (([] : List (S47)) : List (S47))).bind fun y328 => (if y328.length + t311.length < 4398046511104 then ((some (y328 ++ t311 : List (S47))).bind fun y331 => (if y331.length + t316.length < 4398046511104 then ((roadbookref18_Same.f kj2 t321 (y331 ++ t316)).bind fun t337 => (some t337)) else (none))) else (none))) else (some false)) else (some false))) else ((roadbooklaw18_awake.f kj2).bind fun t338 => (if t338 = true then (if t323 = t318 then (if t322 = t317 then (some ((t321.length : Int) == 0)) else (some false)) else (some false)) else (some false)))) else ((roadbooklaw18_awake.f kj2).bind fun t326 => (if t326 = true then (if (t311.length : Int) = 0 then (some (decide (t312 ≥ 4))) else (some false)) else (some false)))) = some r := H
          have A11 := Aside0.mk A110
          clear A110
          by_cases c12 : t313 = 0
          · rw [if_pos c12] at H
            have c12b0 : (t313 == 0) = true := beq_iff_eq.mpr c12
            have c12b1 : (t313 != 0) = false := bne_eq_false_iff_eq.mpr c12
            clear c12
            by_cases c13 : t318 = 0
            · rw [if_pos c13] at H
              have c13b0 : (t318 == 0) = true := beq_iff_eq.mpr c13
              have c13b1 : (t318 != 0) = false := bne_eq_false_iff_eq.mpr c13
              clear c13
              replace H := Option.bind_eq_some_iff.mp H
              obtain ⟨t327, A140, H⟩ := H
              replace H : (if t327 = true then (if t323 = 0 then ((some (([] : List (S47)) : List (S47))).bind fun y328 => (if y328.length + t311.length < 4398046511104 then ((some (y328 ++ t311 : List (S47))).bind fun y331 => (if y331.length + t316.length < 4398046511104 then ((roadbookref18_Same.f kj2 t321 (y331 ++ t316)).bind fun t337 => (some t337)) else (none))) else (none))) else (some false)) else (some false)) = some r := H
              have A14 := Aside0.mk A140
              clear A140
              by_cases c15 : t327 = true
              · subst c15
                have H1 : (if t323 = 0 then ((some (([] : List (S47)) : List (S47))).bind fun y328 => (if y328.length + t311.length < 4398046511104 then ((some (y328 ++ t311 : List (S47))).bind fun y331 => (if y331.length + t316.length < 4398046511104 then ((roadbookref18_Same.f kj2 t321 (y331 ++ t316)).bind fun t337 => (some t337)) else (none))) else (none))) else (some false)) = some r := by rw [if_pos rfl] at H; exact H
                clear H
                have H := H1
                clear H1
                by_cases c16 : t323 = 0
                · rw [if_pos c16] at H
                  have c16b0 : (t323 == 0) = true := beq_iff_eq.mpr c16
                  have c16b1 : (t323 != 0) = false := bne_eq_false_iff_eq.mpr c16
                  clear c16
                  obtain ⟨y328, hy328⟩ : ∃ y_ : List (S47), y_ = (([] : List (S47))) := ⟨_, rfl⟩
                  replace H : (if y328.length + t311.length < 4398046511104 then ((some (y328 ++ t311 : List (S47))).bind fun y331 => (if y331.length + t316.length < 4398046511104 then ((roadbookref18_Same.f kj2 t321 (y331 ++ t316)).bind fun t337 => (some t337)) else (none))) else (none)) = some r := by first | (rw [hy328]; with_reducible exact H) | (have H2_ := (Option.bind_some _ _).symm.trans H; rw [hy328]; with_reducible exact H2_) | (have H2_ := (Option.bind_some _ _).symm.trans H; with_reducible exact H2_) | with_reducible exact H | (rw [hy328]; exact H) | exact H
                  have Ny328 := Aside0.mk hy328
                  clear hy328
                  by_cases c17 : y328.length + t311.length < 4398046511104
                  · rw [if_pos c17] at H
                    have LMc17 := Aside0.mk c17
                    clear c17
                    obtain ⟨y331, hy331⟩ : ∃ y_ : List (S47), y_ = (y328 ++ t311) := ⟨_, rfl⟩
                    replace H : (if y331.length + t316.length < 4398046511104 then ((roadbookref18_Same.f kj2 t321 (y331 ++ t316)).bind fun t337 => (some t337)) else (none)) = some r := by first | (rw [hy331]; with_reducible exact H) | (have H2_ := (Option.bind_some _ _).symm.trans H; rw [hy331]; with_reducible exact H2_) | (have H2_ := (Option.bind_some _ _).symm.trans H; with_reducible exact H2_) | with_reducible exact H | (rw [hy331]; exact H) | exact H
                    have Ny331 := Aside0.mk hy331
                    clear hy331
                    by_cases c18 : y331.length + t316.length < 4398046511104
                    · rw [if_pos c18] at H
                      have LMc18 := Aside0.mk c18
                      clear c18
                      obtain ⟨y334, hy334⟩ : ∃ y_ : List (S47), y_ = (y331 ++ t316) := ⟨_, rfl⟩
                      replace H : ((roadbookref18_Same.f kj2 t321 y334).bind fun t337 => (some t337)) = some r := by first | (rw [hy334]; with_reducible exact H) | (have H2_ := (Option.bind_some _ _).symm.trans H; rw [hy334]; with_reducible exact H2_) | (have H2_ := (Option.bind_some _ _).symm.trans H; with_reducible exact H2_) | with_reducible exact H | (rw [hy334]; exact H) | exact H
                      have Ny334 := Aside0.mk hy334
                      clear hy334
                      replace H := Option.bind_eq_some_iff.mp H
                      obtain ⟨t337, A190, H⟩ := H
                      replace H : (some t337) = some r := H
                      have A19 := Aside0.mk A190
                      clear A190
                      obtain rfl := Option.some.inj H
                      go_wp2_with (first | ((with_reducible refine gate_callee (f := 18) rfl ?_); refine goesL_ (some 25) rfl rfl Try.func18 (by kernel_rfl) rfl #[.string a0, .int .i64 4] rfl gAr ?_; (with_reducible refine (frame_Split.calls kj2 a0 4 t311 t312 t313 _ A8.out).mono ?_); rintro e w20 ⟨v314, rfl, ho0, hb⟩; refine ⟨_, rfl, ?_⟩; have n0_ := Aside0.mk (Kd.R_lower ho0 bsz); have n1_ := Aside0.mk (below_step (bel) hb); clear HB; have HO315 := n0_; have HB := n1_; clear n0_ n1_; (try clear hb); (try clear ho0)) | ((with_reducible refine gate_callee (f := 18) rfl ?_); refine goesL_ (some 34) rfl rfl Try.func18 (by kernel_rfl) rfl #[.string a1, .int .i64 (wrap64 (4 + (a0.size : Int)))] rfl gAr ?_; (with_reducible refine (frame_Split.calls kj2 a1 (wrap64 (4 + (a0.size : Int))) t316 t317 t318 _ A9.out).mono ?_); rintro e w21 ⟨v319, rfl, ho0, hb⟩; refine ⟨_, rfl, ?_⟩; have n0_ := Aside0.mk (Kd.R_elder' (Kd.R_below HO315.out bll) (Kd.R_base ho0) hb); have n1_ := Aside0.mk (Kd.R_lower (Kd.R_new' ho0 (Kd.R_lt (Kd.R_below HO315.out bll))) bsz); have n2_ := Aside0.mk (below_step (bel) hb); clear HO315; clear HB; have HO315 := n0_; have HO320 := n1_; have HB := n2_; clear n0_ n1_ n2_; (try clear hb); (try clear ho0)) | ((with_reducible refine gate_callee (f := 18) rfl ?_); refine goesL_ (some 42) rfl rfl Try.func18 (by kernel_rfl) rfl #[.string (a0 ++ a1), .int .i64 4] rfl gAr ?_; (with_reducible refine (frame_Split.calls kj2 (a0 ++ a1) 4 t321 t322 t323 _ A11.out).mono ?_); rintro e w22 ⟨v324, rfl, ho0, hb⟩; refine ⟨_, rfl, ?_⟩; have n0_ := Aside0.mk (Kd.R_elder' (Kd.R_below HO315.out bll) (Kd.R_base ho0) hb); have n1_ := Aside0.mk (Kd.R_elder' (Kd.R_below HO320.out bll) (Kd.R_base ho0) hb); have n2_ := Aside0.mk (Kd.R_lower (Kd.R_new' (Kd.R_new' ho0 (Kd.R_lt (Kd.R_below HO315.out bll))) (Kd.R_lt (Kd.R_below HO320.out bll))) bsz); have n3_ := Aside0.mk (below_step (bel) hb); clear HO315; clear HO320; clear HB; have HO315 := n0_; have HO320 := n1_; have HO325 := n2_; have HB := n3_; clear n0_ n1_ n2_ n3_; (try clear hb); (try clear ho0)) | ((with_reducible refine gate_callee (f := 17) rfl ?_); refine goesL_ (some 76) rfl rfl Try.func17 (by kernel_rfl) rfl #[] rfl gAr ?_; (with_reducible refine (roadbooklaw18_awake.calls kj2  true _ A14.out).mono ?_); rintro e w23 ⟨rfl, hb⟩; refine ⟨_, rfl, ?_⟩; have n0_ := Aside0.mk (Kd.R_below (Kd.R_below HO315.out bll) hb); have n1_ := Aside0.mk (Kd.R_below (Kd.R_below HO320.out bll) hb); have n2_ := Aside0.mk (Kd.R_below (Kd.R_below HO325.out bll) hb); have n3_ := Aside0.mk (below_step (bel) hb); clear HO315; clear HO320; clear HO325; clear HB; have HO315 := n0_; have HO320 := n1_; have HO325 := n2_; have HB := n3_; clear n0_ n1_ n2_ n3_; (try clear hb)) | ((with_reducible refine gate_dst (N := 83) rfl ?_); (try (refine gate_guard (by rfl) ?_; dsimp only)); refine Kd.R_lit k47 _ 47 ?hg (N := 83) ?hd (xs := ([] : List (S47))) (inner := []) (ok := fun _ => True) (okp := fun _ => True) ?hr ?hp (fun _ hk => hk) trivial (Below.refl _ _) (Nat.le_refl _) (by simp) ?_; (case hd => rfl); (case hg => rfl); (case hr => first | (go_simp; done) | (go_simp; rfl)); (case hp => exact (Reps.none _ _)); intro v329 w24 ho25 hb hg_ hnew_; clear hg_ hnew_; (first | rw [← Ny328.out] at ho25 | (simp only [Int.reduceToNat] at ho25; rw [← Ny328.out] at ho25)); have n0_ := Aside0.mk (Kd.R_elder' (Kd.R_below HO315.out bll) (Kd.R_base ho25) hb); have n1_ := Aside0.mk (Kd.R_elder' (Kd.R_below HO320.out bll) (Kd.R_base ho25) hb); have n2_ := Aside0.mk (Kd.R_elder' (Kd.R_below HO325.out bll) (Kd.R_base ho25) hb); have n3_ := Aside0.mk (Kd.R_lower (Kd.R_new' (Kd.R_new' (Kd.R_new' ho25 (Kd.R_lt (Kd.R_below HO315.out bll))) (Kd.R_lt (Kd.R_below HO320.out bll))) (Kd.R_lt (Kd.R_below HO325.out bll))) bsz); have n4_ := Aside0.mk (below_step (bel) hb); clear HO315; clear HO320; clear HO325; clear HB; have HO315 := n0_; have HO320 := n1_; have HO325 := n2_; have HO330 := n3_; have HB := n4_; clear n0_ n1_ n2_ n3_ n4_; clear hb ho25; obtain ⟨Ao27, co27, eo27⟩ := Kd.R_slice HO315.out; subst eo27) | ((with_reducible refine gate_builtin (b := .append) (xs := #[.tmp 83, .tmp 84]) rfl ?_); (try (refine gate_guard (by rfl) ?_; dsimp only)); at_builtin; refine Kd.R_append_rows k47 (w0 := w) w.heap.size rfl (.tmp 83) (.tmp 84) 30 47 (.agg #[(.int .i64 0), (.int .i64 0), (.string ⟨#[]⟩)]) 32 rfl Try.underlying30 info47 rfl (by decide) (by omega) v329 y328 t311 _ _ _ (fun k_ => some k_ ≠ (.slice Ao27 t311.length co27 : Value).ownBlock ∧ some k_ ≠ (v319 : Value).ownBlock ∧ some k_ ≠ (v324 : Value).ownBlock) (fun _ => False) rfl rfl ?aO ?aR (fun _ _ h => h) (fun _ h => h.elim) ?aF ?aB ?aS ?aL ?_; (case aR => repeat (first | exact (Kd.R_reads' HO315.out).2.2 | (with_reducible refine Kd.C_alloc ?_ _) | (with_reducible refine Kd.C_drewN ?_ _) | (with_reducible refine Kd.C_drew ?_))); (case aB => exact (bel)); (case aF => exact (fun k_ hk => ⟨Kd.fresh' (Kd.R_lt (Kd.R_below HO315.out bll)) k_ hk, Kd.fresh' (Kd.R_lt (Kd.R_below HO320.out bll)) k_ hk, Kd.fresh' (Kd.R_lt (Kd.R_below HO325.out bll)) k_ hk⟩)); (case aO => exact (by (with_reducible repeat (first | apply Kd.R_alloc | apply Kd.R_drewN | apply Kd.R_drew)); exact Kd.R_mono HO330.out (fun _ hk => ⟨hk.1.1.2, ⟨hk.1.2, hk.2⟩⟩))); (case aS => exact bsz); (case aL => have := LMc17.out; omega); intro v332 w26 ho hb hg hat; rw [← Ny331.out] at ho; have n0_ := Aside0.mk (Kd.R_after (ok := (fun k_ => some k_ ≠ (v319 : Value).ownBlock ∧ some k_ ≠ (v324 : Value).ownBlock)) (by (with_reducible repeat (first | apply Kd.R_alloc | apply Kd.R_drewN | apply Kd.R_drew)); exact Kd.R_mono HO315.out (fun _ hk => ⟨⟨hk.1.1.2, hk.1.2⟩, hk.2⟩)) hg hat); have n1_ := Aside0.mk (Kd.R_after (ok := (fun k_ => some k_ ≠ (.slice Ao27 t311.length co27 : Value).ownBlock ∧ some k_ ≠ (v324 : Value).ownBlock)) (by (with_reducible repeat (first | apply Kd.R_alloc | apply Kd.R_drewN | apply Kd.R_drew)); exact Kd.R_mono HO320.out (fun _ hk => ⟨⟨hk.1.1.2, hk.1.2⟩, hk.2⟩)) hg hat); have n2_ := Aside0.mk (Kd.R_after (ok := (fun k_ => some k_ ≠ (.slice Ao27 t311.length co27 : Value).ownBlock ∧ some k_ ≠ (v319 : Value).ownBlock)) (by (with_reducible repeat (first | apply Kd.R_alloc | apply Kd.R_drewN | apply Kd.R_drew)); exact Kd.R_mono HO325.out (fun _ hk => ⟨⟨hk.1.1.2, hk.1.2⟩, hk.2⟩)) hg hat); have n3_ := Aside0.mk (hb); have n4_ := Aside0.mk (ho); clear HO315; clear HO320; clear HO325; clear HB; clear HO330; have HO315 := n0_; have HO320 := n1_; have HO325 := n2_; have HB := n3_; have HO333 := n4_; clear n0_ n1_ n2_ n3_ n4_; clear ho hb hg hat; obtain ⟨Ao29, co29, eo29⟩ := Kd.R_slice HO320.out; subst eo29) | ((with_reducible refine gate_builtin (b := .append) (xs := #[.tmp 85, .tmp 86]) rfl ?_); (try (refine gate_guard (by rfl) ?_; dsimp only)); at_builtin; refine Kd.R_append_rows k47 (w0 := w) w.heap.size rfl (.tmp 85) (.tmp 86) 30 47 (.agg #[(.int .i64 0), (.int .i64 0), (.string ⟨#[]⟩)]) 32 rfl Try.underlying30 info47 rfl (by decide) (by omega) v332 y331 t316 _ _ _ (fun k_ => some k_ ≠ (.slice Ao27 t311.length co27 : Value).ownBlock ∧ some k_ ≠ (.slice Ao29 t316.length co29 : Value).ownBlock ∧ some k_ ≠ (v324 : Value).ownBlock) (fun _ => False) rfl rfl ?aO ?aR (fun _ _ h => h) (fun _ h => h.elim) ?aF ?aB ?aS ?aL ?_; (case aR => repeat (first | exact (Kd.R_reads' HO320.out).2.2 | (with_reducible refine Kd.C_alloc ?_ _) | (with_reducible refine Kd.C_drewN ?_ _) | (with_reducible refine Kd.C_drew ?_))); (case aB => exact (bel)); (case aF => exact (fun k_ hk => ⟨Kd.fresh' (Kd.R_lt (Kd.R_below HO315.out bll)) k_ hk, Kd.fresh' (Kd.R_lt (Kd.R_below HO320.out bll)) k_ hk, Kd.fresh' (Kd.R_lt (Kd.R_below HO325.out bll)) k_ hk⟩)); (case aO => exact (Kd.R_below HO333.out bll)); (case aS => exact bsz); (case aL => have := LMc18.out; omega); intro v335 w28 ho hb hg hat; rw [← Ny334.out] at ho; have n0_ := Aside0.mk (Kd.R_after (ok := (fun k_ => some k_ ≠ (.slice Ao29 t316.length co29 : Value).ownBlock ∧ some k_ ≠ (v324 : Value).ownBlock)) (Kd.R_below HO315.out bll) hg hat); have n1_ := Aside0.mk (Kd.R_after (ok := (fun k_ => some k_ ≠ (.slice Ao27 t311.length co27 : Value).ownBlock ∧ some k_ ≠ (v324 : Value).ownBlock)) (Kd.R_below HO320.out bll) hg hat); have n2_ := Aside0.mk (Kd.R_after (ok := (fun k_ => some k_ ≠ (.slice Ao27 t311.length co27 : Value).ownBlock ∧ some k_ ≠ (.slice Ao29 t316.length co29 : Value).ownBlock)) (Kd.R_below HO325.out bll) hg hat); have n3_ := Aside0.mk (hb); have n4_ := Aside0.mk (ho); clear HO315; clear HO320; clear HO325; clear HB; clear HO333; have HO315 := n0_; have HO320 := n1_; have HO325 := n2_; have HB := n3_; have HO336 := n4_; clear n0_ n1_ n2_ n3_ n4_; clear ho hb hg hat; obtain ⟨Ao30, co30, eo30⟩ := Kd.R_slice HO325.out; subst eo30; obtain ⟨Ao31, co31, eo31⟩ := Kd.R_slice HO336.out; subst eo31) | (go_at_call 19; (with_reducible refine (roadbookref18_Same.calls kj2 _ _ t321 _ _ y334 t337 _ ?side1 ?side2 ?side3 ?side4 A19.out).mono ?_); (case side1 => repeat (first | exact (Kd.R_reads' HO325.out).2.2 | (with_reducible refine Kd.C_alloc ?_ _) | (with_reducible refine Kd.C_drewN ?_ _) | (with_reducible refine Kd.C_drew ?_))); (case side2 => exact (Kd.R_reads' HO325.out).2.1); (case side3 => repeat (first | exact (Kd.R_reads' HO336.out).2.2 | (with_reducible refine Kd.C_alloc ?_ _) | (with_reducible refine Kd.C_drewN ?_ _) | (with_reducible refine Kd.C_drew ?_))); (case side4 => exact (Kd.R_reads' HO336.out).2.1); rintro e w' ⟨rfl, ⟨nd, rfl⟩⟩))
                      go_ret
                      exact ⟨rtE, bel⟩
                    · rw [if_neg c18] at H
                      exact absurd H (by simp)
                  · rw [if_neg c17] at H
                    exact absurd H (by simp)
                · rw [if_neg c16] at H
                  have c16b0 : (t323 == 0) = false := beq_eq_false_iff_ne.mpr c16
                  have c16b1 : (t323 != 0) = true := bne_iff_ne.mpr c16
                  obtain rfl := Option.some.inj H
                  go_wp2_with (first | ((with_reducible refine gate_callee (f := 18) rfl ?_); refine goesL_ (some 25) rfl rfl Try.func18 (by kernel_rfl) rfl #[.string a0, .int .i64 4] rfl gAr ?_; (with_reducible refine (frame_Split.calls kj2 a0 4 t311 t312 t313 _ A8.out).mono ?_); rintro e w32 ⟨v314, rfl, ho0, hb⟩; refine ⟨_, rfl, ?_⟩; have n0_ := Aside0.mk (Kd.R_lower ho0 bsz); have n1_ := Aside0.mk (below_step (bel) hb); clear HB; have HO315 := n0_; have HB := n1_; clear n0_ n1_; (try clear hb); (try clear ho0)) | ((with_reducible refine gate_callee (f := 18) rfl ?_); refine goesL_ (some 34) rfl rfl Try.func18 (by kernel_rfl) rfl #[.string a1, .int .i64 (wrap64 (4 + (a0.size : Int)))] rfl gAr ?_; (with_reducible refine (frame_Split.calls kj2 a1 (wrap64 (4 + (a0.size : Int))) t316 t317 t318 _ A9.out).mono ?_); rintro e w33 ⟨v319, rfl, ho0, hb⟩; refine ⟨_, rfl, ?_⟩; have n0_ := Aside0.mk (Kd.R_elder' (Kd.R_below HO315.out bll) (Kd.R_base ho0) hb); have n1_ := Aside0.mk (Kd.R_lower (Kd.R_new' ho0 (Kd.R_lt (Kd.R_below HO315.out bll))) bsz); have n2_ := Aside0.mk (below_step (bel) hb); clear HO315; clear HB; have HO315 := n0_; have HO320 := n1_; have HB := n2_; clear n0_ n1_ n2_; (try clear hb); (try clear ho0)) | ((with_reducible refine gate_callee (f := 18) rfl ?_); refine goesL_ (some 42) rfl rfl Try.func18 (by kernel_rfl) rfl #[.string (a0 ++ a1), .int .i64 4] rfl gAr ?_; (with_reducible refine (frame_Split.calls kj2 (a0 ++ a1) 4 t321 t322 t323 _ A11.out).mono ?_); rintro e w34 ⟨v324, rfl, ho0, hb⟩; refine ⟨_, rfl, ?_⟩; have n0_ := Aside0.mk (Kd.R_elder' (Kd.R_below HO315.out bll) (Kd.R_base ho0) hb); have n1_ := Aside0.mk (Kd.R_elder' (Kd.R_below HO320.out bll) (Kd.R_base ho0) hb); have n2_ := Aside0.mk (Kd.R_lower (Kd.R_new' (Kd.R_new' ho0 (Kd.R_lt (Kd.R_below HO315.out bll))) (Kd.R_lt (Kd.R_below HO320.out bll))) bsz); have n3_ := Aside0.mk (below_step (bel) hb); clear HO315; clear HO320; clear HB; have HO315 := n0_; have HO320 := n1_; have HO325 := n2_; have HB := n3_; clear n0_ n1_ n2_ n3_; (try clear hb); (try clear ho0)) | ((with_reducible refine gate_callee (f := 17) rfl ?_); refine goesL_ (some 76) rfl rfl Try.func17 (by kernel_rfl) rfl #[] rfl gAr ?_; (with_reducible refine (roadbooklaw18_awake.calls kj2  true _ A14.out).mono ?_); rintro e w35 ⟨rfl, hb⟩; refine ⟨_, rfl, ?_⟩; have n0_ := Aside0.mk (Kd.R_below (Kd.R_below HO315.out bll) hb); have n1_ := Aside0.mk (Kd.R_below (Kd.R_below HO320.out bll) hb); have n2_ := Aside0.mk (Kd.R_below (Kd.R_below HO325.out bll) hb); have n3_ := Aside0.mk (below_step (bel) hb); clear HO315; clear HO320; clear HO325; clear HB; have HO315 := n0_; have HO320 := n1_; have HO325 := n2_; have HB := n3_; clear n0_ n1_ n2_ n3_; (try clear hb)))
                  go_ret
                  exact ⟨rtE, bel⟩
              · replace c15 := Bool.eq_false_iff.mpr c15
                subst c15
                have H1 : (some false) = some r := by rw [if_neg (show ¬ (false = true) by decide)] at H; exact H
                clear H
                have H := H1
                clear H1
                obtain rfl := Option.some.inj H
                go_wp2_with (first | ((with_reducible refine gate_callee (f := 18) rfl ?_); refine goesL_ (some 25) rfl rfl Try.func18 (by kernel_rfl) rfl #[.string a0, .int .i64 4] rfl gAr ?_; (with_reducible refine (frame_Split.calls kj2 a0 4 t311 t312 t313 _ A8.out).mono ?_); rintro e w36 ⟨v314, rfl, ho0, hb⟩; refine ⟨_, rfl, ?_⟩; have n0_ := Aside0.mk (Kd.R_lower ho0 bsz); have n1_ := Aside0.mk (below_step (bel) hb); clear HB; have HO315 := n0_; have HB := n1_; clear n0_ n1_; (try clear hb); (try clear ho0)) | ((with_reducible refine gate_callee (f := 18) rfl ?_); refine goesL_ (some 34) rfl rfl Try.func18 (by kernel_rfl) rfl #[.string a1, .int .i64 (wrap64 (4 + (a0.size : Int)))] rfl gAr ?_; (with_reducible refine (frame_Split.calls kj2 a1 (wrap64 (4 + (a0.size : Int))) t316 t317 t318 _ A9.out).mono ?_); rintro e w37 ⟨v319, rfl, ho0, hb⟩; refine ⟨_, rfl, ?_⟩; have n0_ := Aside0.mk (Kd.R_elder' (Kd.R_below HO315.out bll) (Kd.R_base ho0) hb); have n1_ := Aside0.mk (Kd.R_lower (Kd.R_new' ho0 (Kd.R_lt (Kd.R_below HO315.out bll))) bsz); have n2_ := Aside0.mk (below_step (bel) hb); clear HO315; clear HB; have HO315 := n0_; have HO320 := n1_; have HB := n2_; clear n0_ n1_ n2_; (try clear hb); (try clear ho0)) | ((with_reducible refine gate_callee (f := 18) rfl ?_); refine goesL_ (some 42) rfl rfl Try.func18 (by kernel_rfl) rfl #[.string (a0 ++ a1), .int .i64 4] rfl gAr ?_; (with_reducible refine (frame_Split.calls kj2 (a0 ++ a1) 4 t321 t322 t323 _ A11.out).mono ?_); rintro e w38 ⟨v324, rfl, ho0, hb⟩; refine ⟨_, rfl, ?_⟩; have n0_ := Aside0.mk (Kd.R_elder' (Kd.R_below HO315.out bll) (Kd.R_base ho0) hb); have n1_ := Aside0.mk (Kd.R_elder' (Kd.R_below HO320.out bll) (Kd.R_base ho0) hb); have n2_ := Aside0.mk (Kd.R_lower (Kd.R_new' (Kd.R_new' ho0 (Kd.R_lt (Kd.R_below HO315.out bll))) (Kd.R_lt (Kd.R_below HO320.out bll))) bsz); have n3_ := Aside0.mk (below_step (bel) hb); clear HO315; clear HO320; clear HB; have HO315 := n0_; have HO320 := n1_; have HO325 := n2_; have HB := n3_; clear n0_ n1_ n2_ n3_; (try clear hb); (try clear ho0)) | ((with_reducible refine gate_callee (f := 17) rfl ?_); refine goesL_ (some 76) rfl rfl Try.func17 (by kernel_rfl) rfl #[] rfl gAr ?_; (with_reducible refine (roadbooklaw18_awake.calls kj2  false _ A14.out).mono ?_); rintro e w39 ⟨rfl, hb⟩; refine ⟨_, rfl, ?_⟩; have n0_ := Aside0.mk (Kd.R_below (Kd.R_below HO315.out bll) hb); have n1_ := Aside0.mk (Kd.R_below (Kd.R_below HO320.out bll) hb); have n2_ := Aside0.mk (Kd.R_below (Kd.R_below HO325.out bll) hb); have n3_ := Aside0.mk (below_step (bel) hb); clear HO315; clear HO320; clear HO325; clear HB; have HO315 := n0_; have HO320 := n1_; have HO325 := n2_; have HB := n3_; clear n0_ n1_ n2_ n3_; (try clear hb)))
                go_ret
                exact ⟨rtE, bel⟩
            · rw [if_neg c13] at H
              have c13b0 : (t318 == 0) = false := beq_eq_false_iff_ne.mpr c13
              have c13b1 : (t318 != 0) = true := bne_iff_ne.mpr c13
              replace H := Option.bind_eq_some_iff.mp H
              obtain ⟨t338, A400, H⟩ := H
              replace H : (if t338 = true then (if t323 = t318 then (if t322 = t317 then (some ((t321.length : Int) == 0)) else (some false)) else (some false)) else (some false)) = some r := H
              have A40 := Aside0.mk A400
              clear A400
              by_cases c41 : t338 = true
              · subst c41
                have H1 : (if t323 = t318 then (if t322 = t317 then (some ((t321.length : Int) == 0)) else (some false)) else (some false)) = some r := by rw [if_pos rfl] at H; exact H
                clear H
                have H := H1
                clear H1
                by_cases c42 : t323 = t318
                · rw [if_pos c42] at H
                  have c42b0 : (t323 == t318) = true := beq_iff_eq.mpr c42
                  have c42b1 : (t323 != t318) = false := bne_eq_false_iff_eq.mpr c42
                  clear c42
                  by_cases c43 : t322 = t317
                  · rw [if_pos c43] at H
                    have c43b0 : (t322 == t317) = true := beq_iff_eq.mpr c43
                    have c43b1 : (t322 != t317) = false := bne_eq_false_iff_eq.mpr c43
                    clear c43
                    obtain rfl := Option.some.inj H
                    go_wp2_with (first | ((with_reducible refine gate_callee (f := 18) rfl ?_); refine goesL_ (some 25) rfl rfl Try.func18 (by kernel_rfl) rfl #[.string a0, .int .i64 4] rfl gAr ?_; (with_reducible refine (frame_Split.calls kj2 a0 4 t311 t312 t313 _ A8.out).mono ?_); rintro e w44 ⟨v314, rfl, ho0, hb⟩; refine ⟨_, rfl, ?_⟩; have n0_ := Aside0.mk (Kd.R_lower ho0 bsz); have n1_ := Aside0.mk (below_step (bel) hb); clear HB; have HO315 := n0_; have HB := n1_; clear n0_ n1_; (try clear hb); (try clear ho0)) | ((with_reducible refine gate_callee (f := 18) rfl ?_); refine goesL_ (some 34) rfl rfl Try.func18 (by kernel_rfl) rfl #[.string a1, .int .i64 (wrap64 (4 + (a0.size : Int)))] rfl gAr ?_; (with_reducible refine (frame_Split.calls kj2 a1 (wrap64 (4 + (a0.size : Int))) t316 t317 t318 _ A9.out).mono ?_); rintro e w45 ⟨v319, rfl, ho0, hb⟩; refine ⟨_, rfl, ?_⟩; have n0_ := Aside0.mk (Kd.R_elder' (Kd.R_below HO315.out bll) (Kd.R_base ho0) hb); have n1_ := Aside0.mk (Kd.R_lower (Kd.R_new' ho0 (Kd.R_lt (Kd.R_below HO315.out bll))) bsz); have n2_ := Aside0.mk (below_step (bel) hb); clear HO315; clear HB; have HO315 := n0_; have HO320 := n1_; have HB := n2_; clear n0_ n1_ n2_; (try clear hb); (try clear ho0)) | ((with_reducible refine gate_callee (f := 18) rfl ?_); refine goesL_ (some 42) rfl rfl Try.func18 (by kernel_rfl) rfl #[.string (a0 ++ a1), .int .i64 4] rfl gAr ?_; (with_reducible refine (frame_Split.calls kj2 (a0 ++ a1) 4 t321 t322 t323 _ A11.out).mono ?_); rintro e w46 ⟨v324, rfl, ho0, hb⟩; refine ⟨_, rfl, ?_⟩; have n0_ := Aside0.mk (Kd.R_elder' (Kd.R_below HO315.out bll) (Kd.R_base ho0) hb); have n1_ := Aside0.mk (Kd.R_elder' (Kd.R_below HO320.out bll) (Kd.R_base ho0) hb); have n2_ := Aside0.mk (Kd.R_lower (Kd.R_new' (Kd.R_new' ho0 (Kd.R_lt (Kd.R_below HO315.out bll))) (Kd.R_lt (Kd.R_below HO320.out bll))) bsz); have n3_ := Aside0.mk (below_step (bel) hb); clear HO315; clear HO320; clear HB; have HO315 := n0_; have HO320 := n1_; have HO325 := n2_; have HB := n3_; clear n0_ n1_ n2_ n3_; (try clear hb); (try clear ho0)) | ((with_reducible refine gate_callee (f := 17) rfl ?_); refine goesL_ (some 60) rfl rfl Try.func17 (by kernel_rfl) rfl #[] rfl gAr ?_; (with_reducible refine (roadbooklaw18_awake.calls kj2  true _ A40.out).mono ?_); rintro e w47 ⟨rfl, hb⟩; refine ⟨_, rfl, ?_⟩; have n0_ := Aside0.mk (Kd.R_below (Kd.R_below HO315.out bll) hb); have n1_ := Aside0.mk (Kd.R_below (Kd.R_below HO320.out bll) hb); have n2_ := Aside0.mk (Kd.R_below (Kd.R_below HO325.out bll) hb); have n3_ := Aside0.mk (below_step (bel) hb); clear HO315; clear HO320; clear HO325; clear HB; have HO315 := n0_; have HO320 := n1_; have HO325 := n2_; have HB := n3_; clear n0_ n1_ n2_ n3_; (try clear hb); obtain ⟨Ao48, co48, eo48⟩ := Kd.R_slice HO325.out; subst eo48))
                    go_ret
                    exact ⟨rtE, bel⟩
                  · rw [if_neg c43] at H
                    have c43b0 : (t322 == t317) = false := beq_eq_false_iff_ne.mpr c43
                    have c43b1 : (t322 != t317) = true := bne_iff_ne.mpr c43
                    obtain rfl := Option.some.inj H
                    go_wp2_with (first | ((with_reducible refine gate_callee (f := 18) rfl ?_); refine goesL_ (some 25) rfl rfl Try.func18 (by kernel_rfl) rfl #[.string a0, .int .i64 4] rfl gAr ?_; (with_reducible refine (frame_Split.calls kj2 a0 4 t311 t312 t313 _ A8.out).mono ?_); rintro e w49 ⟨v314, rfl, ho0, hb⟩; refine ⟨_, rfl, ?_⟩; have n0_ := Aside0.mk (Kd.R_lower ho0 bsz); have n1_ := Aside0.mk (below_step (bel) hb); clear HB; have HO315 := n0_; have HB := n1_; clear n0_ n1_; (try clear hb); (try clear ho0)) | ((with_reducible refine gate_callee (f := 18) rfl ?_); refine goesL_ (some 34) rfl rfl Try.func18 (by kernel_rfl) rfl #[.string a1, .int .i64 (wrap64 (4 + (a0.size : Int)))] rfl gAr ?_; (with_reducible refine (frame_Split.calls kj2 a1 (wrap64 (4 + (a0.size : Int))) t316 t317 t318 _ A9.out).mono ?_); rintro e w50 ⟨v319, rfl, ho0, hb⟩; refine ⟨_, rfl, ?_⟩; have n0_ := Aside0.mk (Kd.R_elder' (Kd.R_below HO315.out bll) (Kd.R_base ho0) hb); have n1_ := Aside0.mk (Kd.R_lower (Kd.R_new' ho0 (Kd.R_lt (Kd.R_below HO315.out bll))) bsz); have n2_ := Aside0.mk (below_step (bel) hb); clear HO315; clear HB; have HO315 := n0_; have HO320 := n1_; have HB := n2_; clear n0_ n1_ n2_; (try clear hb); (try clear ho0)) | ((with_reducible refine gate_callee (f := 18) rfl ?_); refine goesL_ (some 42) rfl rfl Try.func18 (by kernel_rfl) rfl #[.string (a0 ++ a1), .int .i64 4] rfl gAr ?_; (with_reducible refine (frame_Split.calls kj2 (a0 ++ a1) 4 t321 t322 t323 _ A11.out).mono ?_); rintro e w51 ⟨v324, rfl, ho0, hb⟩; refine ⟨_, rfl, ?_⟩; have n0_ := Aside0.mk (Kd.R_elder' (Kd.R_below HO315.out bll) (Kd.R_base ho0) hb); have n1_ := Aside0.mk (Kd.R_elder' (Kd.R_below HO320.out bll) (Kd.R_base ho0) hb); have n2_ := Aside0.mk (Kd.R_lower (Kd.R_new' (Kd.R_new' ho0 (Kd.R_lt (Kd.R_below HO315.out bll))) (Kd.R_lt (Kd.R_below HO320.out bll))) bsz); have n3_ := Aside0.mk (below_step (bel) hb); clear HO315; clear HO320; clear HB; have HO315 := n0_; have HO320 := n1_; have HO325 := n2_; have HB := n3_; clear n0_ n1_ n2_ n3_; (try clear hb); (try clear ho0)) | ((with_reducible refine gate_callee (f := 17) rfl ?_); refine goesL_ (some 60) rfl rfl Try.func17 (by kernel_rfl) rfl #[] rfl gAr ?_; (with_reducible refine (roadbooklaw18_awake.calls kj2  true _ A40.out).mono ?_); rintro e w52 ⟨rfl, hb⟩; refine ⟨_, rfl, ?_⟩; have n0_ := Aside0.mk (Kd.R_below (Kd.R_below HO315.out bll) hb); have n1_ := Aside0.mk (Kd.R_below (Kd.R_below HO320.out bll) hb); have n2_ := Aside0.mk (Kd.R_below (Kd.R_below HO325.out bll) hb); have n3_ := Aside0.mk (below_step (bel) hb); clear HO315; clear HO320; clear HO325; clear HB; have HO315 := n0_; have HO320 := n1_; have HO325 := n2_; have HB := n3_; clear n0_ n1_ n2_ n3_; (try clear hb)))
                    go_ret
                    exact ⟨rtE, bel⟩
                · rw [if_neg c42] at H
                  have c42b0 : (t323 == t318) = false := beq_eq_false_iff_ne.mpr c42
                  have c42b1 : (t323 != t318) = true := bne_iff_ne.mpr c42
                  obtain rfl := Option.some.inj H
                  go_wp2_with (first | ((with_reducible refine gate_callee (f := 18) rfl ?_); refine goesL_ (some 25) rfl rfl Try.func18 (by kernel_rfl) rfl #[.string a0, .int .i64 4] rfl gAr ?_; (with_reducible refine (frame_Split.calls kj2 a0 4 t311 t312 t313 _ A8.out).mono ?_); rintro e w53 ⟨v314, rfl, ho0, hb⟩; refine ⟨_, rfl, ?_⟩; have n0_ := Aside0.mk (Kd.R_lower ho0 bsz); have n1_ := Aside0.mk (below_step (bel) hb); clear HB; have HO315 := n0_; have HB := n1_; clear n0_ n1_; (try clear hb); (try clear ho0)) | ((with_reducible refine gate_callee (f := 18) rfl ?_); refine goesL_ (some 34) rfl rfl Try.func18 (by kernel_rfl) rfl #[.string a1, .int .i64 (wrap64 (4 + (a0.size : Int)))] rfl gAr ?_; (with_reducible refine (frame_Split.calls kj2 a1 (wrap64 (4 + (a0.size : Int))) t316 t317 t318 _ A9.out).mono ?_); rintro e w54 ⟨v319, rfl, ho0, hb⟩; refine ⟨_, rfl, ?_⟩; have n0_ := Aside0.mk (Kd.R_elder' (Kd.R_below HO315.out bll) (Kd.R_base ho0) hb); have n1_ := Aside0.mk (Kd.R_lower (Kd.R_new' ho0 (Kd.R_lt (Kd.R_below HO315.out bll))) bsz); have n2_ := Aside0.mk (below_step (bel) hb); clear HO315; clear HB; have HO315 := n0_; have HO320 := n1_; have HB := n2_; clear n0_ n1_ n2_; (try clear hb); (try clear ho0)) | ((with_reducible refine gate_callee (f := 18) rfl ?_); refine goesL_ (some 42) rfl rfl Try.func18 (by kernel_rfl) rfl #[.string (a0 ++ a1), .int .i64 4] rfl gAr ?_; (with_reducible refine (frame_Split.calls kj2 (a0 ++ a1) 4 t321 t322 t323 _ A11.out).mono ?_); rintro e w55 ⟨v324, rfl, ho0, hb⟩; refine ⟨_, rfl, ?_⟩; have n0_ := Aside0.mk (Kd.R_elder' (Kd.R_below HO315.out bll) (Kd.R_base ho0) hb); have n1_ := Aside0.mk (Kd.R_elder' (Kd.R_below HO320.out bll) (Kd.R_base ho0) hb); have n2_ := Aside0.mk (Kd.R_lower (Kd.R_new' (Kd.R_new' ho0 (Kd.R_lt (Kd.R_below HO315.out bll))) (Kd.R_lt (Kd.R_below HO320.out bll))) bsz); have n3_ := Aside0.mk (below_step (bel) hb); clear HO315; clear HO320; clear HB; have HO315 := n0_; have HO320 := n1_; have HO325 := n2_; have HB := n3_; clear n0_ n1_ n2_ n3_; (try clear hb); (try clear ho0)) | ((with_reducible refine gate_callee (f := 17) rfl ?_); refine goesL_ (some 60) rfl rfl Try.func17 (by kernel_rfl) rfl #[] rfl gAr ?_; (with_reducible refine (roadbooklaw18_awake.calls kj2  true _ A40.out).mono ?_); rintro e w56 ⟨rfl, hb⟩; refine ⟨_, rfl, ?_⟩; have n0_ := Aside0.mk (Kd.R_below (Kd.R_below HO315.out bll) hb); have n1_ := Aside0.mk (Kd.R_below (Kd.R_below HO320.out bll) hb); have n2_ := Aside0.mk (Kd.R_below (Kd.R_below HO325.out bll) hb); have n3_ := Aside0.mk (below_step (bel) hb); clear HO315; clear HO320; clear HO325; clear HB; have HO315 := n0_; have HO320 := n1_; have HO325 := n2_; have HB := n3_; clear n0_ n1_ n2_ n3_; (try clear hb)))
                  go_ret
                  exact ⟨rtE, bel⟩
              · replace c41 := Bool.eq_false_iff.mpr c41
                subst c41
                have H1 : (some false) = some r := by rw [if_neg (show ¬ (false = true) by decide)] at H; exact H
                clear H
                have H := H1
                clear H1
                obtain rfl := Option.some.inj H
                go_wp2_with (first | ((with_reducible refine gate_callee (f := 18) rfl ?_); refine goesL_ (some 25) rfl rfl Try.func18 (by kernel_rfl) rfl #[.string a0, .int .i64 4] rfl gAr ?_; (with_reducible refine (frame_Split.calls kj2 a0 4 t311 t312 t313 _ A8.out).mono ?_); rintro e w57 ⟨v314, rfl, ho0, hb⟩; refine ⟨_, rfl, ?_⟩; have n0_ := Aside0.mk (Kd.R_lower ho0 bsz); have n1_ := Aside0.mk (below_step (bel) hb); clear HB; have HO315 := n0_; have HB := n1_; clear n0_ n1_; (try clear hb); (try clear ho0)) | ((with_reducible refine gate_callee (f := 18) rfl ?_); refine goesL_ (some 34) rfl rfl Try.func18 (by kernel_rfl) rfl #[.string a1, .int .i64 (wrap64 (4 + (a0.size : Int)))] rfl gAr ?_; (with_reducible refine (frame_Split.calls kj2 a1 (wrap64 (4 + (a0.size : Int))) t316 t317 t318 _ A9.out).mono ?_); rintro e w58 ⟨v319, rfl, ho0, hb⟩; refine ⟨_, rfl, ?_⟩; have n0_ := Aside0.mk (Kd.R_elder' (Kd.R_below HO315.out bll) (Kd.R_base ho0) hb); have n1_ := Aside0.mk (Kd.R_lower (Kd.R_new' ho0 (Kd.R_lt (Kd.R_below HO315.out bll))) bsz); have n2_ := Aside0.mk (below_step (bel) hb); clear HO315; clear HB; have HO315 := n0_; have HO320 := n1_; have HB := n2_; clear n0_ n1_ n2_; (try clear hb); (try clear ho0)) | ((with_reducible refine gate_callee (f := 18) rfl ?_); refine goesL_ (some 42) rfl rfl Try.func18 (by kernel_rfl) rfl #[.string (a0 ++ a1), .int .i64 4] rfl gAr ?_; (with_reducible refine (frame_Split.calls kj2 (a0 ++ a1) 4 t321 t322 t323 _ A11.out).mono ?_); rintro e w59 ⟨v324, rfl, ho0, hb⟩; refine ⟨_, rfl, ?_⟩; have n0_ := Aside0.mk (Kd.R_elder' (Kd.R_below HO315.out bll) (Kd.R_base ho0) hb); have n1_ := Aside0.mk (Kd.R_elder' (Kd.R_below HO320.out bll) (Kd.R_base ho0) hb); have n2_ := Aside0.mk (Kd.R_lower (Kd.R_new' (Kd.R_new' ho0 (Kd.R_lt (Kd.R_below HO315.out bll))) (Kd.R_lt (Kd.R_below HO320.out bll))) bsz); have n3_ := Aside0.mk (below_step (bel) hb); clear HO315; clear HO320; clear HB; have HO315 := n0_; have HO320 := n1_; have HO325 := n2_; have HB := n3_; clear n0_ n1_ n2_ n3_; (try clear hb); (try clear ho0)) | ((with_reducible refine gate_callee (f := 17) rfl ?_); refine goesL_ (some 60) rfl rfl Try.func17 (by kernel_rfl) rfl #[] rfl gAr ?_; (with_reducible refine (roadbooklaw18_awake.calls kj2  false _ A40.out).mono ?_); rintro e w60 ⟨rfl, hb⟩; refine ⟨_, rfl, ?_⟩; have n0_ := Aside0.mk (Kd.R_below (Kd.R_below HO315.out bll) hb); have n1_ := Aside0.mk (Kd.R_below (Kd.R_below HO320.out bll) hb); have n2_ := Aside0.mk (Kd.R_below (Kd.R_below HO325.out bll) hb); have n3_ := Aside0.mk (below_step (bel) hb); clear HO315; clear HO320; clear HO325; clear HB; have HO315 := n0_; have HO320 := n1_; have HO325 := n2_; have HB := n3_; clear n0_ n1_ n2_ n3_; (try clear hb)))
                go_ret
                exact ⟨rtE, bel⟩
          · rw [if_neg c12] at H
            have c12b0 : (t313 == 0) = false := beq_eq_false_iff_ne.mpr c12
            have c12b1 : (t313 != 0) = true := bne_iff_ne.mpr c12
            replace H := Option.bind_eq_some_iff.mp H
            obtain ⟨t326, A610, H⟩ := H
            replace H : (if t326 = true then (if (t311.length : Int) = 0 then (some (decide (t312 ≥ 4))) else (some false)) else (some false)) = some r := H
            have A61 := Aside0.mk A610
            clear A610
            by_cases c62 : t326 = true
            · subst c62
              have H1 : (if (t311.length : Int) = 0 then (some (decide (t312 ≥ 4))) else (some false)) = some r := by rw [if_pos rfl] at H; exact H
              clear H
              have H := H1
              clear H1
              by_cases c63 : (t311.length : Int) = 0
              · rw [if_pos c63] at H
                have c63b0 : ((t311.length : Int) == 0) = true := beq_iff_eq.mpr c63
                have c63b1 : ((t311.length : Int) != 0) = false := bne_eq_false_iff_eq.mpr c63
                clear c63
                obtain rfl := Option.some.inj H
                go_wp2_with (first | ((with_reducible refine gate_callee (f := 18) rfl ?_); refine goesL_ (some 25) rfl rfl Try.func18 (by kernel_rfl) rfl #[.string a0, .int .i64 4] rfl gAr ?_; (with_reducible refine (frame_Split.calls kj2 a0 4 t311 t312 t313 _ A8.out).mono ?_); rintro e w64 ⟨v314, rfl, ho0, hb⟩; refine ⟨_, rfl, ?_⟩; have n0_ := Aside0.mk (Kd.R_lower ho0 bsz); have n1_ := Aside0.mk (below_step (bel) hb); clear HB; have HO315 := n0_; have HB := n1_; clear n0_ n1_; (try clear hb); (try clear ho0)) | ((with_reducible refine gate_callee (f := 18) rfl ?_); refine goesL_ (some 34) rfl rfl Try.func18 (by kernel_rfl) rfl #[.string a1, .int .i64 (wrap64 (4 + (a0.size : Int)))] rfl gAr ?_; (with_reducible refine (frame_Split.calls kj2 a1 (wrap64 (4 + (a0.size : Int))) t316 t317 t318 _ A9.out).mono ?_); rintro e w65 ⟨v319, rfl, ho0, hb⟩; refine ⟨_, rfl, ?_⟩; have n0_ := Aside0.mk (Kd.R_elder' (Kd.R_below HO315.out bll) (Kd.R_base ho0) hb); have n1_ := Aside0.mk (Kd.R_lower (Kd.R_new' ho0 (Kd.R_lt (Kd.R_below HO315.out bll))) bsz); have n2_ := Aside0.mk (below_step (bel) hb); clear HO315; clear HB; have HO315 := n0_; have HO320 := n1_; have HB := n2_; clear n0_ n1_ n2_; (try clear hb); (try clear ho0)) | ((with_reducible refine gate_callee (f := 18) rfl ?_); refine goesL_ (some 42) rfl rfl Try.func18 (by kernel_rfl) rfl #[.string (a0 ++ a1), .int .i64 4] rfl gAr ?_; (with_reducible refine (frame_Split.calls kj2 (a0 ++ a1) 4 t321 t322 t323 _ A11.out).mono ?_); rintro e w66 ⟨v324, rfl, ho0, hb⟩; refine ⟨_, rfl, ?_⟩; have n0_ := Aside0.mk (Kd.R_elder' (Kd.R_below HO315.out bll) (Kd.R_base ho0) hb); have n1_ := Aside0.mk (Kd.R_elder' (Kd.R_below HO320.out bll) (Kd.R_base ho0) hb); have n2_ := Aside0.mk (Kd.R_lower (Kd.R_new' (Kd.R_new' ho0 (Kd.R_lt (Kd.R_below HO315.out bll))) (Kd.R_lt (Kd.R_below HO320.out bll))) bsz); have n3_ := Aside0.mk (below_step (bel) hb); clear HO315; clear HO320; clear HB; have HO315 := n0_; have HO320 := n1_; have HO325 := n2_; have HB := n3_; clear n0_ n1_ n2_ n3_; (try clear hb); (try clear ho0)) | ((with_reducible refine gate_callee (f := 17) rfl ?_); refine goesL_ (some 48) rfl rfl Try.func17 (by kernel_rfl) rfl #[] rfl gAr ?_; (with_reducible refine (roadbooklaw18_awake.calls kj2  true _ A61.out).mono ?_); rintro e w67 ⟨rfl, hb⟩; refine ⟨_, rfl, ?_⟩; have n0_ := Aside0.mk (Kd.R_below (Kd.R_below HO315.out bll) hb); have n1_ := Aside0.mk (Kd.R_below (Kd.R_below HO320.out bll) hb); have n2_ := Aside0.mk (Kd.R_below (Kd.R_below HO325.out bll) hb); have n3_ := Aside0.mk (below_step (bel) hb); clear HO315; clear HO320; clear HO325; clear HB; have HO315 := n0_; have HO320 := n1_; have HO325 := n2_; have HB := n3_; clear n0_ n1_ n2_ n3_; (try clear hb); obtain ⟨Ao68, co68, eo68⟩ := Kd.R_slice HO315.out; subst eo68))
                go_ret
                exact ⟨rtE, bel⟩
              · rw [if_neg c63] at H
                have c63b0 : ((t311.length : Int) == 0) = false := beq_eq_false_iff_ne.mpr c63
                have c63b1 : ((t311.length : Int) != 0) = true := bne_iff_ne.mpr c63
                have c63b2 : ¬ (t311 = []) := fun h_ => c63 (by rw [h_]; rfl)
                obtain rfl := Option.some.inj H
                go_wp2_with (first | ((with_reducible refine gate_callee (f := 18) rfl ?_); refine goesL_ (some 25) rfl rfl Try.func18 (by kernel_rfl) rfl #[.string a0, .int .i64 4] rfl gAr ?_; (with_reducible refine (frame_Split.calls kj2 a0 4 t311 t312 t313 _ A8.out).mono ?_); rintro e w69 ⟨v314, rfl, ho0, hb⟩; refine ⟨_, rfl, ?_⟩; have n0_ := Aside0.mk (Kd.R_lower ho0 bsz); have n1_ := Aside0.mk (below_step (bel) hb); clear HB; have HO315 := n0_; have HB := n1_; clear n0_ n1_; (try clear hb); (try clear ho0)) | ((with_reducible refine gate_callee (f := 18) rfl ?_); refine goesL_ (some 34) rfl rfl Try.func18 (by kernel_rfl) rfl #[.string a1, .int .i64 (wrap64 (4 + (a0.size : Int)))] rfl gAr ?_; (with_reducible refine (frame_Split.calls kj2 a1 (wrap64 (4 + (a0.size : Int))) t316 t317 t318 _ A9.out).mono ?_); rintro e w70 ⟨v319, rfl, ho0, hb⟩; refine ⟨_, rfl, ?_⟩; have n0_ := Aside0.mk (Kd.R_elder' (Kd.R_below HO315.out bll) (Kd.R_base ho0) hb); have n1_ := Aside0.mk (Kd.R_lower (Kd.R_new' ho0 (Kd.R_lt (Kd.R_below HO315.out bll))) bsz); have n2_ := Aside0.mk (below_step (bel) hb); clear HO315; clear HB; have HO315 := n0_; have HO320 := n1_; have HB := n2_; clear n0_ n1_ n2_; (try clear hb); (try clear ho0)) | ((with_reducible refine gate_callee (f := 18) rfl ?_); refine goesL_ (some 42) rfl rfl Try.func18 (by kernel_rfl) rfl #[.string (a0 ++ a1), .int .i64 4] rfl gAr ?_; (with_reducible refine (frame_Split.calls kj2 (a0 ++ a1) 4 t321 t322 t323 _ A11.out).mono ?_); rintro e w71 ⟨v324, rfl, ho0, hb⟩; refine ⟨_, rfl, ?_⟩; have n0_ := Aside0.mk (Kd.R_elder' (Kd.R_below HO315.out bll) (Kd.R_base ho0) hb); have n1_ := Aside0.mk (Kd.R_elder' (Kd.R_below HO320.out bll) (Kd.R_base ho0) hb); have n2_ := Aside0.mk (Kd.R_lower (Kd.R_new' (Kd.R_new' ho0 (Kd.R_lt (Kd.R_below HO315.out bll))) (Kd.R_lt (Kd.R_below HO320.out bll))) bsz); have n3_ := Aside0.mk (below_step (bel) hb); clear HO315; clear HO320; clear HB; have HO315 := n0_; have HO320 := n1_; have HO325 := n2_; have HB := n3_; clear n0_ n1_ n2_ n3_; (try clear hb); (try clear ho0)) | ((with_reducible refine gate_callee (f := 17) rfl ?_); refine goesL_ (some 48) rfl rfl Try.func17 (by kernel_rfl) rfl #[] rfl gAr ?_; (with_reducible refine (roadbooklaw18_awake.calls kj2  true _ A61.out).mono ?_); rintro e w72 ⟨rfl, hb⟩; refine ⟨_, rfl, ?_⟩; have n0_ := Aside0.mk (Kd.R_below (Kd.R_below HO315.out bll) hb); have n1_ := Aside0.mk (Kd.R_below (Kd.R_below HO320.out bll) hb); have n2_ := Aside0.mk (Kd.R_below (Kd.R_below HO325.out bll) hb); have n3_ := Aside0.mk (below_step (bel) hb); clear HO315; clear HO320; clear HO325; clear HB; have HO315 := n0_; have HO320 := n1_; have HO325 := n2_; have HB := n3_; clear n0_ n1_ n2_ n3_; (try clear hb); obtain ⟨Ao73, co73, eo73⟩ := Kd.R_slice HO315.out; subst eo73))
                go_ret
                exact ⟨rtE, bel⟩
            · replace c62 := Bool.eq_false_iff.mpr c62
              subst c62
              have H1 : (some false) = some r := by rw [if_neg (show ¬ (false = true) by decide)] at H; exact H
              clear H
              have H := H1
              clear H1
              obtain rfl := Option.some.inj H
              go_wp2_with (first | ((with_reducible refine gate_callee (f := 18) rfl ?_); refine goesL_ (some 25) rfl rfl Try.func18 (by kernel_rfl) rfl #[.string a0, .int .i64 4] rfl gAr ?_; (with_reducible refine (frame_Split.calls kj2 a0 4 t311 t312 t313 _ A8.out).mono ?_); rintro e w74 ⟨v314, rfl, ho0, hb⟩; refine ⟨_, rfl, ?_⟩; have n0_ := Aside0.mk (Kd.R_lower ho0 bsz); have n1_ := Aside0.mk (below_step (bel) hb); clear HB; have HO315 := n0_; have HB := n1_; clear n0_ n1_; (try clear hb); (try clear ho0)) | ((with_reducible refine gate_callee (f := 18) rfl ?_); refine goesL_ (some 34) rfl rfl Try.func18 (by kernel_rfl) rfl #[.string a1, .int .i64 (wrap64 (4 + (a0.size : Int)))] rfl gAr ?_; (with_reducible refine (frame_Split.calls kj2 a1 (wrap64 (4 + (a0.size : Int))) t316 t317 t318 _ A9.out).mono ?_); rintro e w75 ⟨v319, rfl, ho0, hb⟩; refine ⟨_, rfl, ?_⟩; have n0_ := Aside0.mk (Kd.R_elder' (Kd.R_below HO315.out bll) (Kd.R_base ho0) hb); have n1_ := Aside0.mk (Kd.R_lower (Kd.R_new' ho0 (Kd.R_lt (Kd.R_below HO315.out bll))) bsz); have n2_ := Aside0.mk (below_step (bel) hb); clear HO315; clear HB; have HO315 := n0_; have HO320 := n1_; have HB := n2_; clear n0_ n1_ n2_; (try clear hb); (try clear ho0)) | ((with_reducible refine gate_callee (f := 18) rfl ?_); refine goesL_ (some 42) rfl rfl Try.func18 (by kernel_rfl) rfl #[.string (a0 ++ a1), .int .i64 4] rfl gAr ?_; (with_reducible refine (frame_Split.calls kj2 (a0 ++ a1) 4 t321 t322 t323 _ A11.out).mono ?_); rintro e w76 ⟨v324, rfl, ho0, hb⟩; refine ⟨_, rfl, ?_⟩; have n0_ := Aside0.mk (Kd.R_elder' (Kd.R_below HO315.out bll) (Kd.R_base ho0) hb); have n1_ := Aside0.mk (Kd.R_elder' (Kd.R_below HO320.out bll) (Kd.R_base ho0) hb); have n2_ := Aside0.mk (Kd.R_lower (Kd.R_new' (Kd.R_new' ho0 (Kd.R_lt (Kd.R_below HO315.out bll))) (Kd.R_lt (Kd.R_below HO320.out bll))) bsz); have n3_ := Aside0.mk (below_step (bel) hb); clear HO315; clear HO320; clear HB; have HO315 := n0_; have HO320 := n1_; have HO325 := n2_; have HB := n3_; clear n0_ n1_ n2_ n3_; (try clear hb); (try clear ho0)) | ((with_reducible refine gate_callee (f := 17) rfl ?_); refine goesL_ (some 48) rfl rfl Try.func17 (by kernel_rfl) rfl #[] rfl gAr ?_; (with_reducible refine (roadbooklaw18_awake.calls kj2  false _ A61.out).mono ?_); rintro e w77 ⟨rfl, hb⟩; refine ⟨_, rfl, ?_⟩; have n0_ := Aside0.mk (Kd.R_below (Kd.R_below HO315.out bll) hb); have n1_ := Aside0.mk (Kd.R_below (Kd.R_below HO320.out bll) hb); have n2_ := Aside0.mk (Kd.R_below (Kd.R_below HO325.out bll) hb); have n3_ := Aside0.mk (below_step (bel) hb); clear HO315; clear HO320; clear HO325; clear HB; have HO315 := n0_; have HO320 := n1_; have HO325 := n2_; have HB := n3_; clear n0_ n1_ n2_ n3_; (try clear hb)))
              go_ret
              exact ⟨rtE, bel⟩
        · rw [if_neg c10] at H
          exact absurd H (by simp)

/-- THE ONE PURE STATEMENT of roadbooklaw18_FrameJoins. -/
def roadbooklaw18_FrameJoins.Pure : Prop := ∀ (a0 : ByteArray) (a1 : ByteArray), a0.size ≤ 140737488351232 → a1.size ≤ 140737488351232 → ∃ k, roadbooklaw18_FrameJoins.f k a0 a1 = some true
theorem roadbooklaw18_FrameJoins.walk (P : roadbooklaw18_FrameJoins.Pure) (a0 : ByteArray) (a1 : ByteArray) (w : World) (g0 : a0.size ≤ 140737488351232) (g1 : a1.size ≤ 140737488351232) :
    Calls Try.prog 5 #[.string a0, .string a1] w fun e w' => e = .returned (.bool true) ∧ Below w.heap.size w w' := by
  obtain ⟨k, h⟩ := P a0 a1 g0 g1
  refine (roadbooklaw18_FrameJoins.calls k a0 a1 true w h).mono ?_
  rintro e w' ⟨rfl, hd⟩
  exact ⟨rfl, hd⟩

/-! ### roadbookref18_Body: function 21 -/
def roadbookref18_Body.f (a0 : ByteArray) : Option (ByteArray × Int × Int) := if (a0.size : Int) > 65535 then (some ((⟨#[]⟩ : ByteArray), 65535, 10)) else (if (a0.size : Int) < 4 then (some ((⟨#[]⟩ : ByteArray), (a0.size : Int), 2)) else (if 0 < (a0.size : Int) then (if (bt a0 0) = 42 then (if 1 < (a0.size : Int) then (if (bt a0 1) = 2 then (if 2 < (a0.size : Int) then (if 3 < (a0.size : Int) then (if (a0.size : Int) < (wrap64 (4 + (wrap64 ((wrap64 (256 * (wrap64 (bt a0 2)))) + (wrap64 (bt a0 3)))))) then (some ((⟨#[]⟩ : ByteArray), (a0.size : Int), 2)) else (if 4 ≤ (wrap64 (4 + (wrap64 ((wrap64 (256 * (wrap64 (bt a0 2)))) + (wrap64 (bt a0 3)))))) then (if (wrap64 (4 + (wrap64 ((wrap64 (256 * (wrap64 (bt a0 2)))) + (wrap64 (bt a0 3)))))) ≤ (a0.size : Int) then (some (a0.extract 4 ((wrap64 (4 + (wrap64 ((wrap64 (256 * (wrap64 (bt a0 2)))) + (wrap64 (bt a0 3)))))) : Int).toNat, 0, 0)) else (none)) else (none))) else (none)) else (none)) else (some ((⟨#[]⟩ : ByteArray), 1, 4))) else (none)) else (some ((⟨#[]⟩ : ByteArray), 0, 4))) else (none)))
set_option maxHeartbeats 8000000 in
set_option maxRecDepth 100000 in
theorem roadbookref18_Body.calls (a0 : ByteArray) (r1 : ByteArray) (r2 : Int) (r3 : Int) (w : World) (h : roadbookref18_Body.f a0 = some (r1, r2, r3)) :
    Calls Try.prog 21 #[.string a0] w fun e w' => e = .returned (.tuple #[.string r1, .int .i64 r2, .int .i64 r3]) ∧ Drawn0 w w' := by
  have H : (if (a0.size : Int) > 65535 then (some ((⟨#[]⟩ : ByteArray), 65535, 10)) else (if (a0.size : Int) < 4 then (some ((⟨#[]⟩ : ByteArray), (a0.size : Int), 2)) else (if 0 < (a0.size : Int) then (if (bt a0 0) = 42 then (if 1 < (a0.size : Int) then (if (bt a0 1) = 2 then (if 2 < (a0.size : Int) then (if 3 < (a0.size : Int) then (if (a0.size : Int) < (wrap64 (4 + (wrap64 ((wrap64 (256 * (wrap64 (bt a0 2)))) + (wrap64 (bt a0 3)))))) then (some ((⟨#[]⟩ : ByteArray), (a0.size : Int), 2)) else (if 4 ≤ (wrap64 (4 + (wrap64 ((wrap64 (256 * (wrap64 (bt a0 2)))) + (wrap64 (bt a0 3)))))) then (if (wrap64 (4 + (wrap64 ((wrap64 (256 * (wrap64 (bt a0 2)))) + (wrap64 (bt a0 3)))))) ≤ (a0.size : Int) then (some (a0.extract 4 ((wrap64 (4 + (wrap64 ((wrap64 (256 * (wrap64 (bt a0 2)))) + (wrap64 (bt a0 3)))))) : Int).toNat, 0, 0)) else (none)) else (none))) else (none)) else (none)) else (some ((⟨#[]⟩ : ByteArray), 1, 4))) else (none)) else (some ((⟨#[]⟩ : ByteArray), 0, 4))) else (none)))) = some (r1, r2, r3) := h
  clear h
  by_cases c2 : (a0.size : Int) > 65535
  · rw [if_pos c2] at H
    have c2b0 : decide (65535 < (a0.size : Int)) = true := decide_eq_true c2
    have c2b1 : decide (65535 < a0.size) = true := decide_eq_true (by omega)
    clear c2
    simp only [Option.some.injEq, Prod.mk.injEq] at H
    obtain ⟨rfl, rfl, rfl⟩ := H
    go_enter Try.func21, Try.ntmps21
    go_wp2
    repeat (go_quiet (fail); try go_wp2)
    go_ret3
    exact ⟨rfS, by repeat (first | exact Drawn0.refl _ | apply Drawn0.step)⟩
  · rw [if_neg c2] at H
    have c2b0 : decide (65535 < (a0.size : Int)) = false := decide_eq_false c2
    have c2b1 : decide (65535 < a0.size) = false := decide_eq_false (by omega)
    clear c2
    by_cases c3 : (a0.size : Int) < 4
    · rw [if_pos c3] at H
      have c3b0 : decide ((a0.size : Int) < 4) = true := decide_eq_true c3
      have c3b1 : decide (a0.size < 4) = true := decide_eq_true (by omega)
      clear c3
      simp only [Option.some.injEq, Prod.mk.injEq] at H
      obtain ⟨rfl, rfl, rfl⟩ := H
      go_enter Try.func21, Try.ntmps21
      go_wp2
      repeat (go_quiet (fail); try go_wp2)
      go_ret3
      exact ⟨rfS, by repeat (first | exact Drawn0.refl _ | apply Drawn0.step)⟩
    · rw [if_neg c3] at H
      have c3b0 : decide ((a0.size : Int) < 4) = false := decide_eq_false c3
      have c3b1 : decide (a0.size < 4) = false := decide_eq_false (by omega)
      clear c3
      by_cases c4 : 0 < (a0.size : Int)
      · rw [if_pos c4] at H
        have c4b0 : decide (0 < (a0.size : Int)) = true := decide_eq_true c4
        have c4b1 : decide (0 < a0.size) = true := decide_eq_true (by omega)
        clear c4
        by_cases c6 : (bt a0 0) = 42
        · rw [if_pos c6] at H
          have c6b0 : ((bt a0 0) == 42) = true := beq_iff_eq.mpr c6
          have c6b1 : ((bt a0 0) != 42) = false := bne_eq_false_iff_eq.mpr c6
          clear c6
          by_cases c7 : 1 < (a0.size : Int)
          · rw [if_pos c7] at H
            have c7b0 : decide (1 < (a0.size : Int)) = true := decide_eq_true c7
            have c7b1 : decide (1 < a0.size) = true := decide_eq_true (by omega)
            clear c7
            by_cases c9 : (bt a0 1) = 2
            · rw [if_pos c9] at H
              have c9b0 : ((bt a0 1) == 2) = true := beq_iff_eq.mpr c9
              have c9b1 : ((bt a0 1) != 2) = false := bne_eq_false_iff_eq.mpr c9
              clear c9
              by_cases c10 : 2 < (a0.size : Int)
              · rw [if_pos c10] at H
                have c10b0 : decide (2 < (a0.size : Int)) = true := decide_eq_true c10
                have c10b1 : decide (2 < a0.size) = true := decide_eq_true (by omega)
                clear c10
                by_cases c12 : 3 < (a0.size : Int)
                · rw [if_pos c12] at H
                  have c12b0 : decide (3 < (a0.size : Int)) = true := decide_eq_true c12
                  have c12b1 : decide (3 < a0.size) = true := decide_eq_true (by omega)
                  clear c12
                  by_cases c14 : (a0.size : Int) < (wrap64 (4 + (wrap64 ((wrap64 (256 * (wrap64 (bt a0 2)))) + (wrap64 (bt a0 3))))))
                  · rw [if_pos c14] at H
                    have c14b0 : decide ((a0.size : Int) < (wrap64 (4 + (wrap64 ((wrap64 (256 * (wrap64 (bt a0 2)))) + (wrap64 (bt a0 3))))))) = true := decide_eq_true c14
                    clear c14
                    simp only [Option.some.injEq, Prod.mk.injEq] at H
                    obtain ⟨rfl, rfl, rfl⟩ := H
                    have p5 : 0 ≤ (0 : Int) := (by omega)
                    have q5 : 0 < a0.size := (by have : (0 : Int) < (a0.size : Int) := odt; omega)
                    have hx5 : ∀ h : 0 < a0.size, ((a0[0]'h).toNat : Int) = bt a0 0 := bt_at a0 0
                    clear p5
                    have qi5 : (0 < (a0.size : Int)) = True := eq_true (odt)
                    replace q5 := eq_true q5
                    have p8 : 0 ≤ (1 : Int) := (by omega)
                    have q8 : 1 < a0.size := (by have : (1 : Int) < (a0.size : Int) := odt; omega)
                    have hx8 : ∀ h : 1 < a0.size, ((a0[1]'h).toNat : Int) = bt a0 1 := bt_at a0 1
                    clear p8
                    have qi8 : (1 < (a0.size : Int)) = True := eq_true (odt)
                    replace q8 := eq_true q8
                    have p11 : 0 ≤ (2 : Int) := (by omega)
                    have q11 : 2 < a0.size := (by have : (2 : Int) < (a0.size : Int) := odt; omega)
                    have hx11 : ∀ h : 2 < a0.size, ((a0[2]'h).toNat : Int) = bt a0 2 := bt_at a0 2
                    clear p11
                    have qi11 : (2 < (a0.size : Int)) = True := eq_true (odt)
                    replace q11 := eq_true q11
                    have p13 : 0 ≤ (3 : Int) := (by omega)
                    have q13 : 3 < a0.size := (by have : (3 : Int) < (a0.size : Int) := odt; omega)
                    have hx13 : ∀ h : 3 < a0.size, ((a0[3]'h).toNat : Int) = bt a0 3 := bt_at a0 3
                    clear p13
                    have qi13 : (3 < (a0.size : Int)) = True := eq_true (odt)
                    replace q13 := eq_true q13
                    go_enter Try.func21, Try.ntmps21
                    go_wp2
                    repeat (go_quiet (fail); try go_wp2)
                    go_ret3
                    exact ⟨rfS, by repeat (first | exact Drawn0.refl _ | apply Drawn0.step)⟩
                  · rw [if_neg c14] at H
                    have c14b0 : decide ((a0.size : Int) < (wrap64 (4 + (wrap64 ((wrap64 (256 * (wrap64 (bt a0 2)))) + (wrap64 (bt a0 3))))))) = false := decide_eq_false c14
                    clear c14
                    by_cases c15 : 4 ≤ (wrap64 (4 + (wrap64 ((wrap64 (256 * (wrap64 (bt a0 2)))) + (wrap64 (bt a0 3))))))
                    · rw [if_pos c15] at H
                      have c15b0 := eq_true c15
                      have c15b1 : decide (4 ≤ (wrap64 (4 + (wrap64 ((wrap64 (256 * (wrap64 (bt a0 2)))) + (wrap64 (bt a0 3))))))) = true := decide_eq_true c15
                      by_cases c16 : (wrap64 (4 + (wrap64 ((wrap64 (256 * (wrap64 (bt a0 2)))) + (wrap64 (bt a0 3)))))) ≤ (a0.size : Int)
                      · rw [if_pos c16] at H
                        have c16b0 := eq_true c16
                        have c16b1 : decide ((wrap64 (4 + (wrap64 ((wrap64 (256 * (wrap64 (bt a0 2)))) + (wrap64 (bt a0 3)))))) ≤ (a0.size : Int)) = true := decide_eq_true c16
                        simp only [Option.some.injEq, Prod.mk.injEq] at H
                        obtain ⟨rfl, rfl, rfl⟩ := H
                        have p5 : 0 ≤ (0 : Int) := (by omega)
                        have q5 : 0 < a0.size := (by have : (0 : Int) < (a0.size : Int) := odt; omega)
                        have hx5 : ∀ h : 0 < a0.size, ((a0[0]'h).toNat : Int) = bt a0 0 := bt_at a0 0
                        clear p5
                        have qi5 : (0 < (a0.size : Int)) = True := eq_true (odt)
                        replace q5 := eq_true q5
                        have p8 : 0 ≤ (1 : Int) := (by omega)
                        have q8 : 1 < a0.size := (by have : (1 : Int) < (a0.size : Int) := odt; omega)
                        have hx8 : ∀ h : 1 < a0.size, ((a0[1]'h).toNat : Int) = bt a0 1 := bt_at a0 1
                        clear p8
                        have qi8 : (1 < (a0.size : Int)) = True := eq_true (odt)
                        replace q8 := eq_true q8
                        have p11 : 0 ≤ (2 : Int) := (by omega)
                        have q11 : 2 < a0.size := (by have : (2 : Int) < (a0.size : Int) := odt; omega)
                        have hx11 : ∀ h : 2 < a0.size, ((a0[2]'h).toNat : Int) = bt a0 2 := bt_at a0 2
                        clear p11
                        have qi11 : (2 < (a0.size : Int)) = True := eq_true (odt)
                        replace q11 := eq_true q11
                        have p13 : 0 ≤ (3 : Int) := (by omega)
                        have q13 : 3 < a0.size := (by have : (3 : Int) < (a0.size : Int) := odt; omega)
                        have hx13 : ∀ h : 3 < a0.size, ((a0[3]'h).toNat : Int) = bt a0 3 := bt_at a0 3
                        clear p13
                        have qi13 : (3 < (a0.size : Int)) = True := eq_true (odt)
                        replace q13 := eq_true q13
                        go_enter Try.func21, Try.ntmps21
                        go_wp2
                        repeat (go_quiet (fail); try go_wp2)
                        go_ret3
                        exact ⟨rfS, by repeat (first | exact Drawn0.refl _ | apply Drawn0.step)⟩
                      · rw [if_neg c16] at H
                        exact absurd H (by simp)
                    · rw [if_neg c15] at H
                      exact absurd H (by simp)
                · rw [if_neg c12] at H
                  exact absurd H (by simp)
              · rw [if_neg c10] at H
                exact absurd H (by simp)
            · rw [if_neg c9] at H
              have c9b0 : ((bt a0 1) == 2) = false := beq_eq_false_iff_ne.mpr c9
              have c9b1 : ((bt a0 1) != 2) = true := bne_iff_ne.mpr c9
              simp only [Option.some.injEq, Prod.mk.injEq] at H
              obtain ⟨rfl, rfl, rfl⟩ := H
              have p5 : 0 ≤ (0 : Int) := (by omega)
              have q5 : 0 < a0.size := (by have : (0 : Int) < (a0.size : Int) := odt; omega)
              have hx5 : ∀ h : 0 < a0.size, ((a0[0]'h).toNat : Int) = bt a0 0 := bt_at a0 0
              clear p5
              have qi5 : (0 < (a0.size : Int)) = True := eq_true (odt)
              replace q5 := eq_true q5
              have p8 : 0 ≤ (1 : Int) := (by omega)
              have q8 : 1 < a0.size := (by have : (1 : Int) < (a0.size : Int) := odt; omega)
              have hx8 : ∀ h : 1 < a0.size, ((a0[1]'h).toNat : Int) = bt a0 1 := bt_at a0 1
              clear p8
              have qi8 : (1 < (a0.size : Int)) = True := eq_true (odt)
              replace q8 := eq_true q8
              go_enter Try.func21, Try.ntmps21
              go_wp2
              repeat (go_quiet (fail); try go_wp2)
              go_ret3
              exact ⟨rfS, by repeat (first | exact Drawn0.refl _ | apply Drawn0.step)⟩
          · rw [if_neg c7] at H
            exact absurd H (by simp)
        · rw [if_neg c6] at H
          have c6b0 : ((bt a0 0) == 42) = false := beq_eq_false_iff_ne.mpr c6
          have c6b1 : ((bt a0 0) != 42) = true := bne_iff_ne.mpr c6
          simp only [Option.some.injEq, Prod.mk.injEq] at H
          obtain ⟨rfl, rfl, rfl⟩ := H
          have p5 : 0 ≤ (0 : Int) := (by omega)
          have q5 : 0 < a0.size := (by have : (0 : Int) < (a0.size : Int) := odt; omega)
          have hx5 : ∀ h : 0 < a0.size, ((a0[0]'h).toNat : Int) = bt a0 0 := bt_at a0 0
          clear p5
          have qi5 : (0 < (a0.size : Int)) = True := eq_true (odt)
          replace q5 := eq_true q5
          go_enter Try.func21, Try.ntmps21
          go_wp2
          repeat (go_quiet (fail); try go_wp2)
          go_ret3
          exact ⟨rfS, by repeat (first | exact Drawn0.refl _ | apply Drawn0.step)⟩
      · rw [if_neg c4] at H
        exact absurd H (by simp)

/-! ### roadbookref02_Of: function 48 -/
def roadbookref02_Of.f (k : Nat) (a0 : Int) (a1 : Int) : Option (ByteArray) := (roadbookref02_Put.f k a0 a1).bind fun bt339 => (some bt339.1)
theorem roadbookref02_Of.mono : ∀ a0 a1 k, LeO (roadbookref02_Of.f k a0 a1) (roadbookref02_Of.f (k + 1) a0 a1) := by
  intro a0 a1 k
  unfold roadbookref02_Of.f
  repeat' first
      | (with_reducible exact roadbookref02_Put.mono _ _ _)
      | (with_reducible exact LeO.refl _)
      | (with_reducible exact LeO.none _)
      | (with_reducible refine LeO.ite ?_ ?_)
      | (with_reducible refine LeO.bind ?_ (fun _ => ?_))
      | exact roadbookref02_Put.mono _ _ _
      | exact LeO.none _
      | refine LeO.ite ?_ ?_
      | refine LeO.bind ?_ (fun _ => ?_)
set_option maxHeartbeats 8000000 in
set_option maxRecDepth 100000 in
theorem roadbookref02_Of.calls (k : Nat) (a0 : Int) (a1 : Int) (r : ByteArray) (w : World) (h : roadbookref02_Of.f k a0 a1 = some r) :
    Calls Try.prog 48 #[.int .i64 a0, .int .i64 a1] w fun e w' => e = .returned (.string r) ∧ Below w.heap.size w w' := by
  have HB := Aside0.mk (Below.refl w.heap.size w)
  have H : ((roadbookref02_Put.f k a0 a1).bind fun bt339 => (some bt339.1)) = some r := h
  clear h
  replace H := Option.bind_eq_some_iff.mp H
  obtain ⟨⟨t339, t340⟩, A30, H⟩ := H
  replace H : (some t339) = some r := H
  have A3 := Aside0.mk A30
  clear A30
  obtain rfl := Option.some.inj H
  go_enter Try.func48, Try.ntmps48
  go_wp2_with (first | ((with_reducible refine gate_callee (f := 44) rfl ?_); refine goesL_ (some 10) rfl rfl Try.func44 (by kernel_rfl) rfl #[.int .i64 a0, .int .i64 a1] rfl gAr ?_; (with_reducible refine (roadbookref02_Put.calls k a0 a1 t339 t340 _ A3.out).mono ?_); rintro e w4 ⟨rfl, hb⟩; refine ⟨_, rfl, ?_⟩; have n0_ := Aside0.mk (below_step (bel) hb); clear HB; have HB := n0_; clear n0_; (try clear hb)))
  go_ret
  exact ⟨rtE, bel⟩

end Go.Proofs.Ytjgnpggpgkkknaa.Pr
