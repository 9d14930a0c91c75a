-- Written by wip/tools/xprint.py of this repo over the kit's printer, out of the translation. Lean checks it.
import Derived.Test.YtjgnpggpgkkknaaPr0
import Derived.Test.YtjgnpggpgkkknaaPr4
import Derived.Test.YtjgnpggpgkkknaaPr12
import Derived.Test.YtjgnpggpgkkknaaPr14
namespace Go.Proofs.Ytjgnpggpgkkknaa.Pr
open Go.RowKit Go.Proofs.YtjgnpggpgkkknaaW.PrintWords Go.Proofs.YtjgnpggpgkkknaaW.PrintLast
set_option linter.unusedVariables false
set_option linter.unusedSimpArgs false

attribute [local go_sem high] eqA88
/-! ### roadbookref19_Get: function 34 -/
def roadbookref19_Get.l0 : Nat → List (S47) → List (S78) → Bool → Int → Option ((List (S78)) × Bool × Int)
  | 0, _, _, _, _ => none
  | k + 1, x5, x8, x9, x10 => if x10 < (x5.length : Int) then (if 0 ≤ x10 then (if ((rd_T47 x5 x10).f0) ≥ 2 then (if ((rd_T47 x5 x10).f0) ≤ 127 then (if x8.length < 5864062014805 then ((some (x8 ++ [(⟨(rd_T47 x5 x10).f0, (rd_T47 x5 x10).f2⟩ : S78)] : List (S78))).bind fun y471 => (if x9 = true then (roadbookref19_Get.l0 k x5 y471 (decide (((rd_T47 x5 x10).f0) ≤ 127)) (wrap64 (x10 + 1))) else (roadbookref19_Get.l0 k x5 y471 false (wrap64 (x10 + 1))))) else (none)) else (if x9 = true then (roadbookref19_Get.l0 k x5 x8 (decide (((rd_T47 x5 x10).f0) ≤ 127)) (wrap64 (x10 + 1))) else (roadbookref19_Get.l0 k x5 x8 false (wrap64 (x10 + 1))))) else (if x9 = true then (roadbookref19_Get.l0 k x5 x8 (decide (((rd_T47 x5 x10).f0) ≤ 127)) (wrap64 (x10 + 1))) else (roadbookref19_Get.l0 k x5 x8 false (wrap64 (x10 + 1))))) else (none)) else ((roadbookref07_Bytes.f k x8).bind fun t477 => (if t477 > 200 then (some (([] : List (S78)), false, 10)) else (some (x8, x9, 0))))
def roadbookref19_Get.f (k : Nat) (a0 : ByteArray) : Option ((List (S78)) × Bool × Int) := (roadbookref18_Split.f k a0 0).bind fun bt462 => (if bt462.2.2 = 0 then (roadbookref19_Get.l0 k bt462.1 ([] : List (S78)) true 0) else (some (([] : List (S78)), false, bt462.2.2)))
theorem roadbookref19_Get.mono_l : ∀ k, (∀ y0 y1 y2 y3, LeO (roadbookref19_Get.l0 k y0 y1 y2 y3) (roadbookref19_Get.l0 (k + 1) y0 y1 y2 y3))
  | 0 => fun _ _ _ _ r h => by simp [roadbookref19_Get.l0] at h
  | k + 1 => by
    have ih0 := roadbookref19_Get.mono_l k
    · intro y0 y1 y2 y3
      unfold roadbookref19_Get.l0
      repeat' first
      | (with_reducible exact ih0 _ _ _ _)
      | (with_reducible exact roadbookref07_Bytes.mono _ _)
      | (with_reducible exact roadbookref18_Split.mono _ _ _)
      | (with_reducible exact LeO.refl _)
      | (with_reducible exact LeO.none _)
      | (with_reducible refine LeO.ite ?_ ?_)
      | (with_reducible refine LeO.bind ?_ (fun _ => ?_))
      | exact ih0 _ _ _ _
      | exact roadbookref07_Bytes.mono _ _
      | exact roadbookref18_Split.mono _ _ _
      | exact LeO.none _
      | refine LeO.ite ?_ ?_
      | refine LeO.bind ?_ (fun _ => ?_)
theorem roadbookref19_Get.mono : ∀ a0 k, LeO (roadbookref19_Get.f k a0) (roadbookref19_Get.f (k + 1) a0) := by
  intro a0 k
  have ih0 := roadbookref19_Get.mono_l k
  unfold roadbookref19_Get.f
  repeat' first
      | (with_reducible exact ih0 _ _ _ _)
      | (with_reducible exact roadbookref07_Bytes.mono _ _)
      | (with_reducible exact roadbookref18_Split.mono _ _ _)
      | (with_reducible exact LeO.refl _)
      | (with_reducible exact LeO.none _)
      | (with_reducible refine LeO.ite ?_ ?_)
      | (with_reducible refine LeO.bind ?_ (fun _ => ?_))
      | exact ih0 _ _ _ _
      | exact roadbookref07_Bytes.mono _ _
      | exact roadbookref18_Split.mono _ _ _
      | exact LeO.none _
      | refine LeO.ite ?_ ?_
      | refine LeO.bind ?_ (fun _ => ?_)
def roadbookref19_Get.T10 : Bool × List (List Nat × List Nat) := (true, [([], []), ([], []), ([], []), ([1, 2], [1, 2]), ([3], [3]), ([4], [4]), ([], []), ([], []), ([6, 7], [6, 7]), ([8], [8]), ([9], [9]), ([5, 10], [5, 10]), ([11], [11]), ([0, 12], [0, 12]), ([13, 13, 0, 1, 2, 3, 4, 5, 6, 7, 8, 9, 10, 11, 12, 13], [0, 13])])
def roadbookref19_Get.B10 : List Nat := [0, 0, 0, 6, 14, 30, 0, 0, 192, 448, 960, 2046, 4094, 8191, 16383]
theorem roadbookref19_Get.tab10 : rtab .any (opsOf Try.f34 10) = roadbookref19_Get.T10 := by kernel_rfl
theorem roadbookref19_Get.bits10 : waitsOk roadbookref19_Get.T10.2 roadbookref19_Get.B10 = true := by kernel_rfl
set_option maxHeartbeats 8000000 in
set_option maxRecDepth 100000 in
theorem roadbookref19_Get.calls (k : Nat) (a0 : ByteArray) (r1 : List (S78)) (r2 : Bool) (r3 : Int) (w : World) (h : roadbookref19_Get.f k a0 = some (r1, r2, r3)) :
    Calls Try.prog 34 #[.string a0] w fun e w' => ∃ v0_ : Value, e = .returned (.tuple #[v0_, .bool r2, .int .i64 r3]) ∧ Kd.R k78 78 w' w.heap.size (fun _ => True) v0_ r1 ∧ Below w.heap.size w w' := by
  have hu78 := Try.underlying78
  have HB := Aside0.mk (Below.refl w.heap.size w)
  have H : ((roadbookref18_Split.f k a0 0).bind fun bt462 => (if bt462.2.2 = 0 then (roadbookref19_Get.l0 k bt462.1 ([] : List (S78)) true 0) else (some (([] : List (S78)), false, bt462.2.2)))) = some (r1, r2, r3) := h
  clear h
  replace H := Option.bind_eq_some_iff.mp H
  obtain ⟨⟨t462, t463, t464⟩, A20, H⟩ := H
  replace H : (if t464 = 0 then (roadbookref19_Get.l0 k t462 ([] : List (S78)) true 0) else (some (([] : List (S78)), false, t464))) = some (r1, r2, r3) := H
  have A2 := Aside0.mk A20
  clear A20
  by_cases c3 : t464 = 0
  · rw [if_pos c3] at H
    have c3b0 : (t464 == 0) = true := beq_iff_eq.mpr c3
    have c3b1 : (t464 != 0) = false := bne_eq_false_iff_eq.mpr c3
    clear c3
    have H' := Aside0.mk H
    clear H
    go_enter Try.func34, Try.ntmps34
    go_wp2_with (first | ((with_reducible refine gate_callee (f := 26) rfl ?_); refine goesL_ (some 13) rfl rfl Try.func26 (by kernel_rfl) rfl #[.string a0, .int .i64 0] rfl gAr ?_; (with_reducible refine (roadbookref18_Split.calls k a0 0 t462 t463 t464 _ A2.out).mono ?_); rintro e w4 ⟨v465, rfl, ho0, hb⟩; refine ⟨_, rfl, ?_⟩; have n0_ := Aside0.mk (Kd.R_lower ho0 bsz); have n1_ := Aside0.mk (below_step (bel) hb); clear HB; have HO466 := n0_; have HB := n1_; clear n0_ n1_; (try clear hb); (try clear ho0)))
    go_loopg [8, 9, 10] k (fun kq v8 v9 v10 w' => ∃ (x8_1 : List (S78)) (x9_1 : Bool) (x10_1 : Int), v9 = .bool x9_1 ∧ v10 = .int .i64 x10_1 ∧ Aside0 (roadbookref19_Get.l0 kq t462 x8_1 x9_1 x10_1 = some (r1, r2, r3)) ∧ Aside0 (kq ≤ k) ∧ Aside0 (Kd.R k47 47 w' w.heap.size (fun _ => True) v465 t462) ∧ Aside0 (Kd.R k78 78 w' w.heap.size (fun _ => True) v8 x8_1) ∧ Aside0 (Below w.heap.size w w'))
    case atStart => exact ⟨(([] : List (S78))), (true), (0), rfS, rfS, H', ⟨Nat.le_refl _⟩, ⟨Kd.R_below HO466.out bll⟩, ⟨by first | exact Kd.R_nil _ _ _ _ _ | exact Kd.N_nil _ _ _ _ _ | exact Kd.V_nil _ _ _ _ _ | exact Kd.Q_nil _ _ _ _ _ | exact Kd.S_nil _ _ _ _ _⟩, ⟨bel⟩⟩
    case round =>
      clear H'
      try clear c3
      try clear c3b0
      try clear c3b1
      obtain ⟨x8_1, x9_1, x10_1, rfl, rfl, HA, HK1, HO_5, HO_8, HB⟩ := hrel
      cases gk with
      | zero => exact absurd HA.out (by simp [roadbookref19_Get.l0])
      | succ k1 =>
        have H := HA.out
        clear HA
        simp only [roadbookref19_Get.l0] at H
        by_cases c5 : x10_1 < (t462.length : Int)
        · rw [if_pos c5] at H
          have c5b0 : decide (x10_1 < (t462.length : Int)) = true := decide_eq_true c5
          clear c5
          by_cases c6 : 0 ≤ x10_1
          · rw [if_pos c6] at H
            have c6b0 : decide (0 ≤ x10_1) = true := decide_eq_true c6
            clear c6
            by_cases c7 : ((rd_T47 t462 x10_1).f0) ≥ 2
            · rw [if_pos c7] at H
              have c7b0 : decide (2 ≤ ((rd_T47 t462 x10_1).f0)) = true := decide_eq_true c7
              clear c7
              by_cases c8 : ((rd_T47 t462 x10_1).f0) ≤ 127
              · rw [if_pos c8] at H
                have c8b0 : decide (((rd_T47 t462 x10_1).f0) ≤ 127) = true := decide_eq_true c8
                clear c8
                by_cases c9 : x8_1.length < 5864062014805
                · rw [if_pos c9] at H
                  have LMc9 := Aside0.mk c9
                  clear c9
                  obtain ⟨y471, hy471⟩ : ∃ y_ : List (S78), y_ = (x8_1 ++ [(⟨(rd_T47 t462 x10_1).f0, (rd_T47 t462 x10_1).f2⟩ : S78)]) := ⟨_, rfl⟩
                  replace H : (if x9_1 = true then (roadbookref19_Get.l0 k1 t462 y471 (decide (((rd_T47 t462 x10_1).f0) ≤ 127)) (wrap64 (x10_1 + 1))) else (roadbookref19_Get.l0 k1 t462 y471 false (wrap64 (x10_1 + 1)))) = some (r1, r2, r3) := by first | (rw [hy471]; with_reducible exact H) | (have H2_ := (Option.bind_some _ _).symm.trans H; rw [hy471]; with_reducible exact H2_) | (have H2_ := (Option.bind_some _ _).symm.trans H; with_reducible exact H2_) | with_reducible exact H | (rw [hy471]; exact H) | exact H
                  have Ny471 := Aside0.mk hy471
                  clear hy471
                  by_cases c10 : x9_1 = true
                  · subst c10
                    have H1 : (roadbookref19_Get.l0 k1 t462 y471 (decide (((rd_T47 t462 x10_1).f0) ≤ 127)) (wrap64 (x10_1 + 1))) = some (r1, r2, r3) := by rw [if_pos rfl] at H; exact H
                    clear H
                    have H := H1
                    clear H1
                    have H' := Aside0.mk H
                    clear H
                    obtain ⟨Ao11, co11, eo11⟩ := Kd.R_slice HO_5.out
                    subst eo11
                    have p467 : 0 ≤ (x10_1 : Int) := odt
                    have q467 : x10_1 < (t462.length : Int) := odt
                    obtain ⟨ad467, e467, hx467_0, hx467_1, hx467_2⟩ := at_T47 (Kd.R_reads' HO_5.out).2.2 x10_1 p467 q467
                    cases e467
                    replace p467 := eq_true p467
                    replace q467 := eq_true q467
                    have p468 : 0 ≤ (x10_1 : Int) := odt
                    have q468 : x10_1 < (t462.length : Int) := odt
                    obtain ⟨ad468, e468, hx468_0, hx468_1, hx468_2⟩ := at_T47 (Kd.R_reads' HO_5.out).2.2 x10_1 p468 q468
                    obtain rfl : ad467 = ad468 := (by injection e468)
                    replace p468 := eq_true p468
                    replace q468 := eq_true q468
                    try go_wp2
                    have n0_ := Aside0.mk (Kd.R_drew HO_5.out)
                    have n1_ := Aside0.mk (Kd.R_drew HO_8.out)
                    have n2_ := Aside0.mk (below_drew1 HB.out)
                    clear HO_5
                    clear HO_8
                    clear HB
                    have HO_5 := n0_
                    have HO_8 := n1_
                    have HB := n2_
                    clear n0_ n1_ n2_
                    have p469 : 0 ≤ (x10_1 : Int) := odt
                    have q469 : x10_1 < (t462.length : Int) := odt
                    obtain ⟨ad469, e469, hx469_0, hx469_1, hx469_2⟩ := at_T47 (Kd.R_reads' HO_5.out).2.2 x10_1 p469 q469
                    obtain rfl : ad467 = ad469 := (by injection e469)
                    replace p469 := eq_true p469
                    replace q469 := eq_true q469
                    have p470 : 0 ≤ (x10_1 : Int) := odt
                    have q470 : x10_1 < (t462.length : Int) := odt
                    obtain ⟨ad470, e470, hx470_0, hx470_1, hx470_2⟩ := at_T47 (Kd.R_reads' HO_5.out).2.2 x10_1 p470 q470
                    obtain rfl : ad467 = ad470 := (by injection e470)
                    replace p470 := eq_true p470
                    replace q470 := eq_true q470
                    refine start_ (n := 15) (S := fun w' => w'.cell? (ad467.add ((x10_1).toNat * 3)) = some (.int .i64 ((rd_T47 t462 x10_1).f0)) ∧ w'.cell? ⟨(ad467.add ((x10_1).toNat * 3)).block, (ad467.add ((x10_1).toNat * 3)).off + 1, none⟩ = some (.int .i64 ((rd_T47 t462 x10_1).f1)) ∧ w'.cell? ⟨(ad467.add ((x10_1).toNat * 3)).block, (ad467.add ((x10_1).toNat * 3)).off + 2, none⟩ = some (.string ((rd_T47 t462 x10_1).f2)) ∧ w'.cell? (ad467.add ((x10_1).toNat * 3)) = some (.int .i64 ((rd_T47 t462 x10_1).f0)) ∧ w'.cell? ⟨(ad467.add ((x10_1).toNat * 3)).block, (ad467.add ((x10_1).toNat * 3)).off + 1, none⟩ = some (.int .i64 ((rd_T47 t462 x10_1).f1)) ∧ w'.cell? ⟨(ad467.add ((x10_1).toNat * 3)).block, (ad467.add ((x10_1).toNat * 3)).off + 2, none⟩ = some (.string ((rd_T47 t462 x10_1).f2))) (ds := [12, 13]) #[false, false, false, false, false, false, false, false, false, false, false, false, false, false, false] (by kernel_rfl) rfl rfl ⟨hx469_0, hx469_1, hx469_2, hx470_0, hx470_1, hx470_2⟩ (fun hHeld => ?_); refine with_tabW roadbookref19_Get.tab10 roadbookref19_Get.bits10 (fun HT_ HW_ => ?_)
                    generalize wr.drew = w12 at HO_5 HO_8 HB hx469_0 hx469_1 hx469_2 hx470_0 hx470_1 hx470_2 hHeld ⊢
                    refine pure_ (i := 0) (N := some 40) (v := ?_) (a' := ?_) #[true, false, false, false, false, false, false, false, false, false, false, false, false, false, false] rfl rfl (any_of HT_.out (by kernel_rfl)) (fun _ _ _ h => h) (Or.inl ⟨by rfl, ?_⟩) ?_ ?_
                    rotate_left
                    · intro w'
                      go_simp
                      with_reducible rfl
                    rotate_left
                    · simp only [Act.put, List.setIfInBounds_toArray, List.set_cons_zero, List.set_cons_succ, i64_w, i32_w]
                      rfl
                    refine pure_ (i := 1) (N := some 41) (v := ?_) (a' := ?_) #[true, true, false, false, false, false, false, false, false, false, false, false, false, false, false] rfl rfl (any_of HT_.out (by kernel_rfl)) (fun _ _ _ h => h) (Or.inl ⟨by rfl, ?_⟩) ?_ ?_
                    rotate_left
                    · intro w'
                      go_simp
                      with_reducible rfl
                    rotate_left
                    · simp only [Act.put, List.setIfInBounds_toArray, List.set_cons_zero, List.set_cons_succ, i64_w, i32_w]
                      rfl
                    refine pure_ (i := 2) (N := some 42) (v := ?_) (a' := ?_) #[true, true, true, false, false, false, false, false, false, false, false, false, false, false, false] rfl rfl (any_of HT_.out (by kernel_rfl)) (fun _ _ _ h => h) (Or.inl ⟨by rfl, ?_⟩) ?_ ?_
                    rotate_left
                    · intro w'
                      go_simp
                      with_reducible rfl
                    rotate_left
                    · simp only [Act.put, List.setIfInBounds_toArray, List.set_cons_zero, List.set_cons_succ, i64_w, i32_w]
                      rfl
                    refine pure_ (i := 3) (N := some 43) (v := ?_) (a' := ?_) #[true, true, true, true, false, false, false, false, false, false, false, false, false, false, false] rfl rfl (any_of HT_.out (by kernel_rfl)) (fun _ _ _ h => h) (Or.inl ⟨by rfl, ?_⟩) ?_ ?_
                    rotate_left
                    · intro w'
                      go_simp
                      with_reducible rfl
                    rotate_left
                    · simp only [Act.put, List.setIfInBounds_toArray, List.set_cons_zero, List.set_cons_succ, i64_w, i32_w]
                      rfl
                    refine pure_ (i := 4) (N := some 44) (v := ?_) (a' := ?_) #[true, true, true, true, true, false, false, false, false, false, false, false, false, false, false] rfl rfl (any_of HT_.out (by kernel_rfl)) (fun _ _ _ h => h) (Or.inl ⟨by rfl, ?_⟩) ?_ ?_
                    rotate_left
                    · intro w'
                      go_simp
                      with_reducible rfl
                    rotate_left
                    · simp only [Act.put, List.setIfInBounds_toArray, List.set_cons_zero, List.set_cons_succ, i64_w, i32_w]
                      rfl
                    refine pure_ (i := 6) (N := some 46) (v := ?_) (a' := ?_) #[true, true, true, true, true, false, true, false, false, false, false, false, false, false, false] rfl rfl (any_of HT_.out (by kernel_rfl)) (fun _ _ _ h => h) (Or.inl ⟨by rfl, ?_⟩) ?_ ?_
                    rotate_left
                    · intro w'
                      go_simp
                      with_reducible rfl
                    rotate_left
                    · simp only [Act.put, List.setIfInBounds_toArray, List.set_cons_zero, List.set_cons_succ, i64_w, i32_w]
                      rfl
                    refine pure_ (i := 7) (N := some 47) (v := ?_) (a' := ?_) #[true, true, true, true, true, false, true, true, false, false, false, false, false, false, false] rfl rfl (any_of HT_.out (by kernel_rfl)) (fun _ _ _ h => h) (Or.inl ⟨by rfl, ?_⟩) ?_ ?_
                    rotate_left
                    · intro w'
                      go_simp
                      with_reducible rfl
                    rotate_left
                    · simp only [Act.put, List.setIfInBounds_toArray, List.set_cons_zero, List.set_cons_succ, i64_w, i32_w]
                      rfl
                    refine pure_ (i := 8) (N := some 48) (v := ?_) (a' := ?_) #[true, true, true, true, true, false, true, true, true, false, false, false, false, false, false] rfl rfl (any_of HT_.out (by kernel_rfl)) (fun _ _ _ h => h) (Or.inl ⟨by rfl, ?_⟩) ?_ ?_
                    rotate_left
                    · intro w'
                      go_simp
                      with_reducible rfl
                    rotate_left
                    · simp only [Act.put, List.setIfInBounds_toArray, List.set_cons_zero, List.set_cons_succ, i64_w, i32_w]
                      rfl
                    refine pure_ (i := 9) (N := some 49) (v := ?_) (a' := ?_) #[true, true, true, true, true, false, true, true, true, true, false, false, false, false, false] rfl rfl (any_of HT_.out (by kernel_rfl)) (fun _ _ _ h => h) (Or.inl ⟨by rfl, ?_⟩) ?_ ?_
                    rotate_left
                    · intro w'
                      go_simp
                      with_reducible rfl
                    rotate_left
                    · simp only [Act.put, List.setIfInBounds_toArray, List.set_cons_zero, List.set_cons_succ, i64_w, i32_w]
                      rfl
                    refine take_ (i := 5) (N := some 45) (v := ?_) (a' := ?_) #[true, true, true, true, true, true, true, true, true, true, false, false, false, false, false] rfl rfl (take_ofW HT_.out HW_.out (by kernel_rfl)) (fun _ _ _ h => h) (Or.inl ⟨by rfl, ?_⟩) hHeld ?_ ?_
                    rotate_left
                    · rintro w' ⟨s0, s1, s2, s3, s4, s5⟩
                      go_simp
                      with_reducible rfl
                    rotate_left
                    · simp only [Act.put, List.setIfInBounds_toArray, List.set_cons_zero, List.set_cons_succ, i64_w, i32_w]
                      rfl
                    refine take_ (i := 10) (N := some 50) (v := ?_) (a' := ?_) #[true, true, true, true, true, true, true, true, true, true, true, false, false, false, false] rfl rfl (take_ofW HT_.out HW_.out (by kernel_rfl)) (fun _ _ _ h => h) (Or.inl ⟨by rfl, ?_⟩) hHeld ?_ ?_
                    rotate_left
                    · rintro w' ⟨s0, s1, s2, s3, s4, s5⟩
                      go_simp
                      with_reducible rfl
                    rotate_left
                    · simp only [Act.put, List.setIfInBounds_toArray, List.set_cons_zero, List.set_cons_succ, i64_w, i32_w]
                      rfl
                    refine pure_ (i := 11) (N := some 51) (v := ?_) (a' := ?_) #[true, true, true, true, true, true, true, true, true, true, true, true, false, false, false] rfl rfl (any_of HT_.out (by kernel_rfl)) (fun _ _ _ h => h) (Or.inl ⟨by rfl, ?_⟩) ?_ ?_
                    rotate_left
                    · intro w'
                      go_simp
                      with_reducible rfl
                    rotate_left
                    · simp only [Act.put, List.setIfInBounds_toArray, List.set_cons_zero, List.set_cons_succ, i64_w, i32_w]
                      rfl
                    refine last_ (i := 12) (N := some 52) #[true, true, true, true, true, true, true, true, true, true, true, true, true, false, false] rfl rfl (one_of HT_.out (by kernel_rfl)) (by decide) (fun K hK => ?_)
                    refine value_ (w1 := ?_) (v := ?_) (by rfl) rfl ?_ ?_
                    rotate_left 2
                    · go_simp
                      constructor
                      · rfl
                      · rfl
                    refine hK.out _ _ ?_
                    clear hK K
                    refine norm_ (a' := ?_) ?_ ?_
                    rotate_left
                    · show Act.put _ (some 52) _ = _
                      simp only [Act.put, List.setIfInBounds_toArray, List.set_cons_zero, List.set_cons_succ, i64_w, i32_w]
                      rfl
                    refine last_ (i := 13) (N := some 53) #[true, true, true, true, true, true, true, true, true, true, true, true, true, true, false] rfl rfl (one_of HT_.out (by kernel_rfl)) (by decide) (fun K hK => ?_)
                    refine Kd.R_append_step k78 (w0 := w) w.heap.size (by rfl) (.tmp 40) (.tmp 52) 48 78 (.agg #[(.int .i64 0), (.string ⟨#[]⟩)]) 24 rfl Try.underlying48 info78 rfl (by decide) (by omega) u8 x8_1 (⟨(rd_T47 t462 x10_1).f0, (rd_T47 t462 x10_1).f2⟩ : S78) [.int .i64 ((rd_T47 t462 x10_1).f0), .string ((rd_T47 t462 x10_1).f2)] (fun _ => True) (fun _ => False) rfl rfl ?aP (fun _ hk => hk.elim) ?aF ?aO ?aB ?aS ?aL ?_
                    (case aP => exact k78_mkM _ _ _ (⟨(rd_T47 t462 x10_1).f0, (rd_T47 t462 x10_1).f2⟩ : S78))
                    (case aB => exact (bel))
                    (case aF => exact (fun _ _ => trivial))
                    (case aO => exact (Kd.R_below HO_8.out bll))
                    (case aS => exact bsz)
                    (case aL => have := LMc9.out; omega)
                    intro v472 w13 ho hb hg hat
                    rw [← Ny471.out] at ho
                    have n0_ := Aside0.mk (Kd.R_over' (Kd.R_below HO_5.out bll) (Kd.R_typed (Kd.R_below HO_8.out bll)) (by decide) hg)
                    have n1_ := Aside0.mk (hb)
                    have n2_ := Aside0.mk (ho)
                    clear HO_5
                    clear HB
                    clear HO_8
                    have HO_5 := n0_
                    have HB := n1_
                    have HO473 := n2_
                    clear n0_ n1_ n2_
                    clear ho hb hg hat
                    refine hK.out _ _ ?_
                    clear hK K
                    refine norm_ (a' := ?_) ?_ ?_
                    rotate_left
                    · show Act.put _ (some 53) _ = _
                      simp only [Act.put, List.setIfInBounds_toArray, List.set_cons_zero, List.set_cons_succ, i64_w, i32_w]
                      rfl
                    refine pure_ (i := 14) (N := some 8) (v := ?_) (a' := ?_) #[true, true, true, true, true, true, true, true, true, true, true, true, true, true, true] rfl rfl (any_of HT_.out (by kernel_rfl)) (fun _ _ _ h => h) (Or.inl ⟨by rfl, ?_⟩) ?_ ?_
                    rotate_left
                    · intro w'
                      go_simp
                      with_reducible rfl
                    rotate_left
                    · simp only [Act.put, List.setIfInBounds_toArray, List.set_cons_zero, List.set_cons_succ, i64_w, i32_w]
                      rfl
                    refine done_ (done_of HT_.out (by kernel_rfl)) ?_
                    have p474 : 0 ≤ (x10_1 : Int) := odt
                    have q474 : x10_1 < (t462.length : Int) := odt
                    obtain ⟨ad474, e474, hx474_0, hx474_1, hx474_2⟩ := at_T47 (Kd.R_reads' HO_5.out).2.2 x10_1 p474 q474
                    obtain rfl : ad467 = ad474 := (by injection e474)
                    replace p474 := eq_true p474
                    replace q474 := eq_true q474
                    try go_wp2
                    go_roundg k1
                    case measure => have := HK1.out; omega
                    case rel => exact ⟨(y471), (decide (((rd_T47 t462 x10_1).f0) ≤ 127)), (wrap64 (x10_1 + 1)), rfS, rfS, H', ⟨by have := HK1.out; omega⟩, ⟨Kd.R_below HO_5.out bll⟩, ⟨Kd.R_below HO473.out bll⟩, ⟨bel⟩⟩
                  · replace c10 := Bool.eq_false_iff.mpr c10
                    subst c10
                    have H1 : (roadbookref19_Get.l0 k1 t462 y471 false (wrap64 (x10_1 + 1))) = some (r1, r2, r3) := by rw [if_neg (show ¬ (false = true) by decide)] at H; exact H
                    clear H
                    have H := H1
                    clear H1
                    have H' := Aside0.mk H
                    clear H
                    obtain ⟨Ao14, co14, eo14⟩ := Kd.R_slice HO_5.out
                    subst eo14
                    have p467 : 0 ≤ (x10_1 : Int) := odt
                    have q467 : x10_1 < (t462.length : Int) := odt
                    obtain ⟨ad467, e467, hx467_0, hx467_1, hx467_2⟩ := at_T47 (Kd.R_reads' HO_5.out).2.2 x10_1 p467 q467
                    cases e467
                    replace p467 := eq_true p467
                    replace q467 := eq_true q467
                    have p468 : 0 ≤ (x10_1 : Int) := odt
                    have q468 : x10_1 < (t462.length : Int) := odt
                    obtain ⟨ad468, e468, hx468_0, hx468_1, hx468_2⟩ := at_T47 (Kd.R_reads' HO_5.out).2.2 x10_1 p468 q468
                    obtain rfl : ad467 = ad468 := (by injection e468)
                    replace p468 := eq_true p468
                    replace q468 := eq_true q468
                    try go_wp2
                    have n0_ := Aside0.mk (Kd.R_drew HO_5.out)
                    have n1_ := Aside0.mk (Kd.R_drew HO_8.out)
                    have n2_ := Aside0.mk (below_drew1 HB.out)
                    clear HO_5
                    clear HO_8
                    clear HB
                    have HO_5 := n0_
                    have HO_8 := n1_
                    have HB := n2_
                    clear n0_ n1_ n2_
                    have p469 : 0 ≤ (x10_1 : Int) := odt
                    have q469 : x10_1 < (t462.length : Int) := odt
                    obtain ⟨ad469, e469, hx469_0, hx469_1, hx469_2⟩ := at_T47 (Kd.R_reads' HO_5.out).2.2 x10_1 p469 q469
                    obtain rfl : ad467 = ad469 := (by injection e469)
                    replace p469 := eq_true p469
                    replace q469 := eq_true q469
                    have p470 : 0 ≤ (x10_1 : Int) := odt
                    have q470 : x10_1 < (t462.length : Int) := odt
                    obtain ⟨ad470, e470, hx470_0, hx470_1, hx470_2⟩ := at_T47 (Kd.R_reads' HO_5.out).2.2 x10_1 p470 q470
                    obtain rfl : ad467 = ad470 := (by injection e470)
                    replace p470 := eq_true p470
                    replace q470 := eq_true q470
                    refine start_ (n := 15) (S := fun w' => w'.cell? (ad467.add ((x10_1).toNat * 3)) = some (.int .i64 ((rd_T47 t462 x10_1).f0)) ∧ w'.cell? ⟨(ad467.add ((x10_1).toNat * 3)).block, (ad467.add ((x10_1).toNat * 3)).off + 1, none⟩ = some (.int .i64 ((rd_T47 t462 x10_1).f1)) ∧ w'.cell? ⟨(ad467.add ((x10_1).toNat * 3)).block, (ad467.add ((x10_1).toNat * 3)).off + 2, none⟩ = some (.string ((rd_T47 t462 x10_1).f2)) ∧ w'.cell? (ad467.add ((x10_1).toNat * 3)) = some (.int .i64 ((rd_T47 t462 x10_1).f0)) ∧ w'.cell? ⟨(ad467.add ((x10_1).toNat * 3)).block, (ad467.add ((x10_1).toNat * 3)).off + 1, none⟩ = some (.int .i64 ((rd_T47 t462 x10_1).f1)) ∧ w'.cell? ⟨(ad467.add ((x10_1).toNat * 3)).block, (ad467.add ((x10_1).toNat * 3)).off + 2, none⟩ = some (.string ((rd_T47 t462 x10_1).f2))) (ds := [12, 13]) #[false, false, false, false, false, false, false, false, false, false, false, false, false, false, false] (by kernel_rfl) rfl rfl ⟨hx469_0, hx469_1, hx469_2, hx470_0, hx470_1, hx470_2⟩ (fun hHeld => ?_); refine with_tabW roadbookref19_Get.tab10 roadbookref19_Get.bits10 (fun HT_ HW_ => ?_)
                    generalize wr.drew = w15 at HO_5 HO_8 HB hx469_0 hx469_1 hx469_2 hx470_0 hx470_1 hx470_2 hHeld ⊢
                    refine pure_ (i := 0) (N := some 40) (v := ?_) (a' := ?_) #[true, false, false, false, false, false, false, false, false, false, false, false, false, false, false] rfl rfl (any_of HT_.out (by kernel_rfl)) (fun _ _ _ h => h) (Or.inl ⟨by rfl, ?_⟩) ?_ ?_
                    rotate_left
                    · intro w'
                      go_simp
                      with_reducible rfl
                    rotate_left
                    · simp only [Act.put, List.setIfInBounds_toArray, List.set_cons_zero, List.set_cons_succ, i64_w, i32_w]
                      rfl
                    refine pure_ (i := 1) (N := some 41) (v := ?_) (a' := ?_) #[true, true, false, false, false, false, false, false, false, false, false, false, false, false, false] rfl rfl (any_of HT_.out (by kernel_rfl)) (fun _ _ _ h => h) (Or.inl ⟨by rfl, ?_⟩) ?_ ?_
                    rotate_left
                    · intro w'
                      go_simp
                      with_reducible rfl
                    rotate_left
                    · simp only [Act.put, List.setIfInBounds_toArray, List.set_cons_zero, List.set_cons_succ, i64_w, i32_w]
                      rfl
                    refine pure_ (i := 2) (N := some 42) (v := ?_) (a' := ?_) #[true, true, true, false, false, false, false, false, false, false, false, false, false, false, false] rfl rfl (any_of HT_.out (by kernel_rfl)) (fun _ _ _ h => h) (Or.inl ⟨by rfl, ?_⟩) ?_ ?_
                    rotate_left
                    · intro w'
                      go_simp
                      with_reducible rfl
                    rotate_left
                    · simp only [Act.put, List.setIfInBounds_toArray, List.set_cons_zero, List.set_cons_succ, i64_w, i32_w]
                      rfl
                    refine pure_ (i := 3) (N := some 43) (v := ?_) (a' := ?_) #[true, true, true, true, false, false, false, false, false, false, false, false, false, false, false] rfl rfl (any_of HT_.out (by kernel_rfl)) (fun _ _ _ h => h) (Or.inl ⟨by rfl, ?_⟩) ?_ ?_
                    rotate_left
                    · intro w'
                      go_simp
                      with_reducible rfl
                    rotate_left
                    · simp only [Act.put, List.setIfInBounds_toArray, List.set_cons_zero, List.set_cons_succ, i64_w, i32_w]
                      rfl
                    refine pure_ (i := 4) (N := some 44) (v := ?_) (a' := ?_) #[true, true, true, true, true, false, false, false, false, false, false, false, false, false, false] rfl rfl (any_of HT_.out (by kernel_rfl)) (fun _ _ _ h => h) (Or.inl ⟨by rfl, ?_⟩) ?_ ?_
                    rotate_left
                    · intro w'
                      go_simp
                      with_reducible rfl
                    rotate_left
                    · simp only [Act.put, List.setIfInBounds_toArray, List.set_cons_zero, List.set_cons_succ, i64_w, i32_w]
                      rfl
                    refine pure_ (i := 6) (N := some 46) (v := ?_) (a' := ?_) #[true, true, true, true, true, false, true, false, false, false, false, false, false, false, false] rfl rfl (any_of HT_.out (by kernel_rfl)) (fun _ _ _ h => h) (Or.inl ⟨by rfl, ?_⟩) ?_ ?_
                    rotate_left
                    · intro w'
                      go_simp
                      with_reducible rfl
                    rotate_left
                    · simp only [Act.put, List.setIfInBounds_toArray, List.set_cons_zero, List.set_cons_succ, i64_w, i32_w]
                      rfl
                    refine pure_ (i := 7) (N := some 47) (v := ?_) (a' := ?_) #[true, true, true, true, true, false, true, true, false, false, false, false, false, false, false] rfl rfl (any_of HT_.out (by kernel_rfl)) (fun _ _ _ h => h) (Or.inl ⟨by rfl, ?_⟩) ?_ ?_
                    rotate_left
                    · intro w'
                      go_simp
                      with_reducible rfl
                    rotate_left
                    · simp only [Act.put, List.setIfInBounds_toArray, List.set_cons_zero, List.set_cons_succ, i64_w, i32_w]
                      rfl
                    refine pure_ (i := 8) (N := some 48) (v := ?_) (a' := ?_) #[true, true, true, true, true, false, true, true, true, false, false, false, false, false, false] rfl rfl (any_of HT_.out (by kernel_rfl)) (fun _ _ _ h => h) (Or.inl ⟨by rfl, ?_⟩) ?_ ?_
                    rotate_left
                    · intro w'
                      go_simp
                      with_reducible rfl
                    rotate_left
                    · simp only [Act.put, List.setIfInBounds_toArray, List.set_cons_zero, List.set_cons_succ, i64_w, i32_w]
                      rfl
                    refine pure_ (i := 9) (N := some 49) (v := ?_) (a' := ?_) #[true, true, true, true, true, false, true, true, true, true, false, false, false, false, false] rfl rfl (any_of HT_.out (by kernel_rfl)) (fun _ _ _ h => h) (Or.inl ⟨by rfl, ?_⟩) ?_ ?_
                    rotate_left
                    · intro w'
                      go_simp
                      with_reducible rfl
                    rotate_left
                    · simp only [Act.put, List.setIfInBounds_toArray, List.set_cons_zero, List.set_cons_succ, i64_w, i32_w]
                      rfl
                    refine take_ (i := 5) (N := some 45) (v := ?_) (a' := ?_) #[true, true, true, true, true, true, true, true, true, true, false, false, false, false, false] rfl rfl (take_ofW HT_.out HW_.out (by kernel_rfl)) (fun _ _ _ h => h) (Or.inl ⟨by rfl, ?_⟩) hHeld ?_ ?_
                    rotate_left
                    · rintro w' ⟨s0, s1, s2, s3, s4, s5⟩
                      go_simp
                      with_reducible rfl
                    rotate_left
                    · simp only [Act.put, List.setIfInBounds_toArray, List.set_cons_zero, List.set_cons_succ, i64_w, i32_w]
                      rfl
                    refine take_ (i := 10) (N := some 50) (v := ?_) (a' := ?_) #[true, true, true, true, true, true, true, true, true, true, true, false, false, false, false] rfl rfl (take_ofW HT_.out HW_.out (by kernel_rfl)) (fun _ _ _ h => h) (Or.inl ⟨by rfl, ?_⟩) hHeld ?_ ?_
                    rotate_left
                    · rintro w' ⟨s0, s1, s2, s3, s4, s5⟩
                      go_simp
                      with_reducible rfl
                    rotate_left
                    · simp only [Act.put, List.setIfInBounds_toArray, List.set_cons_zero, List.set_cons_succ, i64_w, i32_w]
                      rfl
                    refine pure_ (i := 11) (N := some 51) (v := ?_) (a' := ?_) #[true, true, true, true, true, true, true, true, true, true, true, true, false, false, false] rfl rfl (any_of HT_.out (by kernel_rfl)) (fun _ _ _ h => h) (Or.inl ⟨by rfl, ?_⟩) ?_ ?_
                    rotate_left
                    · intro w'
                      go_simp
                      with_reducible rfl
                    rotate_left
                    · simp only [Act.put, List.setIfInBounds_toArray, List.set_cons_zero, List.set_cons_succ, i64_w, i32_w]
                      rfl
                    refine last_ (i := 12) (N := some 52) #[true, true, true, true, true, true, true, true, true, true, true, true, true, false, false] rfl rfl (one_of HT_.out (by kernel_rfl)) (by decide) (fun K hK => ?_)
                    refine value_ (w1 := ?_) (v := ?_) (by rfl) rfl ?_ ?_
                    rotate_left 2
                    · go_simp
                      constructor
                      · rfl
                      · rfl
                    refine hK.out _ _ ?_
                    clear hK K
                    refine norm_ (a' := ?_) ?_ ?_
                    rotate_left
                    · show Act.put _ (some 52) _ = _
                      simp only [Act.put, List.setIfInBounds_toArray, List.set_cons_zero, List.set_cons_succ, i64_w, i32_w]
                      rfl
                    refine last_ (i := 13) (N := some 53) #[true, true, true, true, true, true, true, true, true, true, true, true, true, true, false] rfl rfl (one_of HT_.out (by kernel_rfl)) (by decide) (fun K hK => ?_)
                    refine Kd.R_append_step k78 (w0 := w) w.heap.size (by rfl) (.tmp 40) (.tmp 52) 48 78 (.agg #[(.int .i64 0), (.string ⟨#[]⟩)]) 24 rfl Try.underlying48 info78 rfl (by decide) (by omega) u8 x8_1 (⟨(rd_T47 t462 x10_1).f0, (rd_T47 t462 x10_1).f2⟩ : S78) [.int .i64 ((rd_T47 t462 x10_1).f0), .string ((rd_T47 t462 x10_1).f2)] (fun _ => True) (fun _ => False) rfl rfl ?aP (fun _ hk => hk.elim) ?aF ?aO ?aB ?aS ?aL ?_
                    (case aP => exact k78_mkM _ _ _ (⟨(rd_T47 t462 x10_1).f0, (rd_T47 t462 x10_1).f2⟩ : S78))
                    (case aB => exact (bel))
                    (case aF => exact (fun _ _ => trivial))
                    (case aO => exact (Kd.R_below HO_8.out bll))
                    (case aS => exact bsz)
                    (case aL => have := LMc9.out; omega)
                    intro v472 w16 ho hb hg hat
                    rw [← Ny471.out] at ho
                    have n0_ := Aside0.mk (Kd.R_over' (Kd.R_below HO_5.out bll) (Kd.R_typed (Kd.R_below HO_8.out bll)) (by decide) hg)
                    have n1_ := Aside0.mk (hb)
                    have n2_ := Aside0.mk (ho)
                    clear HO_5
                    clear HB
                    clear HO_8
                    have HO_5 := n0_
                    have HB := n1_
                    have HO473 := n2_
                    clear n0_ n1_ n2_
                    clear ho hb hg hat
                    refine hK.out _ _ ?_
                    clear hK K
                    refine norm_ (a' := ?_) ?_ ?_
                    rotate_left
                    · show Act.put _ (some 53) _ = _
                      simp only [Act.put, List.setIfInBounds_toArray, List.set_cons_zero, List.set_cons_succ, i64_w, i32_w]
                      rfl
                    refine pure_ (i := 14) (N := some 8) (v := ?_) (a' := ?_) #[true, true, true, true, true, true, true, true, true, true, true, true, true, true, true] rfl rfl (any_of HT_.out (by kernel_rfl)) (fun _ _ _ h => h) (Or.inl ⟨by rfl, ?_⟩) ?_ ?_
                    rotate_left
                    · intro w'
                      go_simp
                      with_reducible rfl
                    rotate_left
                    · simp only [Act.put, List.setIfInBounds_toArray, List.set_cons_zero, List.set_cons_succ, i64_w, i32_w]
                      rfl
                    refine done_ (done_of HT_.out (by kernel_rfl)) ?_
                    try go_wp2
                    go_roundg k1
                    case measure => have := HK1.out; omega
                    case rel => exact ⟨(y471), (false), (wrap64 (x10_1 + 1)), rfS, rfS, H', ⟨by have := HK1.out; omega⟩, ⟨Kd.R_below HO_5.out bll⟩, ⟨Kd.R_below HO473.out bll⟩, ⟨bel⟩⟩
                · rw [if_neg c9] at H
                  exact absurd H (by simp)
              · rw [if_neg c8] at H
                have c8b0 : decide (((rd_T47 t462 x10_1).f0) ≤ 127) = false := decide_eq_false c8
                clear c8
                by_cases c17 : x9_1 = true
                · subst c17
                  have H1 : (roadbookref19_Get.l0 k1 t462 x8_1 (decide (((rd_T47 t462 x10_1).f0) ≤ 127)) (wrap64 (x10_1 + 1))) = some (r1, r2, r3) := by rw [if_pos rfl] at H; exact H
                  clear H
                  have H := H1
                  clear H1
                  have H' := Aside0.mk H
                  clear H
                  obtain ⟨Ao18, co18, eo18⟩ := Kd.R_slice HO_5.out
                  subst eo18
                  have p467 : 0 ≤ (x10_1 : Int) := odt
                  have q467 : x10_1 < (t462.length : Int) := odt
                  obtain ⟨ad467, e467, hx467_0, hx467_1, hx467_2⟩ := at_T47 (Kd.R_reads' HO_5.out).2.2 x10_1 p467 q467
                  cases e467
                  replace p467 := eq_true p467
                  replace q467 := eq_true q467
                  have p468 : 0 ≤ (x10_1 : Int) := odt
                  have q468 : x10_1 < (t462.length : Int) := odt
                  obtain ⟨ad468, e468, hx468_0, hx468_1, hx468_2⟩ := at_T47 (Kd.R_reads' HO_5.out).2.2 x10_1 p468 q468
                  obtain rfl : ad467 = ad468 := (by injection e468)
                  replace p468 := eq_true p468
                  replace q468 := eq_true q468
                  have p475 : 0 ≤ (x10_1 : Int) := odt
                  have q475 : x10_1 < (t462.length : Int) := odt
                  obtain ⟨ad475, e475, hx475_0, hx475_1, hx475_2⟩ := at_T47 (Kd.R_reads' HO_5.out).2.2 x10_1 p475 q475
                  obtain rfl : ad467 = ad475 := (by injection e475)
                  replace p475 := eq_true p475
                  replace q475 := eq_true q475
                  go_wp2
                  go_roundg k1
                  case measure => have := HK1.out; omega
                  case rel => exact ⟨(x8_1), (decide (((rd_T47 t462 x10_1).f0) ≤ 127)), (wrap64 (x10_1 + 1)), rfS, rfS, H', ⟨by have := HK1.out; omega⟩, ⟨Kd.R_below HO_5.out bll⟩, ⟨Kd.R_below HO_8.out bll⟩, ⟨bel⟩⟩
                · replace c17 := Bool.eq_false_iff.mpr c17
                  subst c17
                  have H1 : (roadbookref19_Get.l0 k1 t462 x8_1 false (wrap64 (x10_1 + 1))) = some (r1, r2, r3) := by rw [if_neg (show ¬ (false = true) by decide)] at H; exact H
                  clear H
                  have H := H1
                  clear H1
                  have H' := Aside0.mk H
                  clear H
                  obtain ⟨Ao19, co19, eo19⟩ := Kd.R_slice HO_5.out
                  subst eo19
                  have p467 : 0 ≤ (x10_1 : Int) := odt
                  have q467 : x10_1 < (t462.length : Int) := odt
                  obtain ⟨ad467, e467, hx467_0, hx467_1, hx467_2⟩ := at_T47 (Kd.R_reads' HO_5.out).2.2 x10_1 p467 q467
                  cases e467
                  replace p467 := eq_true p467
                  replace q467 := eq_true q467
                  have p468 : 0 ≤ (x10_1 : Int) := odt
                  have q468 : x10_1 < (t462.length : Int) := odt
                  obtain ⟨ad468, e468, hx468_0, hx468_1, hx468_2⟩ := at_T47 (Kd.R_reads' HO_5.out).2.2 x10_1 p468 q468
                  obtain rfl : ad467 = ad468 := (by injection e468)
                  replace p468 := eq_true p468
                  replace q468 := eq_true q468
                  go_wp2
                  go_roundg k1
                  case measure => have := HK1.out; omega
                  case rel => exact ⟨(x8_1), (false), (wrap64 (x10_1 + 1)), rfS, rfS, H', ⟨by have := HK1.out; omega⟩, ⟨Kd.R_below HO_5.out bll⟩, ⟨Kd.R_below HO_8.out bll⟩, ⟨bel⟩⟩
            · rw [if_neg c7] at H
              have c7b0 : decide (2 ≤ ((rd_T47 t462 x10_1).f0)) = false := decide_eq_false c7
              clear c7
              by_cases c20 : x9_1 = true
              · subst c20
                have H1 : (roadbookref19_Get.l0 k1 t462 x8_1 (decide (((rd_T47 t462 x10_1).f0) ≤ 127)) (wrap64 (x10_1 + 1))) = some (r1, r2, r3) := by rw [if_pos rfl] at H; exact H
                clear H
                have H := H1
                clear H1
                have H' := Aside0.mk H
                clear H
                obtain ⟨Ao21, co21, eo21⟩ := Kd.R_slice HO_5.out
                subst eo21
                have p467 : 0 ≤ (x10_1 : Int) := odt
                have q467 : x10_1 < (t462.length : Int) := odt
                obtain ⟨ad467, e467, hx467_0, hx467_1, hx467_2⟩ := at_T47 (Kd.R_reads' HO_5.out).2.2 x10_1 p467 q467
                cases e467
                replace p467 := eq_true p467
                replace q467 := eq_true q467
                have p476 : 0 ≤ (x10_1 : Int) := odt
                have q476 : x10_1 < (t462.length : Int) := odt
                obtain ⟨ad476, e476, hx476_0, hx476_1, hx476_2⟩ := at_T47 (Kd.R_reads' HO_5.out).2.2 x10_1 p476 q476
                obtain rfl : ad467 = ad476 := (by injection e476)
                replace p476 := eq_true p476
                replace q476 := eq_true q476
                go_wp2
                go_roundg k1
                case measure => have := HK1.out; omega
                case rel => exact ⟨(x8_1), (decide (((rd_T47 t462 x10_1).f0) ≤ 127)), (wrap64 (x10_1 + 1)), rfS, rfS, H', ⟨by have := HK1.out; omega⟩, ⟨Kd.R_below HO_5.out bll⟩, ⟨Kd.R_below HO_8.out bll⟩, ⟨bel⟩⟩
              · replace c20 := Bool.eq_false_iff.mpr c20
                subst c20
                have H1 : (roadbookref19_Get.l0 k1 t462 x8_1 false (wrap64 (x10_1 + 1))) = some (r1, r2, r3) := by rw [if_neg (show ¬ (false = true) by decide)] at H; exact H
                clear H
                have H := H1
                clear H1
                have H' := Aside0.mk H
                clear H
                obtain ⟨Ao22, co22, eo22⟩ := Kd.R_slice HO_5.out
                subst eo22
                have p467 : 0 ≤ (x10_1 : Int) := odt
                have q467 : x10_1 < (t462.length : Int) := odt
                obtain ⟨ad467, e467, hx467_0, hx467_1, hx467_2⟩ := at_T47 (Kd.R_reads' HO_5.out).2.2 x10_1 p467 q467
                cases e467
                replace p467 := eq_true p467
                replace q467 := eq_true q467
                go_wp2
                go_roundg k1
                case measure => have := HK1.out; omega
                case rel => exact ⟨(x8_1), (false), (wrap64 (x10_1 + 1)), rfS, rfS, H', ⟨by have := HK1.out; omega⟩, ⟨Kd.R_below HO_5.out bll⟩, ⟨Kd.R_below HO_8.out bll⟩, ⟨bel⟩⟩
          · rw [if_neg c6] at H
            exact absurd H (by simp)
        · rw [if_neg c5] at H
          have c5b0 : decide (x10_1 < (t462.length : Int)) = false := decide_eq_false c5
          clear c5
          replace H := Option.bind_eq_some_iff.mp H
          obtain ⟨t477, A230, H⟩ := H
          replace H : (if t477 > 200 then (some (([] : List (S78)), false, 10)) else (some (x8_1, x9_1, 0))) = some (r1, r2, r3) := H
          have A23 := Aside0.mk A230
          clear A230
          by_cases c24 : t477 > 200
          · rw [if_pos c24] at H
            have c24b0 : decide (200 < t477) = true := decide_eq_true c24
            clear c24
            simp only [Option.some.injEq, Prod.mk.injEq] at H
            obtain ⟨rfl, rfl, rfl⟩ := H
            obtain ⟨Ao25, co25, eo25⟩ := Kd.R_slice HO_5.out
            subst eo25
            obtain ⟨Ao26, co26, eo26⟩ := Kd.R_slice HO_8.out
            subst eo26
            go_wp2_with (first | ((with_reducible refine gate_callee (f := 51) rfl ?_); refine goesL_ (some 64) rfl rfl Try.func51 (by kernel_rfl) rfl #[.slice Ao26 x8_1.length co26] rfl gAr ?_; (with_reducible refine (roadbookref07_Bytes.calls k1 _ _ x8_1 t477 _ ?side1 ?side2 A23.out).mono ?_); (case side1 => repeat (first | exact (Kd.R_reads' HO_8.out).2.2 | (with_reducible refine Kd.C_alloc ?_ _) | (with_reducible refine Kd.C_drewN ?_ _) | (with_reducible refine Kd.C_drew ?_))); (case side2 => exact (Kd.R_reads' HO_8.out).2.1); rintro e w' ⟨rfl, ⟨nd, rfl⟩⟩; refine ⟨_, rfl, ?_⟩))
            go_ret3
            exact ⟨_, rtE, by first | exact Kd.R_nil _ _ _ _ _ | exact Kd.N_nil _ _ _ _ _ | exact Kd.V_nil _ _ _ _ _ | exact Kd.Q_nil _ _ _ _ _ | exact Kd.S_nil _ _ _ _ _, bel⟩
          · rw [if_neg c24] at H
            have c24b0 : decide (200 < t477) = false := decide_eq_false c24
            clear c24
            simp only [Option.some.injEq, Prod.mk.injEq] at H
            obtain ⟨rfl, rfl, rfl⟩ := H
            obtain ⟨Ao27, co27, eo27⟩ := Kd.R_slice HO_5.out
            subst eo27
            obtain ⟨Ao28, co28, eo28⟩ := Kd.R_slice HO_8.out
            subst eo28
            go_wp2_with (first | ((with_reducible refine gate_callee (f := 51) rfl ?_); refine goesL_ (some 64) rfl rfl Try.func51 (by kernel_rfl) rfl #[.slice Ao28 x8_1.length co28] rfl gAr ?_; (with_reducible refine (roadbookref07_Bytes.calls k1 _ _ x8_1 t477 _ ?side1 ?side2 A23.out).mono ?_); (case side1 => repeat (first | exact (Kd.R_reads' HO_8.out).2.2 | (with_reducible refine Kd.C_alloc ?_ _) | (with_reducible refine Kd.C_drewN ?_ _) | (with_reducible refine Kd.C_drew ?_))); (case side2 => exact (Kd.R_reads' HO_8.out).2.1); rintro e w' ⟨rfl, ⟨nd, rfl⟩⟩; refine ⟨_, rfl, ?_⟩))
            go_ret3
            exact ⟨_, rtE, by (with_reducible repeat (first | apply Kd.R_alloc | apply Kd.R_drewN | apply Kd.R_drew)); exact HO_8.out, bel⟩
  · rw [if_neg c3] at H
    have c3b0 : (t464 == 0) = false := beq_eq_false_iff_ne.mpr c3
    have c3b1 : (t464 != 0) = true := bne_iff_ne.mpr c3
    simp only [Option.some.injEq, Prod.mk.injEq] at H
    obtain ⟨rfl, rfl, rfl⟩ := H
    go_enter Try.func34, Try.ntmps34
    go_wp2_with (first | ((with_reducible refine gate_callee (f := 26) rfl ?_); refine goesL_ (some 13) rfl rfl Try.func26 (by kernel_rfl) rfl #[.string a0, .int .i64 0] rfl gAr ?_; (with_reducible refine (roadbookref18_Split.calls k a0 0 t462 t463 t464 _ A2.out).mono ?_); rintro e w29 ⟨v465, rfl, ho0, hb⟩; refine ⟨_, rfl, ?_⟩; have n0_ := Aside0.mk (Kd.R_lower ho0 bsz); have n1_ := Aside0.mk (below_step (bel) hb); clear HB; have HO466 := n0_; have HB := n1_; clear n0_ n1_; (try clear hb); (try clear ho0)))
    go_ret3
    exact ⟨_, rtE, by first | exact Kd.R_nil _ _ _ _ _ | exact Kd.N_nil _ _ _ _ _ | exact Kd.V_nil _ _ _ _ _ | exact Kd.Q_nil _ _ _ _ _ | exact Kd.S_nil _ _ _ _ _, bel⟩

/-! ### roadbookref07_dests: function 58 -/
def roadbookref07_dests.l0 : Nat → List (S88) → List (S88) → Int → Option (Bool)
  | 0, _, _, _ => none
  | k + 1, x0, x1, x5 => if x5 < (x0.length : Int) then (if 0 ≤ x5 then (if x5 < (x1.length : Int) then (if (!((((rd_T88 x0 x5).f0).toList) == (((rd_T88 x1 x5).f0).toList)) || (!(((rd_T88 x0 x5).f1) == ((rd_T88 x1 x5).f1)))) = true then (some false) else (roadbookref07_dests.l0 k x0 x1 (wrap64 (x5 + 1)))) else (none)) else (none)) else (some true)
def roadbookref07_dests.f (k : Nat) (l0 : List (S88)) (l1 : List (S88)) : Option (Bool) := if (l0.length : Int) = (l1.length : Int) then (roadbookref07_dests.l0 k l0 l1 0) else (some false)
theorem roadbookref07_dests.mono_l : ∀ k, (∀ y0 y1 y2, LeO (roadbookref07_dests.l0 k y0 y1 y2) (roadbookref07_dests.l0 (k + 1) y0 y1 y2))
  | 0 => fun _ _ _ r h => by simp [roadbookref07_dests.l0] at h
  | k + 1 => by
    have ih0 := roadbookref07_dests.mono_l k
    · intro y0 y1 y2
      unfold roadbookref07_dests.l0
      repeat' first
      | (with_reducible exact ih0 _ _ _)
      | (with_reducible exact LeO.refl _)
      | (with_reducible exact LeO.none _)
      | (with_reducible refine LeO.ite ?_ ?_)
      | (with_reducible refine LeO.bind ?_ (fun _ => ?_))
      | exact ih0 _ _ _
      | exact LeO.none _
      | refine LeO.ite ?_ ?_
      | refine LeO.bind ?_ (fun _ => ?_)
theorem roadbookref07_dests.mono : ∀ a0 a1 k, LeO (roadbookref07_dests.f k a0 a1) (roadbookref07_dests.f (k + 1) a0 a1) := by
  intro a0 a1 k
  have ih0 := roadbookref07_dests.mono_l k
  unfold roadbookref07_dests.f
  repeat' first
      | (with_reducible exact ih0 _ _ _)
      | (with_reducible exact LeO.refl _)
      | (with_reducible exact LeO.none _)
      | (with_reducible refine LeO.ite ?_ ?_)
      | (with_reducible refine LeO.bind ?_ (fun _ => ?_))
      | exact ih0 _ _ _
      | exact LeO.none _
      | refine LeO.ite ?_ ?_
      | refine LeO.bind ?_ (fun _ => ?_)
set_option maxHeartbeats 8000000 in
set_option maxRecDepth 100000 in
theorem roadbookref07_dests.calls (k : Nat) (A0 : Option Addr) (c0 : Nat) (l0 : List (S88)) (A1 : Option Addr) (c1 : Nat) (l1 : List (S88)) (r : Bool) (w : World) (hr0 : Kd.C k88 w A0 l0.length l0) (hc0 : l0.length ≤ c0) (hr1 : Kd.C k88 w A1 l1.length l1) (hc1 : l1.length ≤ c1) (h : roadbookref07_dests.f k l0 l1 = some r) :
    Calls Try.prog 58 #[.slice A0 l0.length c0, .slice A1 l1.length c1] w fun e w' => e = .returned (.bool r) ∧ Drawn0 w w' := by
  have hu88 := Try.underlying88
  have HR0 := Aside0.mk hr0
  have HC0 := Aside0.mk hc0
  clear hr0 hc0
  have HR1 := Aside0.mk hr1
  have HC1 := Aside0.mk hc1
  clear hr1 hc1
  have H : (if (l0.length : Int) = (l1.length : Int) then (roadbookref07_dests.l0 k l0 l1 0) else (some false)) = some r := h
  clear h
  by_cases c3 : (l0.length : Int) = (l1.length : Int)
  · rw [if_pos c3] at H
    have c3b0 : ((l0.length : Int) == (l1.length : Int)) = true := beq_iff_eq.mpr c3
    have c3b1 : ((l0.length : Int) != (l1.length : Int)) = false := bne_eq_false_iff_eq.mpr c3
    have c3b2 : (l0.length == l1.length) = true := by first | simpa using c3 | (simp at c3 ⊢; omega)
    clear c3
    have H' := Aside0.mk H
    clear H
    go_enter Try.func58, Try.ntmps58
    go_wp2
    repeat (go_quiet (fail); try go_wp2)
    go_loopg [5] k (fun kq v5 w' => ∃ (x5_1 : Int), v5 = .int .i64 x5_1 ∧ Aside0 (roadbookref07_dests.l0 kq l0 l1 x5_1 = some r) ∧ Aside0 (kq ≤ k) ∧ Drawn0 w w')
    case atStart => exact ⟨(0), rfS, H', ⟨Nat.le_refl _⟩, by repeat (first | exact Drawn0.refl _ | apply Drawn0.step)⟩
    case round =>
      clear H'
      try clear c1
      try clear c3
      try clear c3b0
      try clear c3b1
      try clear c3b2
      obtain ⟨x5_1, rfl, HA, HK1, ⟨m1, rfl⟩⟩ := hrel
      cases gk with
      | zero => exact absurd HA.out (by simp [roadbookref07_dests.l0])
      | succ k1 =>
        have H := HA.out
        clear HA
        simp only [roadbookref07_dests.l0] at H
        by_cases c4 : x5_1 < (l0.length : Int)
        · rw [if_pos c4] at H
          have c4b0 : decide (x5_1 < (l0.length : Int)) = true := decide_eq_true c4
          clear c4
          by_cases c5 : 0 ≤ x5_1
          · rw [if_pos c5] at H
            have c5b0 : decide (0 ≤ x5_1) = true := decide_eq_true c5
            clear c5
            by_cases c6 : x5_1 < (l1.length : Int)
            · rw [if_pos c6] at H
              have c6b0 : decide (x5_1 < (l1.length : Int)) = true := decide_eq_true c6
              clear c6
              by_cases c7 : (!((((rd_T88 l0 x5_1).f0).toList) == (((rd_T88 l1 x5_1).f0).toList)) || (!(((rd_T88 l0 x5_1).f1) == ((rd_T88 l1 x5_1).f1)))) = true
              · rw [if_pos c7] at H
                have c7b0 : (!((((rd_T88 l0 x5_1).f0).toList) == (((rd_T88 l1 x5_1).f0).toList)) || (!(((rd_T88 l0 x5_1).f1) == ((rd_T88 l1 x5_1).f1)))) = true := c7
                clear c7
                obtain rfl := Option.some.inj H
                have p478 : 0 ≤ (x5_1 : Int) := odt
                have q478 : x5_1 < (l0.length : Int) := odt
                obtain ⟨ad478, e478, hx478_0, hx478_1⟩ := at_T88 HR0.out x5_1 p478 q478
                cases e478
                replace p478 := eq_true p478
                replace q478 := eq_true q478
                have p479 : 0 ≤ (x5_1 : Int) := odt
                have q479 : x5_1 < (l1.length : Int) := odt
                obtain ⟨ad479, e479, hx479_0, hx479_1⟩ := at_T88 HR1.out x5_1 p479 q479
                cases e479
                replace p479 := eq_true p479
                replace q479 := eq_true q479
                go_wp2
                repeat (go_quiet (fail); try go_wp2)
                go_ret
                exact ⟨rfS, by repeat (first | exact Drawn0.refl _ | apply Drawn0.step)⟩
              · rw [if_neg c7] at H
                have c7b0 : (!((((rd_T88 l0 x5_1).f0).toList) == (((rd_T88 l1 x5_1).f0).toList)) || (!(((rd_T88 l0 x5_1).f1) == ((rd_T88 l1 x5_1).f1)))) = false := by simpa using c7
                clear c7
                have H' := Aside0.mk H
                clear H
                have p478 : 0 ≤ (x5_1 : Int) := odt
                have q478 : x5_1 < (l0.length : Int) := odt
                obtain ⟨ad478, e478, hx478_0, hx478_1⟩ := at_T88 HR0.out x5_1 p478 q478
                cases e478
                replace p478 := eq_true p478
                replace q478 := eq_true q478
                have p479 : 0 ≤ (x5_1 : Int) := odt
                have q479 : x5_1 < (l1.length : Int) := odt
                obtain ⟨ad479, e479, hx479_0, hx479_1⟩ := at_T88 HR1.out x5_1 p479 q479
                cases e479
                replace p479 := eq_true p479
                replace q479 := eq_true q479
                go_wp2
                repeat (go_quiet (fail); try go_wp2)
                go_roundg k1
                case measure => have := HK1.out; omega
                case rel => exact ⟨(wrap64 (x5_1 + 1)), rfS, H', ⟨by have := HK1.out; omega⟩, by repeat (first | exact Drawn0.refl _ | apply Drawn0.step)⟩
            · rw [if_neg c6] at H
              exact absurd H (by simp)
          · rw [if_neg c5] at H
            exact absurd H (by simp)
        · rw [if_neg c4] at H
          have c4b0 : decide (x5_1 < (l0.length : Int)) = false := decide_eq_false c4
          clear c4
          obtain rfl := Option.some.inj H
          go_wp2
          repeat (go_quiet (fail); try go_wp2)
          go_ret
          exact ⟨rfS, by repeat (first | exact Drawn0.refl _ | apply Drawn0.step)⟩
  · rw [if_neg c3] at H
    have c3b0 : ((l0.length : Int) == (l1.length : Int)) = false := beq_eq_false_iff_ne.mpr c3
    have c3b1 : ((l0.length : Int) != (l1.length : Int)) = true := bne_iff_ne.mpr c3
    have c3b2 : (l0.length == l1.length) = false := by first | simpa using c3 | (simp at c3 ⊢; omega)
    obtain rfl := Option.some.inj H
    go_enter Try.func58, Try.ntmps58
    go_wp2
    repeat (go_quiet (fail); try go_wp2)
    go_ret
    exact ⟨rfS, by repeat (first | exact Drawn0.refl _ | apply Drawn0.step)⟩

end Go.Proofs.Ytjgnpggpgkkknaa.Pr
