-- Written by wip/tools/xprint.py of this repo over the kit's printer, out of the translation. Lean checks it.
import Derived.Test.YtjgnpggpgkkknaaPr0
namespace Go.Proofs.Ytjgnpggpgkkknaa.Pr
open Go.RowKit Go.Proofs.YtjgnpggpgkkknaaW.PrintWords Go.Proofs.YtjgnpggpgkkknaaW.PrintLast
set_option linter.unusedVariables false
set_option linter.unusedSimpArgs false

/-! ### roadbookref18_Split: function 26 -/
def roadbookref18_Split.l0 : Nat → ByteArray → Int → List (S47) → Int → Option ((List (S47)) × Int × Int)
  | 0, _, _, _, _ => none
  | k + 1, x0, x1, x7, x8 => if x8 < (x0.size : Int) then (if 0 ≤ x8 then (if (bt x0 x8) = 0 then (if x7.length < 4398046511104 then (roadbookref18_Split.l0 k x0 x1 (x7 ++ [(⟨0, wrap64 (x1 + x8), (⟨#[]⟩ : ByteArray)⟩ : S47)]) (wrap64 (x8 + 1))) else (none)) else (if (wrap64 ((x0.size : Int) - x8)) < 2 then (some (([] : List (S47)), wrap64 (x1 + x8), 2)) else (if 0 ≤ (wrap64 (x8 + 1)) then (if (wrap64 (x8 + 1)) < (x0.size : Int) then (if (wrap64 ((wrap64 ((x0.size : Int) - x8)) - 2)) < (wrap64 (bt x0 (wrap64 (x8 + 1)))) then (some (([] : List (S47)), wrap64 (x1 + x8), 2)) else (if 0 ≤ (wrap64 (x8 + 2)) then (if (wrap64 (x8 + 2)) ≤ (wrap64 ((wrap64 (x8 + 2)) + (wrap64 (bt x0 (wrap64 (x8 + 1)))))) then (if (wrap64 ((wrap64 (x8 + 2)) + (wrap64 (bt x0 (wrap64 (x8 + 1)))))) ≤ (x0.size : Int) then (if x7.length < 4398046511104 then (roadbookref18_Split.l0 k x0 x1 (x7 ++ [(⟨wrap64 (bt x0 x8), wrap64 (x1 + x8), x0.extract ((wrap64 (x8 + 2)) : Int).toNat ((wrap64 ((wrap64 (x8 + 2)) + (wrap64 (bt x0 (wrap64 (x8 + 1)))))) : Int).toNat⟩ : S47)]) (wrap64 ((wrap64 (x8 + 2)) + (wrap64 (bt x0 (wrap64 (x8 + 1))))))) else (none)) else (none)) else (none)) else (none))) else (none)) else (none)))) else (none)) else (some (x7, 0, 0))
def roadbookref18_Split.f (k : Nat) (a0 : ByteArray) (a1 : Int) : Option ((List (S47)) × Int × Int) := roadbookref18_Split.l0 k a0 a1 ([] : List (S47)) 0
theorem roadbookref18_Split.mono_l : ∀ k, (∀ y0 y1 y2 y3, LeO (roadbookref18_Split.l0 k y0 y1 y2 y3) (roadbookref18_Split.l0 (k + 1) y0 y1 y2 y3))
  | 0 => fun _ _ _ _ r h => by simp [roadbookref18_Split.l0] at h
  | k + 1 => by
    have ih0 := roadbookref18_Split.mono_l k
    · intro y0 y1 y2 y3
      unfold roadbookref18_Split.l0
      repeat' first
      | (with_reducible exact ih0 _ _ _ _)
      | (with_reducible exact LeO.refl _)
      | (with_reducible exact LeO.none _)
      | (with_reducible refine LeO.ite ?_ ?_)
      | (with_reducible refine LeO.bind ?_ (fun _ => ?_))
      | exact ih0 _ _ _ _
      | exact LeO.none _
      | refine LeO.ite ?_ ?_
      | refine LeO.bind ?_ (fun _ => ?_)
theorem roadbookref18_Split.mono : ∀ a0 a1 k, LeO (roadbookref18_Split.f k a0 a1) (roadbookref18_Split.f (k + 1) a0 a1) := by
  intro a0 a1 k
  have ih0 := roadbookref18_Split.mono_l k
  unfold roadbookref18_Split.f
  repeat' first
      | (with_reducible exact ih0 _ _ _ _)
      | (with_reducible exact LeO.refl _)
      | (with_reducible exact LeO.none _)
      | (with_reducible refine LeO.ite ?_ ?_)
      | (with_reducible refine LeO.bind ?_ (fun _ => ?_))
      | exact ih0 _ _ _ _
      | exact LeO.none _
      | refine LeO.ite ?_ ?_
      | refine LeO.bind ?_ (fun _ => ?_)
def roadbookref18_Split.T10 : Bool × List (List Nat × List Nat) := (true, [([], []), ([], []), ([], []), ([1, 2], [1, 2]), ([3], [3]), ([], []), ([], []), ([5, 6], [5, 6]), ([], []), ([], []), ([9], [9]), ([], []), ([11], [11]), ([], []), ([12, 13], [12, 13]), ([8, 10, 14], [8, 10, 14]), ([4, 7, 15], [4, 7, 15]), ([16], [16]), ([0, 17], [0, 17]), ([18, 18, 0, 1, 2, 3, 4, 5, 6, 7, 8, 9, 10, 11, 12, 13, 14, 15, 16, 17, 18], [0, 18])])
def roadbookref18_Split.B10 : List Nat := [0, 0, 0, 6, 14, 0, 0, 96, 0, 0, 512, 0, 2048, 0, 14336, 32512, 65534, 131070, 262143, 524287]
theorem roadbookref18_Split.tab10 : rtab .any (opsOf Try.f26 10) = roadbookref18_Split.T10 := by kernel_rfl
theorem roadbookref18_Split.bits10 : waitsOk roadbookref18_Split.T10.2 roadbookref18_Split.B10 = true := by kernel_rfl
set_option maxHeartbeats 8000000 in
set_option maxRecDepth 100000 in
theorem roadbookref18_Split.calls (k : Nat) (a0 : ByteArray) (a1 : Int) (r1 : List (S47)) (r2 : Int) (r3 : Int) (w : World) (h : roadbookref18_Split.f k a0 a1 = some (r1, r2, r3)) :
    Calls Try.prog 26 #[.string a0, .int .i64 a1] w fun e w' => ∃ v0_ : Value, e = .returned (.tuple #[v0_, .int .i64 r2, .int .i64 r3]) ∧ Kd.R k47 47 w' w.heap.size (fun _ => True) v0_ r1 ∧ Below w.heap.size w w' := by
  have hu47 := Try.underlying47
  have HB := Aside0.mk (Below.refl w.heap.size w)
  have H : (roadbookref18_Split.l0 k a0 a1 ([] : List (S47)) 0) = some (r1, r2, r3) := h
  clear h
  have H' := Aside0.mk H
  clear H
  go_enter Try.func26, Try.ntmps26
  go_wp2
  go_loopg [7, 8] k (fun kq v7 v8 w' => ∃ (x7_1 : List (S47)) (x8_1 : Int), v8 = .int .i64 x8_1 ∧ Aside0 (roadbookref18_Split.l0 kq a0 a1 x7_1 x8_1 = some (r1, r2, r3)) ∧ Aside0 (kq ≤ k) ∧ Aside0 (Kd.R k47 47 w' w.heap.size (fun _ => True) v7 x7_1) ∧ Aside0 (Below w.heap.size w w'))
  case atStart => exact ⟨(([] : List (S47))), (0), rfS, H', ⟨Nat.le_refl _⟩, ⟨by first | exact Kd.R_nil _ _ _ _ _ | exact Kd.N_nil _ _ _ _ _ | exact Kd.V_nil _ _ _ _ _ | exact Kd.Q_nil _ _ _ _ _ | exact Kd.S_nil _ _ _ _ _⟩, ⟨bel⟩⟩
  case round =>
    clear H'
    obtain ⟨x7_1, x8_1, rfl, HA, HK1, HO_7, HB⟩ := hrel
    cases gk with
    | zero => exact absurd HA.out (by simp [roadbookref18_Split.l0])
    | succ k1 =>
      have H := HA.out
      clear HA
      simp only [roadbookref18_Split.l0] at H
      by_cases c3 : x8_1 < (a0.size : Int)
      · rw [if_pos c3] at H
        have c3b0 : decide (x8_1 < (a0.size : Int)) = true := decide_eq_true c3
        clear c3
        by_cases c4 : 0 ≤ x8_1
        · rw [if_pos c4] at H
          have c4b0 : decide (0 ≤ x8_1) = true := decide_eq_true c4
          clear c4
          by_cases c6 : (bt a0 x8_1) = 0
          · rw [if_pos c6] at H
            have c6b0 : ((bt a0 x8_1) == 0) = true := beq_iff_eq.mpr c6
            have c6b1 : ((bt a0 x8_1) != 0) = false := bne_eq_false_iff_eq.mpr c6
            clear c6
            by_cases c7 : x7_1.length < 4398046511104
            · rw [if_pos c7] at H
              have LMc7 := Aside0.mk c7
              clear c7
              obtain ⟨y360, hy360⟩ : ∃ y_ : List (S47), y_ = (x7_1 ++ [(⟨0, wrap64 (a1 + x8_1), (⟨#[]⟩ : ByteArray)⟩ : S47)]) := ⟨_, rfl⟩
              replace H : (roadbookref18_Split.l0 k1 a0 a1 y360 (wrap64 (x8_1 + 1))) = some (r1, r2, r3) := by first | (rw [hy360]; with_reducible exact H) | (have H2_ := (Option.bind_some _ _).symm.trans H; rw [hy360]; with_reducible exact H2_) | (have H2_ := (Option.bind_some _ _).symm.trans H; with_reducible exact H2_) | with_reducible exact H | (rw [hy360]; exact H) | exact H
              have Ny360 := Aside0.mk hy360
              clear hy360
              have H' := Aside0.mk H
              clear H
              have p5 : 0 ≤ (x8_1 : Int) := odt
              have q5 : x8_1 < (a0.size : Int) := odt
              have hx5 := bt_at a0 x8_1
              replace p5 := eq_true p5
              replace q5 := eq_true q5
              go_wp2_with (first | ((with_reducible refine gate_builtin (b := .append) (xs := #[.tmp 18, .tmp 23]) rfl ?_); at_builtin; refine Kd.R_append k47 (w0 := w) w.heap.size rfl (.tmp 18) (.tmp 23) 30 47 (.agg #[(.int .i64 0), (.int .i64 0), (.string ⟨#[]⟩)]) 32 rfl Try.underlying30 info47 rfl (by decide) (by omega) u7 x7_1 (⟨0, wrap64 (a1 + x8_1), (⟨#[]⟩ : ByteArray)⟩ : S47) [.int .i64 0, .int .i64 (wrap64 (a1 + x8_1)), .string (⟨#[]⟩ : ByteArray)] (fun _ => True) (fun _ => False) rfl rfl ?aP (fun _ hk => hk.elim) ?aF ?aO ?aB ?aS ?aL ?_; (case aP => exact k47_mkM _ _ _ (⟨0, wrap64 (a1 + x8_1), (⟨#[]⟩ : ByteArray)⟩ : S47)); (case aB => exact (bel)); (case aF => exact (fun _ _ => trivial)); (case aO => exact (Kd.R_below HO_7.out bll)); (case aS => exact bsz); (case aL => have := LMc7.out; omega); intro v361 w8 ho hb hg hat; rw [← Ny360.out] at ho; have n0_ := Aside0.mk (hb); have n1_ := Aside0.mk (ho); clear HB; clear HO_7; have HB := n0_; have HO362 := n1_; clear n0_ n1_; clear ho hb hg hat))
              go_roundg k1
              case measure => have := HK1.out; omega
              case rel => exact ⟨(y360), (wrap64 (x8_1 + 1)), rfS, H', ⟨by have := HK1.out; omega⟩, ⟨Kd.R_below HO362.out bll⟩, ⟨bel⟩⟩
            · rw [if_neg c7] at H
              exact absurd H (by simp)
          · rw [if_neg c6] at H
            have c6b0 : ((bt a0 x8_1) == 0) = false := beq_eq_false_iff_ne.mpr c6
            have c6b1 : ((bt a0 x8_1) != 0) = true := bne_iff_ne.mpr c6
            by_cases c9 : (wrap64 ((a0.size : Int) - x8_1)) < 2
            · rw [if_pos c9] at H
              have c9b0 : decide ((wrap64 ((a0.size : Int) - x8_1)) < 2) = true := decide_eq_true c9
              clear c9
              simp only [Option.some.injEq, Prod.mk.injEq] at H
              obtain ⟨rfl, rfl, rfl⟩ := H
              have p5 : 0 ≤ (x8_1 : Int) := odt
              have q5 : x8_1 < (a0.size : Int) := odt
              have hx5 := bt_at a0 x8_1
              replace p5 := eq_true p5
              replace q5 := eq_true q5
              go_wp2
              go_ret3
              exact ⟨_, rtE, by first | exact Kd.R_nil _ _ _ _ _ | exact Kd.N_nil _ _ _ _ _ | exact Kd.V_nil _ _ _ _ _ | exact Kd.Q_nil _ _ _ _ _ | exact Kd.S_nil _ _ _ _ _, bel⟩
            · rw [if_neg c9] at H
              have c9b0 : decide ((wrap64 ((a0.size : Int) - x8_1)) < 2) = false := decide_eq_false c9
              clear c9
              obtain ⟨ji10, hji10⟩ : ∃ j_ : Int, (wrap64 (x8_1 + 1)) = j_ := ⟨_, rfl⟩
              replace H : (if 0 ≤ (ji10) then (if (ji10) < (a0.size : Int) then (if (wrap64 ((wrap64 ((a0.size : Int) - x8_1)) - 2)) < (wrap64 (bt a0 (ji10))) then (some (([] : List (S47)), wrap64 (a1 + x8_1), 2)) else (if 0 ≤ (wrap64 (x8_1 + 2)) then (if (wrap64 (x8_1 + 2)) ≤ (wrap64 ((wrap64 (x8_1 + 2)) + (wrap64 (bt a0 (ji10))))) then (if (wrap64 ((wrap64 (x8_1 + 2)) + (wrap64 (bt a0 (ji10))))) ≤ (a0.size : Int) then (if x7_1.length < 4398046511104 then (roadbookref18_Split.l0 k1 a0 a1 (x7_1 ++ [(⟨wrap64 (bt a0 x8_1), wrap64 (a1 + x8_1), a0.extract ((wrap64 (x8_1 + 2)) : Int).toNat ((wrap64 ((wrap64 (x8_1 + 2)) + (wrap64 (bt a0 (ji10))))) : Int).toNat⟩ : S47)]) (wrap64 ((wrap64 (x8_1 + 2)) + (wrap64 (bt a0 (ji10)))))) else (none)) else (none)) else (none)) else (none))) else (none)) else (none)) = some (r1, r2, r3) := by first | (rw [hji10] at H; exact H) | (simp only [hji10] at H ⊢; exact H)
              have hji10w : (IntKind.i64.wrap (x8_1 + 1)) = ji10 := (i64_w _).trans hji10
              by_cases c11 : 0 ≤ (ji10)
              · rw [if_pos c11] at H
                have c11b0 : decide (0 ≤ (ji10)) = true := decide_eq_true c11
                clear c11
                by_cases c12 : (ji10) < (a0.size : Int)
                · rw [if_pos c12] at H
                  have c12b0 : decide ((ji10) < (a0.size : Int)) = true := decide_eq_true c12
                  clear c12
                  by_cases c14 : (wrap64 ((wrap64 ((a0.size : Int) - x8_1)) - 2)) < (wrap64 (bt a0 (ji10)))
                  · rw [if_pos c14] at H
                    have c14b0 : decide ((wrap64 ((wrap64 ((a0.size : Int) - x8_1)) - 2)) < (wrap64 (bt a0 (ji10)))) = true := decide_eq_true c14
                    clear c14
                    simp only [Option.some.injEq, Prod.mk.injEq] at H
                    obtain ⟨rfl, rfl, rfl⟩ := H
                    have p5 : 0 ≤ (x8_1 : Int) := odt
                    have q5 : x8_1 < (a0.size : Int) := odt
                    have hx5 := bt_at a0 x8_1
                    replace p5 := eq_true p5
                    replace q5 := eq_true q5
                    have p13 : 0 ≤ ((ji10) : Int) := odt
                    have q13 : (ji10) < (a0.size : Int) := odt
                    have hx13 := bt_at a0 (ji10)
                    replace p13 := eq_true p13
                    replace q13 := eq_true q13
                    go_wp2
                    go_ret3
                    exact ⟨_, by first | rfl | (simp [errW_none, errW_some] <;> rfl) | (simp only [← hji10]; first | rfl | (simp [errW_none, errW_some] <;> rfl)) | (simp [*, errW_none, errW_some] <;> rfl), by first | exact Kd.R_nil _ _ _ _ _ | exact Kd.N_nil _ _ _ _ _ | exact Kd.V_nil _ _ _ _ _ | exact Kd.Q_nil _ _ _ _ _ | exact Kd.S_nil _ _ _ _ _, bel⟩
                  · rw [if_neg c14] at H
                    have c14b0 : decide ((wrap64 ((wrap64 ((a0.size : Int) - x8_1)) - 2)) < (wrap64 (bt a0 (ji10)))) = false := decide_eq_false c14
                    clear c14
                    obtain ⟨ji17, hji17⟩ : ∃ j_ : Int, (wrap64 (x8_1 + 2)) = j_ := ⟨_, rfl⟩
                    replace H : (if 0 ≤ (ji17) then (if (ji17) ≤ (wrap64 ((ji17) + (wrap64 (bt a0 (ji10))))) then (if (wrap64 ((ji17) + (wrap64 (bt a0 (ji10))))) ≤ (a0.size : Int) then (if x7_1.length < 4398046511104 then (roadbookref18_Split.l0 k1 a0 a1 (x7_1 ++ [(⟨wrap64 (bt a0 x8_1), wrap64 (a1 + x8_1), a0.extract ((ji17) : Int).toNat ((wrap64 ((ji17) + (wrap64 (bt a0 (ji10))))) : Int).toNat⟩ : S47)]) (wrap64 ((ji17) + (wrap64 (bt a0 (ji10)))))) else (none)) else (none)) else (none)) else (none)) = some (r1, r2, r3) := by first | (rw [hji17] at H; exact H) | (simp only [hji17] at H ⊢; exact H)
                    have hji17w : (IntKind.i64.wrap (x8_1 + 2)) = ji17 := (i64_w _).trans hji17
                    by_cases c18 : 0 ≤ (ji17)
                    · rw [if_pos c18] at H
                      have c18b0 := eq_true c18
                      have c18b1 : decide (0 ≤ (ji17)) = true := decide_eq_true c18
                      clear c18
                      by_cases c19 : (ji17) ≤ (wrap64 ((ji17) + (wrap64 (bt a0 (ji10)))))
                      · rw [if_pos c19] at H
                        have c19b0 := eq_true c19
                        have c19b1 : decide ((ji17) ≤ (wrap64 ((ji17) + (wrap64 (bt a0 (ji10)))))) = true := decide_eq_true c19
                        by_cases c20 : (wrap64 ((ji17) + (wrap64 (bt a0 (ji10))))) ≤ (a0.size : Int)
                        · rw [if_pos c20] at H
                          have c20b0 := eq_true c20
                          have c20b1 : decide ((wrap64 ((ji17) + (wrap64 (bt a0 (ji10))))) ≤ (a0.size : Int)) = true := decide_eq_true c20
                          by_cases c21 : x7_1.length < 4398046511104
                          · rw [if_pos c21] at H
                            have LMc21 := Aside0.mk c21
                            clear c21
                            obtain ⟨y363, hy363⟩ : ∃ y_ : List (S47), y_ = (x7_1 ++ [(⟨wrap64 (bt a0 x8_1), wrap64 (a1 + x8_1), a0.extract ((ji17) : Int).toNat ((wrap64 ((ji17) + (wrap64 (bt a0 (ji10))))) : Int).toNat⟩ : S47)]) := ⟨_, rfl⟩
                            replace H : (roadbookref18_Split.l0 k1 a0 a1 y363 (wrap64 ((ji17) + (wrap64 (bt a0 (ji10)))))) = some (r1, r2, r3) := by first | (rw [hy363]; with_reducible exact H) | (have H2_ := (Option.bind_some _ _).symm.trans H; rw [hy363]; with_reducible exact H2_) | (have H2_ := (Option.bind_some _ _).symm.trans H; with_reducible exact H2_) | with_reducible exact H | (rw [hy363]; exact H) | exact H
                            have Ny363 := Aside0.mk hy363
                            clear hy363
                            have H' := Aside0.mk H
                            clear H
                            have p5 : 0 ≤ (x8_1 : Int) := odt
                            have q5 : x8_1 < (a0.size : Int) := odt
                            have hx5 := bt_at a0 x8_1
                            replace p5 := eq_true p5
                            replace q5 := eq_true q5
                            have p13 : 0 ≤ ((ji10) : Int) := odt
                            have q13 : (ji10) < (a0.size : Int) := odt
                            have hx13 := bt_at a0 (ji10)
                            replace p13 := eq_true p13
                            replace q13 := eq_true q13
                            have p15 : 0 ≤ ((ji10) : Int) := odt
                            have q15 : (ji10) < (a0.size : Int) := odt
                            have hx15 := bt_at a0 (ji10)
                            replace p15 := eq_true p15
                            replace q15 := eq_true q15
                            try go_wp2
                            have n0_ := Aside0.mk (Kd.R_drew HO_7.out)
                            have n1_ := Aside0.mk (below_drew1 HB.out)
                            clear HO_7
                            clear HB
                            have HO_7 := n0_
                            have HB := n1_
                            clear n0_ n1_
                            have p16 : 0 ≤ (x8_1 : Int) := odt
                            have q16 : x8_1 < (a0.size : Int) := odt
                            have hx16 := bt_at a0 x8_1
                            replace p16 := eq_true p16
                            replace q16 := eq_true q16
                            refine start_ (n := 20) (S := fun w' => True) (ds := []) #[false, false, false, false, false, false, false, false, false, false, false, false, false, false, false, false, false, false, false, false] (by kernel_rfl) rfl rfl trivial (fun hHeld => ?_); refine with_tabW roadbookref18_Split.tab10 roadbookref18_Split.bits10 (fun HT_ HW_ => ?_)
                            generalize wr.drew = w22 at HO_7 HB hHeld ⊢
                            refine pure_ (i := 0) (N := some 53) (v := ?_) (a' := ?_) #[true, false, false, false, false, false, false, false, false, false, false, false, false, false, false, false, false, false, false, false] rfl rfl (any_of HT_.out (by kernel_rfl)) (fun _ _ _ h => h) (Or.inl ⟨by rfl, ?_⟩) ?_ ?_
                            rotate_left
                            · intro w'
                              go_simp
                              with_reducible rfl
                            rotate_left
                            · simp only [Act.put, List.setIfInBounds_toArray, List.set_cons_zero, List.set_cons_succ, i64_w, i32_w]
                              rfl
                            refine pure_ (i := 1) (N := some 54) (v := ?_) (a' := ?_) #[true, true, false, false, false, false, false, false, false, false, false, false, false, false, false, false, false, false, false, false] rfl rfl (any_of HT_.out (by kernel_rfl)) (fun _ _ _ h => h) (Or.inl ⟨by rfl, ?_⟩) ?_ ?_
                            rotate_left
                            · intro w'
                              go_simp
                              with_reducible rfl
                            rotate_left
                            · simp only [Act.put, List.setIfInBounds_toArray, List.set_cons_zero, List.set_cons_succ, i64_w, i32_w]
                              rfl
                            refine pure_ (i := 2) (N := some 55) (v := ?_) (a' := ?_) #[true, true, true, false, false, false, false, false, false, false, false, false, false, false, false, false, false, false, false, false] rfl rfl (any_of HT_.out (by kernel_rfl)) (fun _ _ _ h => h) (Or.inl ⟨by rfl, ?_⟩) ?_ ?_
                            rotate_left
                            · intro w'
                              go_simp
                              with_reducible rfl
                            rotate_left
                            · simp only [Act.put, List.setIfInBounds_toArray, List.set_cons_zero, List.set_cons_succ, i64_w, i32_w]
                              rfl
                            refine pure_ (i := 5) (N := some 58) (v := ?_) (a' := ?_) #[true, true, true, false, false, true, false, false, false, false, false, false, false, false, false, false, false, false, false, false] rfl rfl (any_of HT_.out (by kernel_rfl)) (fun _ _ _ h => h) (Or.inl ⟨by rfl, ?_⟩) ?_ ?_
                            rotate_left
                            · intro w'
                              go_simp
                              with_reducible rfl
                            rotate_left
                            · simp only [Act.put, List.setIfInBounds_toArray, List.set_cons_zero, List.set_cons_succ, i64_w, i32_w]
                              rfl
                            refine pure_ (i := 6) (N := some 59) (v := ?_) (a' := ?_) #[true, true, true, false, false, true, true, false, false, false, false, false, false, false, false, false, false, false, false, false] rfl rfl (any_of HT_.out (by kernel_rfl)) (fun _ _ _ h => h) (Or.inl ⟨by rfl, ?_⟩) ?_ ?_
                            rotate_left
                            · intro w'
                              go_simp
                              with_reducible rfl
                            rotate_left
                            · simp only [Act.put, List.setIfInBounds_toArray, List.set_cons_zero, List.set_cons_succ, i64_w, i32_w]
                              rfl
                            refine pure_ (i := 7) (N := some 60) (v := ?_) (a' := ?_) #[true, true, true, false, false, true, true, true, false, false, false, false, false, false, false, false, false, false, false, false] rfl rfl (any_of HT_.out (by kernel_rfl)) (fun _ _ _ h => h) (Or.inl ⟨by rfl, ?_⟩) ?_ ?_
                            rotate_left
                            · intro w'
                              go_simp
                              with_reducible rfl
                            rotate_left
                            · simp only [Act.put, List.setIfInBounds_toArray, List.set_cons_zero, List.set_cons_succ, i64_w, i32_w]
                              rfl
                            refine pure_ (i := 8) (N := some 61) (v := ?_) (a' := ?_) #[true, true, true, false, false, true, true, true, true, false, false, false, false, false, false, false, false, false, false, false] rfl rfl (any_of HT_.out (by kernel_rfl)) (fun _ _ _ h => h) (Or.inl ⟨by rfl, ?_⟩) ?_ ?_
                            rotate_left
                            · intro w'
                              go_simp
                              with_reducible rfl
                            rotate_left
                            · simp only [Act.put, List.setIfInBounds_toArray, List.set_cons_zero, List.set_cons_succ, i64_w, i32_w]
                              rfl
                            refine pure_ (i := 9) (N := some 62) (v := ?_) (a' := ?_) #[true, true, true, false, false, true, true, true, true, true, false, false, false, false, false, false, false, false, false, false] rfl rfl (any_of HT_.out (by kernel_rfl)) (fun _ _ _ h => h) (Or.inl ⟨by rfl, ?_⟩) ?_ ?_
                            rotate_left
                            · intro w'
                              go_simp
                              with_reducible rfl
                            rotate_left
                            · simp only [Act.put, List.setIfInBounds_toArray, List.set_cons_zero, List.set_cons_succ, i64_w, i32_w]
                              rfl
                            refine pure_ (i := 10) (N := some 63) (v := ?_) (a' := ?_) #[true, true, true, false, false, true, true, true, true, true, true, false, false, false, false, false, false, false, false, false] rfl rfl (any_of HT_.out (by kernel_rfl)) (fun _ _ _ h => h) (Or.inl ⟨by rfl, ?_⟩) ?_ ?_
                            rotate_left
                            · intro w'
                              go_simp
                              with_reducible rfl
                            rotate_left
                            · simp only [Act.put, List.setIfInBounds_toArray, List.set_cons_zero, List.set_cons_succ, i64_w, i32_w]
                              rfl
                            refine pure_ (i := 11) (N := some 64) (v := ?_) (a' := ?_) #[true, true, true, false, false, true, true, true, true, true, true, true, false, false, false, false, false, false, false, false] rfl rfl (any_of HT_.out (by kernel_rfl)) (fun _ _ _ h => h) (Or.inl ⟨by rfl, ?_⟩) ?_ ?_
                            rotate_left
                            · intro w'
                              go_simp
                              with_reducible rfl
                            rotate_left
                            · simp only [Act.put, List.setIfInBounds_toArray, List.set_cons_zero, List.set_cons_succ, i64_w, i32_w]
                              rfl
                            refine pure_ (i := 12) (N := some 65) (v := ?_) (a' := ?_) #[true, true, true, false, false, true, true, true, true, true, true, true, true, false, false, false, false, false, false, false] rfl rfl (any_of HT_.out (by kernel_rfl)) (fun _ _ _ h => h) (Or.inl ⟨by rfl, ?_⟩) ?_ ?_
                            rotate_left
                            · intro w'
                              go_simp
                              with_reducible rfl
                            rotate_left
                            · simp only [Act.put, List.setIfInBounds_toArray, List.set_cons_zero, List.set_cons_succ, i64_w, i32_w]
                              rfl
                            refine pure_ (i := 13) (N := some 66) (v := ?_) (a' := ?_) #[true, true, true, false, false, true, true, true, true, true, true, true, true, true, false, false, false, false, false, false] rfl rfl (any_of HT_.out (by kernel_rfl)) (fun _ _ _ h => h) (Or.inl ⟨by rfl, ?_⟩) ?_ ?_
                            rotate_left
                            · intro w'
                              go_simp
                              with_reducible rfl
                            rotate_left
                            · simp only [Act.put, List.setIfInBounds_toArray, List.set_cons_zero, List.set_cons_succ, i64_w, i32_w]
                              rfl
                            refine pure_ (i := 14) (N := some 67) (v := ?_) (a' := ?_) #[true, true, true, false, false, true, true, true, true, true, true, true, true, true, true, false, false, false, false, false] rfl rfl (any_of HT_.out (by kernel_rfl)) (fun _ _ _ h => h) (Or.inl ⟨by rfl, ?_⟩) ?_ ?_
                            rotate_left
                            · intro w'
                              go_simp
                              with_reducible rfl
                            rotate_left
                            · simp only [Act.put, List.setIfInBounds_toArray, List.set_cons_zero, List.set_cons_succ, i64_w, i32_w]
                              rfl
                            refine pure_ (i := 15) (N := some 68) (v := ?_) (a' := ?_) #[true, true, true, false, false, true, true, true, true, true, true, true, true, true, true, true, false, false, false, false] rfl rfl (any_of HT_.out (by kernel_rfl)) (fun _ _ _ h => h) (Or.inl ⟨by rfl, ?_⟩) ?_ ?_
                            rotate_left
                            · intro w'
                              go_simp
                              with_reducible rfl
                            rotate_left
                            · simp only [Act.put, List.setIfInBounds_toArray, List.set_cons_zero, List.set_cons_succ, i64_w, i32_w]
                              rfl
                            refine take_ (i := 3) (N := some 56) (v := ?_) (a' := ?_) #[true, true, true, true, false, true, true, true, true, true, true, true, true, true, true, true, false, false, false, false] rfl rfl (take_ofW HT_.out HW_.out (by kernel_rfl)) (fun _ _ _ h => h) (Or.inl ⟨by rfl, ?_⟩) hHeld ?_ ?_
                            rotate_left
                            · intro w' _
                              go_simp
                              with_reducible rfl
                            rotate_left
                            · simp only [Act.put, List.setIfInBounds_toArray, List.set_cons_zero, List.set_cons_succ, i64_w, i32_w]
                              rfl
                            refine pure_ (i := 4) (N := some 57) (v := ?_) (a' := ?_) #[true, true, true, true, true, true, true, true, true, true, true, true, true, true, true, true, false, false, false, false] rfl rfl (any_of HT_.out (by kernel_rfl)) (fun _ _ _ h => h) (Or.inl ⟨by rfl, ?_⟩) ?_ ?_
                            rotate_left
                            · intro w'
                              go_simp
                              with_reducible rfl
                            rotate_left
                            · simp only [Act.put, List.setIfInBounds_toArray, List.set_cons_zero, List.set_cons_succ, i64_w, i32_w]
                              rfl
                            refine pure_ (i := 16) (N := some 69) (v := ?_) (a' := ?_) #[true, true, true, true, true, true, true, true, true, true, true, true, true, true, true, true, true, false, false, false] rfl rfl (any_of HT_.out (by kernel_rfl)) (fun _ _ _ h => h) (Or.inl ⟨by rfl, ?_⟩) ?_ ?_
                            rotate_left
                            · intro w'
                              go_simp
                              with_reducible rfl
                            rotate_left
                            · simp only [Act.put, List.setIfInBounds_toArray, List.set_cons_zero, List.set_cons_succ, i64_w, i32_w]
                              rfl
                            refine one_ (i := 17) (N := some 70) #[true, true, true, true, true, true, true, true, true, true, true, true, true, true, true, true, true, true, false, false] rfl rfl (one_of HT_.out (by kernel_rfl)) (by decide) (fun K hK => ?_)
                            refine value_ (w1 := ?_) (v := ?_) (by rfl) rfl ?_ ?_
                            rotate_left 2
                            · go_simp
                              constructor
                              · rfl
                              · rfl
                            refine hK.out _ _ trivial (fun hHeld => ?_)
                            clear hK K
                            refine norm_ (a' := ?_) ?_ ?_
                            rotate_left
                            · show Act.put _ (some 70) _ = _
                              simp only [Act.put, List.setIfInBounds_toArray, List.set_cons_zero, List.set_cons_succ, i64_w, i32_w]
                              rfl
                            refine one_ (i := 18) (N := some 71) #[true, true, true, true, true, true, true, true, true, true, true, true, true, true, true, true, true, true, true, false] rfl rfl (one_of HT_.out (by kernel_rfl)) (by decide) (fun K hK => ?_)
                            refine Kd.R_append_step k47 (w0 := w) w.heap.size (by rfl) (.tmp 53) (.tmp 70) 30 47 (.agg #[(.int .i64 0), (.int .i64 0), (.string ⟨#[]⟩)]) 32 rfl Try.underlying30 info47 rfl (by decide) (by omega) u7 x7_1 (⟨wrap64 (bt a0 x8_1), wrap64 (a1 + x8_1), a0.extract ((ji17) : Int).toNat ((wrap64 ((ji17) + (wrap64 (bt a0 (ji10))))) : Int).toNat⟩ : S47) [.int .i64 (wrap64 (bt a0 x8_1)), .int .i64 (wrap64 (a1 + x8_1)), .string (a0.extract ((ji17) : Int).toNat ((wrap64 ((ji17) + (wrap64 (bt a0 (ji10))))) : Int).toNat)] (fun _ => True) (fun _ => False) rfl rfl ?aP (fun _ hk => hk.elim) ?aF ?aO ?aB ?aS ?aL ?_
                            (case aP => exact k47_mkM _ _ _ (⟨wrap64 (bt a0 x8_1), wrap64 (a1 + x8_1), a0.extract ((ji17) : Int).toNat ((wrap64 ((ji17) + (wrap64 (bt a0 (ji10))))) : Int).toNat⟩ : S47))
                            (case aB => exact (bel))
                            (case aF => exact (fun _ _ => trivial))
                            (case aO => exact (Kd.R_below HO_7.out bll))
                            (case aS => exact bsz)
                            (case aL => have := LMc21.out; omega)
                            intro v364 w23 ho hb hg hat
                            rw [← Ny363.out] at ho
                            have n0_ := Aside0.mk (hb)
                            have n1_ := Aside0.mk (ho)
                            clear HB
                            clear HO_7
                            have HB := n0_
                            have HO365 := n1_
                            clear n0_ n1_
                            clear ho hb hg hat
                            refine hK.out _ _ trivial (fun hHeld => ?_)
                            clear hK K
                            refine norm_ (a' := ?_) ?_ ?_
                            rotate_left
                            · show Act.put _ (some 71) _ = _
                              simp only [Act.put, List.setIfInBounds_toArray, List.set_cons_zero, List.set_cons_succ, i64_w, i32_w]
                              rfl
                            refine pure_ (i := 19) (N := some 7) (v := ?_) (a' := ?_) #[true, true, true, true, true, true, true, true, true, true, true, true, true, true, true, true, true, true, true, true] rfl rfl (any_of HT_.out (by kernel_rfl)) (fun _ _ _ h => h) (Or.inl ⟨by rfl, ?_⟩) ?_ ?_
                            rotate_left
                            · intro w'
                              go_simp
                              with_reducible rfl
                            rotate_left
                            · simp only [Act.put, List.setIfInBounds_toArray, List.set_cons_zero, List.set_cons_succ, i64_w, i32_w]
                              rfl
                            refine done_ (done_of HT_.out (by kernel_rfl)) ?_
                            try go_wp2
                            go_roundg k1
                            case measure => have := HK1.out; omega
                            case rel => exact ⟨(y363), (wrap64 ((ji17) + (wrap64 (bt a0 (ji10))))), (by first | rfl | (simp; done) | (simp only [← hji10, ← hji17] <;> (first | rfl | simp)) | (simp [*]; done)), H', ⟨by have := HK1.out; omega⟩, ⟨Kd.R_below HO365.out bll⟩, ⟨bel⟩⟩
                          · rw [if_neg c21] at H
                            exact absurd H (by simp)
                        · rw [if_neg c20] at H
                          exact absurd H (by simp)
                      · rw [if_neg c19] at H
                        exact absurd H (by simp)
                    · rw [if_neg c18] at H
                      exact absurd H (by simp)
                · rw [if_neg c12] at H
                  exact absurd H (by simp)
              · rw [if_neg c11] at H
                exact absurd H (by simp)
        · rw [if_neg c4] at H
          exact absurd H (by simp)
      · rw [if_neg c3] at H
        have c3b0 : decide (x8_1 < (a0.size : Int)) = false := decide_eq_false c3
        clear c3
        simp only [Option.some.injEq, Prod.mk.injEq] at H
        obtain ⟨rfl, rfl, rfl⟩ := H
        go_wp2
        go_ret3
        exact ⟨_, rtE, by (with_reducible repeat (first | apply Kd.R_alloc | apply Kd.R_drewN | apply Kd.R_drew)); exact HO_7.out, bel⟩

/-! ### frame_Put: function 27 -/
def frame_Put.f (a0 : Int) (a1 : ByteArray) : Option (ByteArray × Bool) := if a0 < 1 then (some ((⟨#[]⟩ : ByteArray), false)) else (if a0 > 255 then (some ((⟨#[]⟩ : ByteArray), false)) else (if (a1.size : Int) > 255 then (some ((⟨#[]⟩ : ByteArray), false)) else ((some (([(a0) % 256, ((a1.size : Int)) % 256] : List Int) : List Int)).bind fun y366 => (if (strOfNums y366).size + a1.size ≤ 9223372036854775807 then (some ((strOfNums y366) ++ a1, true)) else (none)))))
set_option maxHeartbeats 8000000 in
set_option maxRecDepth 100000 in
theorem frame_Put.calls (a0 : Int) (a1 : ByteArray) (r1 : ByteArray) (r2 : Bool) (w : World) (h : frame_Put.f a0 a1 = some (r1, r2)) :
    Calls Try.prog 27 #[.int .i64 a0, .string a1] w fun e w' => e = .returned (.tuple #[.string r1, .bool r2]) ∧ Below w.heap.size w w' := by
  have HB := Aside0.mk (Below.refl w.heap.size w)
  have H : (if a0 < 1 then (some ((⟨#[]⟩ : ByteArray), false)) else (if a0 > 255 then (some ((⟨#[]⟩ : ByteArray), false)) else (if (a1.size : Int) > 255 then (some ((⟨#[]⟩ : ByteArray), false)) else ((some (([(a0) % 256, ((a1.size : Int)) % 256] : List Int) : List Int)).bind fun y366 => (if (strOfNums y366).size + a1.size ≤ 9223372036854775807 then (some ((strOfNums y366) ++ a1, true)) else (none)))))) = some (r1, r2) := h
  clear h
  by_cases c3 : a0 < 1
  · rw [if_pos c3] at H
    have c3b0 : decide (a0 < 1) = true := decide_eq_true c3
    clear c3
    simp only [Option.some.injEq, Prod.mk.injEq] at H
    obtain ⟨rfl, rfl⟩ := H
    go_enter Try.func27, Try.ntmps27
    go_wp2
    go_ret2
    exact ⟨rtE, bel⟩
  · rw [if_neg c3] at H
    have c3b0 : decide (a0 < 1) = false := decide_eq_false c3
    clear c3
    by_cases c4 : a0 > 255
    · rw [if_pos c4] at H
      have c4b0 : decide (255 < a0) = true := decide_eq_true c4
      clear c4
      simp only [Option.some.injEq, Prod.mk.injEq] at H
      obtain ⟨rfl, rfl⟩ := H
      go_enter Try.func27, Try.ntmps27
      go_wp2
      go_ret2
      exact ⟨rtE, bel⟩
    · rw [if_neg c4] at H
      have c4b0 : decide (255 < a0) = false := decide_eq_false c4
      clear c4
      by_cases c5 : (a1.size : Int) > 255
      · rw [if_pos c5] at H
        have c5b0 : decide (255 < (a1.size : Int)) = true := decide_eq_true c5
        have c5b1 : decide (255 < a1.size) = true := decide_eq_true (by omega)
        clear c5
        simp only [Option.some.injEq, Prod.mk.injEq] at H
        obtain ⟨rfl, rfl⟩ := H
        go_enter Try.func27, Try.ntmps27
        go_wp2
        go_ret2
        exact ⟨rtE, bel⟩
      · rw [if_neg c5] at H
        have c5b0 : decide (255 < (a1.size : Int)) = false := decide_eq_false c5
        have c5b1 : decide (255 < a1.size) = false := decide_eq_false (by omega)
        clear c5
        obtain ⟨y366, hy366⟩ : ∃ y_ : List Int, y_ = (([(a0) % 256, ((a1.size : Int)) % 256] : List Int)) := ⟨_, rfl⟩
        replace H : (if (strOfNums y366).size + a1.size ≤ 9223372036854775807 then (some ((strOfNums y366) ++ a1, true)) else (none)) = some (r1, r2) := by first | (rw [hy366]; with_reducible exact H) | (have H2_ := (Option.bind_some _ _).symm.trans H; rw [hy366]; with_reducible exact H2_) | (have H2_ := (Option.bind_some _ _).symm.trans H; with_reducible exact H2_) | with_reducible exact H | (rw [hy366]; exact H) | exact H
        have Ny366 := Aside0.mk hy366
        clear hy366
        by_cases c6 : (strOfNums y366).size + a1.size ≤ 9223372036854775807
        · rw [if_pos c6] at H
          have c6b0 := eq_true c6
          have c6b1 : decide ((strOfNums y366).size + a1.size ≤ 9223372036854775807) = true := decide_eq_true c6
          try have c6b2 : (9223372036854775807 < (strOfNums y366).size + a1.size) = False := eq_false (Nat.not_lt.2 c6)
          simp only [Option.some.injEq, Prod.mk.injEq] at H
          obtain ⟨rfl, rfl⟩ := H
          go_enter Try.func27, Try.ntmps27
          go_wp2_with (first | ((with_reducible refine gate_dst (N := 22) rfl ?_); refine Kd.R_lit (Kd.int .u8) _ 5 ?hg (N := 22) ?hd (xs := ([(a0) % 256, ((a1.size : Int)) % 256] : List Int)) (inner := [.int .u8 ((a0) % 256), .int .u8 (((a1.size : Int)) % 256)]) (ok := fun _ => True) (okp := fun _ => True) ?hr ?hp (fun _ hk => hk) trivial (Below.refl _ _) (Nat.le_refl _) (by simp) ?_; (case hd => rfl); (case hg => rfl); (case hr => first | (go_simp; done) | (go_simp; rfl)); (case hp => exact (Reps.one (show Kd.M (Kd.int .u8) _ _ _ ((a0) % 256) [.int .u8 ((a0) % 256)] from rfl) (Reps.one (show Kd.M (Kd.int .u8) _ _ _ (((a1.size : Int)) % 256) [.int .u8 (((a1.size : Int)) % 256)] from rfl) (Reps.none _ _)))); intro v367 w7 ho8 hb hg_ hnew_; clear hg_ hnew_; (first | rw [← Ny366.out] at ho8 | (simp only [Int.reduceToNat] at ho8; rw [← Ny366.out] at ho8)); have n0_ := Aside0.mk (Kd.R_lower ho8 bsz); have n1_ := Aside0.mk (below_step (bel) hb); clear HB; have HO368 := n0_; have HB := n1_; clear n0_ n1_; clear hb ho8; have hcv9 := own_string (P := Try.prog) Try.underlying55 Try.underlying5 Try.underlying9 (Kd.own_of_R HO368.out)))
          go_ret2
          exact ⟨rtE, bel⟩
        · rw [if_neg c6] at H
          exact absurd H (by simp)

/-! ### roadbookref18_Put: function 28 -/
def roadbookref18_Put.f (a0 : Int) (a1 : ByteArray) : Option (ByteArray × Bool) := if a0 < 1 then (some ((⟨#[]⟩ : ByteArray), false)) else (if a0 > 255 then (some ((⟨#[]⟩ : ByteArray), false)) else (if (a1.size : Int) > 255 then (some ((⟨#[]⟩ : ByteArray), false)) else ((some (([(a0) % 256, ((a1.size : Int)) % 256] : List Int) : List Int)).bind fun y369 => (if (strOfNums y369).size + a1.size ≤ 9223372036854775807 then (some ((strOfNums y369) ++ a1, true)) else (none)))))
set_option maxHeartbeats 8000000 in
set_option maxRecDepth 100000 in
theorem roadbookref18_Put.calls (a0 : Int) (a1 : ByteArray) (r1 : ByteArray) (r2 : Bool) (w : World) (h : roadbookref18_Put.f a0 a1 = some (r1, r2)) :
    Calls Try.prog 28 #[.int .i64 a0, .string a1] w fun e w' => e = .returned (.tuple #[.string r1, .bool r2]) ∧ Below w.heap.size w w' := by
  have HB := Aside0.mk (Below.refl w.heap.size w)
  have H : (if a0 < 1 then (some ((⟨#[]⟩ : ByteArray), false)) else (if a0 > 255 then (some ((⟨#[]⟩ : ByteArray), false)) else (if (a1.size : Int) > 255 then (some ((⟨#[]⟩ : ByteArray), false)) else ((some (([(a0) % 256, ((a1.size : Int)) % 256] : List Int) : List Int)).bind fun y369 => (if (strOfNums y369).size + a1.size ≤ 9223372036854775807 then (some ((strOfNums y369) ++ a1, true)) else (none)))))) = some (r1, r2) := h
  clear h
  by_cases c3 : a0 < 1
  · rw [if_pos c3] at H
    have c3b0 : decide (a0 < 1) = true := decide_eq_true c3
    clear c3
    simp only [Option.some.injEq, Prod.mk.injEq] at H
    obtain ⟨rfl, rfl⟩ := H
    go_enter Try.func28, Try.ntmps28
    go_wp2
    go_ret2
    exact ⟨rtE, bel⟩
  · rw [if_neg c3] at H
    have c3b0 : decide (a0 < 1) = false := decide_eq_false c3
    clear c3
    by_cases c4 : a0 > 255
    · rw [if_pos c4] at H
      have c4b0 : decide (255 < a0) = true := decide_eq_true c4
      clear c4
      simp only [Option.some.injEq, Prod.mk.injEq] at H
      obtain ⟨rfl, rfl⟩ := H
      go_enter Try.func28, Try.ntmps28
      go_wp2
      go_ret2
      exact ⟨rtE, bel⟩
    · rw [if_neg c4] at H
      have c4b0 : decide (255 < a0) = false := decide_eq_false c4
      clear c4
      by_cases c5 : (a1.size : Int) > 255
      · rw [if_pos c5] at H
        have c5b0 : decide (255 < (a1.size : Int)) = true := decide_eq_true c5
        have c5b1 : decide (255 < a1.size) = true := decide_eq_true (by omega)
        clear c5
        simp only [Option.some.injEq, Prod.mk.injEq] at H
        obtain ⟨rfl, rfl⟩ := H
        go_enter Try.func28, Try.ntmps28
        go_wp2
        go_ret2
        exact ⟨rtE, bel⟩
      · rw [if_neg c5] at H
        have c5b0 : decide (255 < (a1.size : Int)) = false := decide_eq_false c5
        have c5b1 : decide (255 < a1.size) = false := decide_eq_false (by omega)
        clear c5
        obtain ⟨y369, hy369⟩ : ∃ y_ : List Int, y_ = (([(a0) % 256, ((a1.size : Int)) % 256] : List Int)) := ⟨_, rfl⟩
        replace H : (if (strOfNums y369).size + a1.size ≤ 9223372036854775807 then (some ((strOfNums y369) ++ a1, true)) else (none)) = some (r1, r2) := by first | (rw [hy369]; with_reducible exact H) | (have H2_ := (Option.bind_some _ _).symm.trans H; rw [hy369]; with_reducible exact H2_) | (have H2_ := (Option.bind_some _ _).symm.trans H; with_reducible exact H2_) | with_reducible exact H | (rw [hy369]; exact H) | exact H
        have Ny369 := Aside0.mk hy369
        clear hy369
        by_cases c6 : (strOfNums y369).size + a1.size ≤ 9223372036854775807
        · rw [if_pos c6] at H
          have c6b0 := eq_true c6
          have c6b1 : decide ((strOfNums y369).size + a1.size ≤ 9223372036854775807) = true := decide_eq_true c6
          try have c6b2 : (9223372036854775807 < (strOfNums y369).size + a1.size) = False := eq_false (Nat.not_lt.2 c6)
          simp only [Option.some.injEq, Prod.mk.injEq] at H
          obtain ⟨rfl, rfl⟩ := H
          go_enter Try.func28, Try.ntmps28
          go_wp2_with (first | ((with_reducible refine gate_dst (N := 22) rfl ?_); refine Kd.R_lit (Kd.int .u8) _ 5 ?hg (N := 22) ?hd (xs := ([(a0) % 256, ((a1.size : Int)) % 256] : List Int)) (inner := [.int .u8 ((a0) % 256), .int .u8 (((a1.size : Int)) % 256)]) (ok := fun _ => True) (okp := fun _ => True) ?hr ?hp (fun _ hk => hk) trivial (Below.refl _ _) (Nat.le_refl _) (by simp) ?_; (case hd => rfl); (case hg => rfl); (case hr => first | (go_simp; done) | (go_simp; rfl)); (case hp => exact (Reps.one (show Kd.M (Kd.int .u8) _ _ _ ((a0) % 256) [.int .u8 ((a0) % 256)] from rfl) (Reps.one (show Kd.M (Kd.int .u8) _ _ _ (((a1.size : Int)) % 256) [.int .u8 (((a1.size : Int)) % 256)] from rfl) (Reps.none _ _)))); intro v370 w7 ho8 hb hg_ hnew_; clear hg_ hnew_; (first | rw [← Ny369.out] at ho8 | (simp only [Int.reduceToNat] at ho8; rw [← Ny369.out] at ho8)); have n0_ := Aside0.mk (Kd.R_lower ho8 bsz); have n1_ := Aside0.mk (below_step (bel) hb); clear HB; have HO371 := n0_; have HB := n1_; clear n0_ n1_; clear hb ho8; have hcv9 := own_string (P := Try.prog) Try.underlying55 Try.underlying5 Try.underlying9 (Kd.own_of_R HO371.out)))
          go_ret2
          exact ⟨rtE, bel⟩
        · rw [if_neg c6] at H
          exact absurd H (by simp)

end Go.Proofs.Ytjgnpggpgkkknaa.Pr
