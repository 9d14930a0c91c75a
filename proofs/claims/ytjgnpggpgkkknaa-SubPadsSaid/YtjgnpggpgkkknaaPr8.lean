-- Written by wip/tools/xprint.py of this repo over the kit's printer, out of the translation. Lean checks it.
import Derived.Test.YtjgnpggpgkkknaaPr0
import Derived.Test.YtjgnpggpgkkknaaPr7
namespace Go.Proofs.Ytjgnpggpgkkknaa.Pr
open Go.RowKit Go.Proofs.YtjgnpggpgkkknaaW.PrintWords Go.Proofs.YtjgnpggpgkkknaaW.PrintLast
set_option linter.unusedVariables false
set_option linter.unusedSimpArgs false

/-! ### cursor_Text: function 56 -/
def cursor_Text.f (a0_0 : ByteArray) (a0_1 : Int) (a0_2 : Int) (a0_3 : Bool) (a1 : Int) : Option (ByteArray × ByteArray × Int × Int × Bool) := (cursor_step.f a0_0 a0_1 a0_2 a0_3 a1).bind fun bt144 => (if bt144.2.2.2.2 = true then (if 0 ≤ a0_1 then (if a0_1 ≤ bt144.2.1 then (if bt144.2.1 ≤ (a0_0.size : Int) then (some (a0_0.extract (a0_1 : Int).toNat (bt144.2.1 : Int).toNat, bt144.1, bt144.2.1, bt144.2.2.1, bt144.2.2.2.1)) else (none)) else (none)) else (none)) else (some ((⟨#[]⟩ : ByteArray), bt144.1, bt144.2.1, bt144.2.2.1, bt144.2.2.2.1)))
def cursor_Text.T4 : Bool × List (List Nat × List Nat) := (true, [([], []), ([0], [0]), ([], []), ([2], [2]), ([], []), ([4], [4]), ([1, 3, 5], [1, 3, 5]), ([], []), ([6, 0, 1, 2, 3, 4, 5, 6], [6]), ([7, 8, 0, 1, 2, 3, 4, 5, 6, 7, 8], [7])])
def cursor_Text.B4 : List Nat := [0, 1, 0, 4, 0, 16, 63, 0, 127, 511]
theorem cursor_Text.tab4 : rtab .any (opsOf Try.f56 4) = cursor_Text.T4 := by kernel_rfl
theorem cursor_Text.bits4 : waitsOk cursor_Text.T4.2 cursor_Text.B4 = true := by kernel_rfl
set_option maxHeartbeats 8000000 in
set_option maxRecDepth 100000 in
theorem cursor_Text.calls (a0_0 : ByteArray) (a0_1 : Int) (a0_2 : Int) (a0_3 : Bool) (a1 : Int) (r1 : ByteArray) (r2 : ByteArray) (r3 : Int) (r4 : Int) (r5 : Bool) (w : World) (h : cursor_Text.f a0_0 a0_1 a0_2 a0_3 a1 = some (r1, r2, r3, r4, r5)) :
    Calls Try.prog 56 #[.agg #[.string a0_0, .int .i64 a0_1, .int .i64 a0_2, .bool a0_3], .int .i64 a1] w fun e w' => e = .returned (.tuple #[.string r1, .agg #[.string r2, .int .i64 r3, .int .i64 r4, .bool r5]]) ∧ Below w.heap.size w w' := by
  have hu60 := Try.underlying60
  have HB := Aside0.mk (Below.refl w.heap.size w)
  have H : ((cursor_step.f a0_0 a0_1 a0_2 a0_3 a1).bind fun bt144 => (if bt144.2.2.2.2 = true then (if 0 ≤ a0_1 then (if a0_1 ≤ bt144.2.1 then (if bt144.2.1 ≤ (a0_0.size : Int) then (some (a0_0.extract (a0_1 : Int).toNat (bt144.2.1 : Int).toNat, bt144.1, bt144.2.1, bt144.2.2.1, bt144.2.2.2.1)) else (none)) else (none)) else (none)) else (some ((⟨#[]⟩ : ByteArray), bt144.1, bt144.2.1, bt144.2.2.1, bt144.2.2.2.1)))) = some (r1, r2, r3, r4, r5) := h
  clear h
  replace H := Option.bind_eq_some_iff.mp H
  obtain ⟨⟨t144, t145, t146, t147, t148⟩, A30, H⟩ := H
  replace H : (if t148 = true then (if 0 ≤ a0_1 then (if a0_1 ≤ t145 then (if t145 ≤ (a0_0.size : Int) then (some (a0_0.extract (a0_1 : Int).toNat (t145 : Int).toNat, t144, t145, t146, t147)) else (none)) else (none)) else (none)) else (some ((⟨#[]⟩ : ByteArray), t144, t145, t146, t147))) = some (r1, r2, r3, r4, r5) := H
  have A3 := Aside0.mk A30
  clear A30
  by_cases c4 : t148 = true
  · subst c4
    have H1 : (if 0 ≤ a0_1 then (if a0_1 ≤ t145 then (if t145 ≤ (a0_0.size : Int) then (some (a0_0.extract (a0_1 : Int).toNat (t145 : Int).toNat, t144, t145, t146, t147)) else (none)) else (none)) else (none)) = some (r1, r2, r3, r4, r5) := by rw [if_pos rfl] at H; exact H
    clear H
    have H := H1
    clear H1
    by_cases c5 : 0 ≤ a0_1
    · rw [if_pos c5] at H
      have c5b0 := eq_true c5
      have c5b1 : decide (0 ≤ a0_1) = true := decide_eq_true c5
      clear c5
      by_cases c6 : a0_1 ≤ t145
      · rw [if_pos c6] at H
        have c6b0 := eq_true c6
        have c6b1 : decide (a0_1 ≤ t145) = true := decide_eq_true c6
        clear c6
        by_cases c7 : t145 ≤ (a0_0.size : Int)
        · rw [if_pos c7] at H
          have c7b0 := eq_true c7
          have c7b1 : decide (t145 ≤ (a0_0.size : Int)) = true := decide_eq_true c7
          clear c7
          simp only [Option.some.injEq, Prod.mk.injEq] at H
          obtain ⟨rfl, rfl, rfl, rfl, rfl⟩ := H
          go_enter Try.func56, Try.ntmps56
          try go_wp2_with (first | ((with_reducible refine gate_dst (N := 2) rfl ?_); refine box_event ?hg (N := 2) ?hd (cs := #[.string a0_0, .int .i64 a0_1, .int .i64 a0_2, .bool a0_3]) (t := 60) ?hr ?_; (case hd => rfl); (case hg => rfl); (case hr => first | (go_simp; done) | (go_simp; rfl)); intro gb142 hg w8 hbox hb; have n0_ := Aside0.mk (below_step (bel) hb); have n1_ := Aside0.mk (hbox); have n2_ := Aside0.mk ((by rw [hg]; exact bsz : w.heap.size ≤ gb142)); have n3_ := Aside0.mk ((by rw [hg]; exact bsz : w.heap.size ≤ gb142)); clear HB; have HB := n0_; have BK142 := n1_; have GW142 := n2_; have GE142 := n3_; clear n0_ n1_ n2_ n3_; clear hb hbox hg) | ((with_reducible refine gate_dst (N := 5) rfl ?_); refine box_event ?hg (N := 5) ?hd (cs := #[.string (⟨#[]⟩ : ByteArray), .int .i64 0, .int .i64 0, .bool false]) (t := 60) ?hr ?_; (case hd => rfl); (case hg => rfl); (case hr => first | (go_simp; done) | (go_simp; rfl)); intro gb143 hg w9 hbox hb; have n0_ := Aside0.mk (blk_below (blk_below BK142.out bll) hb); have n1_ := Aside0.mk (below_step (bel) hb); have n2_ := Aside0.mk (hbox); have n3_ := Aside0.mk ((by rw [hg]; exact bsz : w.heap.size ≤ gb143)); have n4_ := Aside0.mk ((by rw [hg]; exact bsz : w.heap.size ≤ gb143)); have n5_ := Aside0.mk ((by rw [hg]; exact Nat.ne_of_lt (blk_lt (blk_below BK142.out bll)) : gb142 ≠ gb143)); have n6_ := Aside0.mk ((by rw [hg]; exact Nat.ne_of_gt (blk_lt (blk_below BK142.out bll)) : gb143 ≠ gb142)); clear BK142; clear HB; have BK142 := n0_; have HB := n1_; have BK143 := n2_; have GW143 := n3_; have GE143 := n4_; have NB142_143 := n5_; have NB143_142 := n6_; clear n0_ n1_ n2_ n3_ n4_ n5_ n6_; clear hb hbox hg; have hnb10 := NB142_143.out; have hnc10 := NB143_142.out; have hcz11_0 := cl0 BK142.out; have hcz11_1 := cl1 BK142.out; have hcz11_2 := cl2 BK142.out; have hcz11_3 := cl3 BK142.out; have hfz11_0 := blk_frozen BK142.out 0; have hfz11_1 := blk_frozen BK142.out 1; have hfz11_2 := blk_frozen BK142.out 2; have hfz11_3 := blk_frozen BK142.out 3) | ((with_reducible refine gate_callee (f := 60) rfl ?_); refine goesL_ (some 11) rfl rfl Try.func60 (by kernel_rfl) rfl #[.agg #[.string a0_0, .int .i64 a0_1, .int .i64 a0_2, .bool a0_3], .int .i64 a1] rfl gAr ?_; (with_reducible refine (cursor_step.calls a0_0 a0_1 a0_2 a0_3 a1 t144 t145 t146 t147 true _ A3.out).mono ?_); rintro e w12 ⟨rfl, hb⟩; refine ⟨_, rfl, ?_⟩; have n0_ := Aside0.mk (blk_below (blk_below BK142.out bll) hb); have n1_ := Aside0.mk (blk_below (blk_below BK143.out bll) hb); have n2_ := Aside0.mk (below_step (bel) hb); clear BK142; clear BK143; clear HB; have BK142 := n0_; have BK143 := n1_; have HB := n2_; clear n0_ n1_ n2_; (try clear hb)) | ((with_reducible refine gate_dst (N := 6) rfl ?_); refine box_event ?hg (N := 6) ?hd (cs := #[.string (⟨#[]⟩ : ByteArray), .int .i64 0, .int .i64 0, .bool false]) (t := 60) ?hr ?_; (case hd => rfl); (case hg => rfl); (case hr => first | (go_simp; done) | (go_simp; rfl)); intro gb149 hg w13 hbox hb; have n0_ := Aside0.mk (blk_below (blk_below BK142.out bll) hb); have n1_ := Aside0.mk (blk_below (blk_below BK143.out bll) hb); have n2_ := Aside0.mk (below_step (bel) hb); have n3_ := Aside0.mk (hbox); have n4_ := Aside0.mk ((by rw [hg]; exact bsz : w.heap.size ≤ gb149)); have n5_ := Aside0.mk ((by rw [hg]; exact bsz : w.heap.size ≤ gb149)); have n6_ := Aside0.mk ((by rw [hg]; exact Nat.ne_of_lt (blk_lt (blk_below BK142.out bll)) : gb142 ≠ gb149)); have n7_ := Aside0.mk ((by rw [hg]; exact Nat.ne_of_gt (blk_lt (blk_below BK142.out bll)) : gb149 ≠ gb142)); have n8_ := Aside0.mk ((by rw [hg]; exact Nat.ne_of_lt (blk_lt (blk_below BK143.out bll)) : gb143 ≠ gb149)); have n9_ := Aside0.mk ((by rw [hg]; exact Nat.ne_of_gt (blk_lt (blk_below BK143.out bll)) : gb149 ≠ gb143)); clear BK142; clear BK143; clear HB; have BK142 := n0_; have BK143 := n1_; have HB := n2_; have BK149 := n3_; have GW149 := n4_; have GE149 := n5_; have NB142_149 := n6_; have NB149_142 := n7_; have NB143_149 := n8_; have NB149_143 := n9_; clear n0_ n1_ n2_ n3_ n4_ n5_ n6_ n7_ n8_ n9_; clear hb hbox hg; have hnb14 := NB149_142.out; have hnc14 := NB142_149.out; have hnb15 := NB149_143.out; have hnc15 := NB143_149.out; have hcz16_0 := cl0 BK149.out; have hfz16_0 := blk_frozen BK149.out 0; have hcz17_1 := cl1 BK149.out; have hfz17_1 := blk_frozen BK149.out 1; have hcz18_2 := cl2 BK149.out; have hfz18_2 := blk_frozen BK149.out 2; have hcz19_3 := cl3 BK149.out; have hfz19_3 := blk_frozen BK149.out 3))
          have n0_ : Aside0 (((((w13.setCell ⟨gb149, 0, none⟩ (.string t144)).setCell ⟨gb149, 1, none⟩ (.int .i64 t145)).setCell ⟨gb149, 2, none⟩ (.int .i64 t146)).setCell ⟨gb149, 3, none⟩ (.bool t147)).heap[gb142]? = some (.cells #[.string a0_0, .int .i64 a0_1, .int .i64 a0_2, .bool a0_3] 60 (0, 0))) := ⟨blk⟩
          have n1_ : Aside0 (((((w13.setCell ⟨gb149, 0, none⟩ (.string t144)).setCell ⟨gb149, 1, none⟩ (.int .i64 t145)).setCell ⟨gb149, 2, none⟩ (.int .i64 t146)).setCell ⟨gb149, 3, none⟩ (.bool t147)).heap[gb143]? = some (.cells #[.string (⟨#[]⟩ : ByteArray), .int .i64 0, .int .i64 0, .bool false] 60 (0, 0))) := ⟨blk⟩
          have n2_ : Aside0 (((((w13.setCell ⟨gb149, 0, none⟩ (.string t144)).setCell ⟨gb149, 1, none⟩ (.int .i64 t145)).setCell ⟨gb149, 2, none⟩ (.int .i64 t146)).setCell ⟨gb149, 3, none⟩ (.bool t147)).heap[gb149]? = some (.cells #[.string t144, .int .i64 t145, .int .i64 t146, .bool t147] 60 (0, 0))) := ⟨blk⟩
          have n3_ : Aside0 (Below w.heap.size w ((((w13.setCell ⟨gb149, 0, none⟩ (.string t144)).setCell ⟨gb149, 1, none⟩ (.int .i64 t145)).setCell ⟨gb149, 2, none⟩ (.int .i64 t146)).setCell ⟨gb149, 3, none⟩ (.bool t147))) := ⟨bel⟩
          (try clear BK142)
          (try clear BK143)
          (try clear BK149)
          (try clear HB)
          generalize ((((w13.setCell ⟨gb149, 0, none⟩ (.string t144)).setCell ⟨gb149, 1, none⟩ (.int .i64 t145)).setCell ⟨gb149, 2, none⟩ (.int .i64 t146)).setCell ⟨gb149, 3, none⟩ (.bool t147)) = w20 at n0_ n1_ n2_ n3_ ⊢
          have BK142 := n0_
          have BK143 := n1_
          have BK149 := n2_
          have HB := n3_
          clear n0_ n1_ n2_ n3_
          have n0_ := Aside0.mk (blk_drew BK142.out)
          have n1_ := Aside0.mk (blk_drew BK143.out)
          have n2_ := Aside0.mk (blk_drew BK149.out)
          have n3_ := Aside0.mk (below_drew1 HB.out)
          clear BK142
          clear BK143
          clear BK149
          clear HB
          have BK142 := n0_
          have BK143 := n1_
          have BK149 := n2_
          have HB := n3_
          clear n0_ n1_ n2_ n3_
          refine start_ (n := 10) (S := fun w' => w'.cell? ⟨gb142, 0, none⟩ = some (.string a0_0) ∧ w'.cell? ⟨gb142, 1, none⟩ = some (.int .i64 a0_1) ∧ w'.cell? ⟨gb142, 2, none⟩ = some (.int .i64 a0_2) ∧ w'.cell? ⟨gb142, 3, none⟩ = some (.bool a0_3) ∧ w'.cell? ⟨gb149, 0, none⟩ = some (.string t144) ∧ w'.cell? ⟨gb149, 1, none⟩ = some (.int .i64 t145) ∧ w'.cell? ⟨gb149, 2, none⟩ = some (.int .i64 t146) ∧ w'.cell? ⟨gb149, 3, none⟩ = some (.bool t147)) (ds := []) #[false, false, false, false, false, false, false, false, false, false] (by kernel_rfl) rfl rfl ⟨(blk_cell BK142.out 0).trans rfl, (blk_cell BK142.out 1).trans rfl, (blk_cell BK142.out 2).trans rfl, (blk_cell BK142.out 3).trans rfl, (blk_cell BK149.out 0).trans rfl, (blk_cell BK149.out 1).trans rfl, (blk_cell BK149.out 2).trans rfl, (blk_cell BK149.out 3).trans rfl⟩ (fun hHeld => ?_); refine with_tabW cursor_Text.tab4 cursor_Text.bits4 (fun HT_ HW_ => ?_)
          generalize w20.drew = w21 at BK142 BK143 BK149 HB hHeld ⊢
          refine pure_ (i := 0) (N := some 17) (v := ?_) (a' := ?_) #[true, false, false, false, false, false, false, false, false, false] rfl rfl (any_of HT_.out (by kernel_rfl)) (fun _ _ _ h => h) (Or.inl ⟨by rfl, ?_⟩) ?_ ?_
          rotate_left
          · intro w'
            go_simp
            with_reducible rfl
          rotate_left
          · simp only [Act.put, List.setIfInBounds_toArray, List.set_cons_zero, List.set_cons_succ, i64_w, i32_w]
            rfl
          refine pure_ (i := 2) (N := some 19) (v := ?_) (a' := ?_) #[true, false, true, false, false, false, false, false, false, false] rfl rfl (any_of HT_.out (by kernel_rfl)) (fun _ _ _ h => h) (Or.inl ⟨by rfl, ?_⟩) ?_ ?_
          rotate_left
          · intro w'
            go_simp
            with_reducible rfl
          rotate_left
          · simp only [Act.put, List.setIfInBounds_toArray, List.set_cons_zero, List.set_cons_succ, i64_w, i32_w]
            rfl
          refine pure_ (i := 4) (N := some 21) (v := ?_) (a' := ?_) #[true, false, true, false, true, false, false, false, false, false] rfl rfl (any_of HT_.out (by kernel_rfl)) (fun _ _ _ h => h) (Or.inl ⟨by rfl, ?_⟩) ?_ ?_
          rotate_left
          · intro w'
            go_simp
            with_reducible rfl
          rotate_left
          · simp only [Act.put, List.setIfInBounds_toArray, List.set_cons_zero, List.set_cons_succ, i64_w, i32_w]
            rfl
          refine take_ (i := 1) (N := some 18) (v := ?_) (a' := ?_) #[true, true, true, false, true, false, false, false, false, false] rfl rfl (take_ofW HT_.out HW_.out (by kernel_rfl)) (fun _ _ _ h => h) (Or.inl ⟨by rfl, ?_⟩) hHeld ?_ ?_
          rotate_left
          · rintro w' ⟨s0, s1, s2, s3, s4, s5, s6, s7⟩
            go_simp
            with_reducible rfl
          rotate_left
          · simp only [Act.put, List.setIfInBounds_toArray, List.set_cons_zero, List.set_cons_succ, i64_w, i32_w]
            rfl
          refine take_ (i := 3) (N := some 20) (v := ?_) (a' := ?_) #[true, true, true, true, true, false, false, false, false, false] rfl rfl (take_ofW HT_.out HW_.out (by kernel_rfl)) (fun _ _ _ h => h) (Or.inl ⟨by rfl, ?_⟩) hHeld ?_ ?_
          rotate_left
          · rintro w' ⟨s0, s1, s2, s3, s4, s5, s6, s7⟩
            go_simp
            with_reducible rfl
          rotate_left
          · simp only [Act.put, List.setIfInBounds_toArray, List.set_cons_zero, List.set_cons_succ, i64_w, i32_w]
            rfl
          refine take_ (i := 5) (N := some 22) (v := ?_) (a' := ?_) #[true, true, true, true, true, true, false, false, false, false] rfl rfl (take_ofW HT_.out HW_.out (by kernel_rfl)) (fun _ _ _ h => h) (Or.inl ⟨by rfl, ?_⟩) hHeld ?_ ?_
          rotate_left
          · rintro w' ⟨s0, s1, s2, s3, s4, s5, s6, s7⟩
            go_simp
            with_reducible rfl
          rotate_left
          · simp only [Act.put, List.setIfInBounds_toArray, List.set_cons_zero, List.set_cons_succ, i64_w, i32_w]
            rfl
          refine pure_ (i := 6) (N := some 23) (v := ?_) (a' := ?_) #[true, true, true, true, true, true, true, false, false, false] rfl rfl (any_of HT_.out (by kernel_rfl)) (fun _ _ _ h => h) (Or.inl ⟨by rfl, ?_⟩) ?_ ?_
          rotate_left
          · intro w'
            go_simp
            with_reducible rfl
          rotate_left
          · simp only [Act.put, List.setIfInBounds_toArray, List.set_cons_zero, List.set_cons_succ, i64_w, i32_w]
            rfl
          refine pure_ (i := 8) (N := some 4) (v := ?_) (a' := ?_) #[true, true, true, true, true, true, true, false, true, false] rfl rfl (any_of HT_.out (by kernel_rfl)) (fun _ _ _ h => h) (Or.inl ⟨by rfl, ?_⟩) ?_ ?_
          rotate_left
          · intro w'
            go_simp
            with_reducible rfl
          rotate_left
          · simp only [Act.put, List.setIfInBounds_toArray, List.set_cons_zero, List.set_cons_succ, i64_w, i32_w]
            rfl
          refine take_ (i := 7) (N := some 24) (v := ?_) (a' := ?_) #[true, true, true, true, true, true, true, true, true, false] rfl rfl (take_ofW HT_.out HW_.out (by kernel_rfl)) (fun _ _ _ h => h) (Or.inl ⟨by rfl, ?_⟩) hHeld ?_ ?_
          rotate_left
          · rintro w' ⟨s0, s1, s2, s3, s4, s5, s6, s7⟩
            go_simp
            with_reducible rfl
          rotate_left
          · simp only [Act.put, List.setIfInBounds_toArray, List.set_cons_zero, List.set_cons_succ, i64_w, i32_w]
            rfl
          refine one_ (i := 9) (N := none) #[true, true, true, true, true, true, true, true, true, true] rfl rfl (one_of HT_.out (by kernel_rfl)) (by decide) (fun K hK => ?_)
          have hs22 : w21.cell? ⟨gb143, 0, none⟩ = some (.string (⟨#[]⟩ : ByteArray)) := (blk_cell BK143.out 0).trans rfl
          have hfs22 := blk_frozen BK143.out 0
          have hns22_0 := NB142_143.out
          have hns22_2 := NB149_143.out
          have hms22_0 := NB143_142.out
          have hms22_2 := NB143_149.out
          have hs23 : w21.cell? ⟨gb143, 1, none⟩ = some (.int .i64 0) := (blk_cell BK143.out 1).trans rfl
          have hfs23 := blk_frozen BK143.out 1
          have hns23_0 := NB142_143.out
          have hns23_2 := NB149_143.out
          have hms23_0 := NB143_142.out
          have hms23_2 := NB143_149.out
          have hs24 : w21.cell? ⟨gb143, 2, none⟩ = some (.int .i64 0) := (blk_cell BK143.out 2).trans rfl
          have hfs24 := blk_frozen BK143.out 2
          have hns24_0 := NB142_143.out
          have hns24_2 := NB149_143.out
          have hms24_0 := NB143_142.out
          have hms24_2 := NB143_149.out
          have hs25 : w21.cell? ⟨gb143, 3, none⟩ = some (.bool false) := (blk_cell BK143.out 3).trans rfl
          have hfs25 := blk_frozen BK143.out 3
          have hns25_0 := NB142_143.out
          have hns25_2 := NB149_143.out
          have hms25_0 := NB143_142.out
          have hms25_2 := NB143_149.out
          refine skip_ (w1 := ?_) (by rfl) rfl ?_ ?_
          rotate_left
          · go_simp
            rfl
          refine hK.out _ _ ⟨((cell_far (p := ⟨gb143, _, none⟩) NB142_143.out _).trans (((cell_far (p := ⟨gb143, _, none⟩) NB142_143.out _).trans (((cell_far (p := ⟨gb143, _, none⟩) NB142_143.out _).trans (((cell_far (p := ⟨gb143, _, none⟩) NB142_143.out _).trans (hHeld.1)))))))), ((cell_far (p := ⟨gb143, _, none⟩) NB142_143.out _).trans (((cell_far (p := ⟨gb143, _, none⟩) NB142_143.out _).trans (((cell_far (p := ⟨gb143, _, none⟩) NB142_143.out _).trans (((cell_far (p := ⟨gb143, _, none⟩) NB142_143.out _).trans (hHeld.2.1)))))))), ((cell_far (p := ⟨gb143, _, none⟩) NB142_143.out _).trans (((cell_far (p := ⟨gb143, _, none⟩) NB142_143.out _).trans (((cell_far (p := ⟨gb143, _, none⟩) NB142_143.out _).trans (((cell_far (p := ⟨gb143, _, none⟩) NB142_143.out _).trans (hHeld.2.2.1)))))))), ((cell_far (p := ⟨gb143, _, none⟩) NB142_143.out _).trans (((cell_far (p := ⟨gb143, _, none⟩) NB142_143.out _).trans (((cell_far (p := ⟨gb143, _, none⟩) NB142_143.out _).trans (((cell_far (p := ⟨gb143, _, none⟩) NB142_143.out _).trans (hHeld.2.2.2.1)))))))), ((cell_far (p := ⟨gb143, _, none⟩) NB149_143.out _).trans (((cell_far (p := ⟨gb143, _, none⟩) NB149_143.out _).trans (((cell_far (p := ⟨gb143, _, none⟩) NB149_143.out _).trans (((cell_far (p := ⟨gb143, _, none⟩) NB149_143.out _).trans (hHeld.2.2.2.2.1)))))))), ((cell_far (p := ⟨gb143, _, none⟩) NB149_143.out _).trans (((cell_far (p := ⟨gb143, _, none⟩) NB149_143.out _).trans (((cell_far (p := ⟨gb143, _, none⟩) NB149_143.out _).trans (((cell_far (p := ⟨gb143, _, none⟩) NB149_143.out _).trans (hHeld.2.2.2.2.2.1)))))))), ((cell_far (p := ⟨gb143, _, none⟩) NB149_143.out _).trans (((cell_far (p := ⟨gb143, _, none⟩) NB149_143.out _).trans (((cell_far (p := ⟨gb143, _, none⟩) NB149_143.out _).trans (((cell_far (p := ⟨gb143, _, none⟩) NB149_143.out _).trans (hHeld.2.2.2.2.2.2.1)))))))), ((cell_far (p := ⟨gb143, _, none⟩) NB149_143.out _).trans (((cell_far (p := ⟨gb143, _, none⟩) NB149_143.out _).trans (((cell_far (p := ⟨gb143, _, none⟩) NB149_143.out _).trans (((cell_far (p := ⟨gb143, _, none⟩) NB149_143.out _).trans (hHeld.2.2.2.2.2.2.2))))))))⟩ (fun hHeld => ?_)
          clear hK K
          refine done_ (done_of HT_.out (by kernel_rfl)) ?_
          try go_wp2
          refine bodyPost_ret (results_tc rfl _ _ gb143 60 #[.string t144, .int .i64 t145, .int .i64 t146, .bool t147] (0, 0) _ rfl (blk) Try.underlying60 rfl (by kernel_rfl)) rfl ?_
          exact ⟨rtE, bel⟩
        · rw [if_neg c7] at H
          exact absurd H (by simp)
      · rw [if_neg c6] at H
        exact absurd H (by simp)
    · rw [if_neg c5] at H
      exact absurd H (by simp)
  · replace c4 := Bool.eq_false_iff.mpr c4
    subst c4
    have H1 : (some ((⟨#[]⟩ : ByteArray), t144, t145, t146, t147)) = some (r1, r2, r3, r4, r5) := by rw [if_neg (show ¬ (false = true) by decide)] at H; exact H
    clear H
    have H := H1
    clear H1
    simp only [Option.some.injEq, Prod.mk.injEq] at H
    obtain ⟨rfl, rfl, rfl, rfl, rfl⟩ := H
    go_enter Try.func56, Try.ntmps56
    try go_wp2_with (first | ((with_reducible refine gate_dst (N := 2) rfl ?_); refine box_event ?hg (N := 2) ?hd (cs := #[.string a0_0, .int .i64 a0_1, .int .i64 a0_2, .bool a0_3]) (t := 60) ?hr ?_; (case hd => rfl); (case hg => rfl); (case hr => first | (go_simp; done) | (go_simp; rfl)); intro gb142 hg w26 hbox hb; have n0_ := Aside0.mk (below_step (bel) hb); have n1_ := Aside0.mk (hbox); have n2_ := Aside0.mk ((by rw [hg]; exact bsz : w.heap.size ≤ gb142)); have n3_ := Aside0.mk ((by rw [hg]; exact bsz : w.heap.size ≤ gb142)); clear HB; have HB := n0_; have BK142 := n1_; have GW142 := n2_; have GE142 := n3_; clear n0_ n1_ n2_ n3_; clear hb hbox hg) | ((with_reducible refine gate_dst (N := 5) rfl ?_); refine box_event ?hg (N := 5) ?hd (cs := #[.string (⟨#[]⟩ : ByteArray), .int .i64 0, .int .i64 0, .bool false]) (t := 60) ?hr ?_; (case hd => rfl); (case hg => rfl); (case hr => first | (go_simp; done) | (go_simp; rfl)); intro gb143 hg w27 hbox hb; have n0_ := Aside0.mk (blk_below (blk_below BK142.out bll) hb); have n1_ := Aside0.mk (below_step (bel) hb); have n2_ := Aside0.mk (hbox); have n3_ := Aside0.mk ((by rw [hg]; exact bsz : w.heap.size ≤ gb143)); have n4_ := Aside0.mk ((by rw [hg]; exact bsz : w.heap.size ≤ gb143)); have n5_ := Aside0.mk ((by rw [hg]; exact Nat.ne_of_lt (blk_lt (blk_below BK142.out bll)) : gb142 ≠ gb143)); have n6_ := Aside0.mk ((by rw [hg]; exact Nat.ne_of_gt (blk_lt (blk_below BK142.out bll)) : gb143 ≠ gb142)); clear BK142; clear HB; have BK142 := n0_; have HB := n1_; have BK143 := n2_; have GW143 := n3_; have GE143 := n4_; have NB142_143 := n5_; have NB143_142 := n6_; clear n0_ n1_ n2_ n3_ n4_ n5_ n6_; clear hb hbox hg; have hnb28 := NB142_143.out; have hnc28 := NB143_142.out; have hcz29_0 := cl0 BK142.out; have hcz29_1 := cl1 BK142.out; have hcz29_2 := cl2 BK142.out; have hcz29_3 := cl3 BK142.out; have hfz29_0 := blk_frozen BK142.out 0; have hfz29_1 := blk_frozen BK142.out 1; have hfz29_2 := blk_frozen BK142.out 2; have hfz29_3 := blk_frozen BK142.out 3) | ((with_reducible refine gate_callee (f := 60) rfl ?_); refine goesL_ (some 11) rfl rfl Try.func60 (by kernel_rfl) rfl #[.agg #[.string a0_0, .int .i64 a0_1, .int .i64 a0_2, .bool a0_3], .int .i64 a1] rfl gAr ?_; (with_reducible refine (cursor_step.calls a0_0 a0_1 a0_2 a0_3 a1 t144 t145 t146 t147 false _ A3.out).mono ?_); rintro e w30 ⟨rfl, hb⟩; refine ⟨_, rfl, ?_⟩; have n0_ := Aside0.mk (blk_below (blk_below BK142.out bll) hb); have n1_ := Aside0.mk (blk_below (blk_below BK143.out bll) hb); have n2_ := Aside0.mk (below_step (bel) hb); clear BK142; clear BK143; clear HB; have BK142 := n0_; have BK143 := n1_; have HB := n2_; clear n0_ n1_ n2_; (try clear hb)) | ((with_reducible refine gate_dst (N := 6) rfl ?_); refine box_event ?hg (N := 6) ?hd (cs := #[.string (⟨#[]⟩ : ByteArray), .int .i64 0, .int .i64 0, .bool false]) (t := 60) ?hr ?_; (case hd => rfl); (case hg => rfl); (case hr => first | (go_simp; done) | (go_simp; rfl)); intro gb149 hg w31 hbox hb; have n0_ := Aside0.mk (blk_below (blk_below BK142.out bll) hb); have n1_ := Aside0.mk (blk_below (blk_below BK143.out bll) hb); have n2_ := Aside0.mk (below_step (bel) hb); have n3_ := Aside0.mk (hbox); have n4_ := Aside0.mk ((by rw [hg]; exact bsz : w.heap.size ≤ gb149)); have n5_ := Aside0.mk ((by rw [hg]; exact bsz : w.heap.size ≤ gb149)); have n6_ := Aside0.mk ((by rw [hg]; exact Nat.ne_of_lt (blk_lt (blk_below BK142.out bll)) : gb142 ≠ gb149)); have n7_ := Aside0.mk ((by rw [hg]; exact Nat.ne_of_gt (blk_lt (blk_below BK142.out bll)) : gb149 ≠ gb142)); have n8_ := Aside0.mk ((by rw [hg]; exact Nat.ne_of_lt (blk_lt (blk_below BK143.out bll)) : gb143 ≠ gb149)); have n9_ := Aside0.mk ((by rw [hg]; exact Nat.ne_of_gt (blk_lt (blk_below BK143.out bll)) : gb149 ≠ gb143)); clear BK142; clear BK143; clear HB; have BK142 := n0_; have BK143 := n1_; have HB := n2_; have BK149 := n3_; have GW149 := n4_; have GE149 := n5_; have NB142_149 := n6_; have NB149_142 := n7_; have NB143_149 := n8_; have NB149_143 := n9_; clear n0_ n1_ n2_ n3_ n4_ n5_ n6_ n7_ n8_ n9_; clear hb hbox hg; have hnb32 := NB149_142.out; have hnc32 := NB142_149.out; have hnb33 := NB149_143.out; have hnc33 := NB143_149.out; have hcz34_0 := cl0 BK149.out; have hfz34_0 := blk_frozen BK149.out 0; have hcz35_1 := cl1 BK149.out; have hfz35_1 := blk_frozen BK149.out 1; have hcz36_2 := cl2 BK149.out; have hfz36_2 := blk_frozen BK149.out 2; have hcz37_3 := cl3 BK149.out; have hfz37_3 := blk_frozen BK149.out 3))
    have n0_ : Aside0 (((((w31.setCell ⟨gb149, 0, none⟩ (.string t144)).setCell ⟨gb149, 1, none⟩ (.int .i64 t145)).setCell ⟨gb149, 2, none⟩ (.int .i64 t146)).setCell ⟨gb149, 3, none⟩ (.bool t147)).heap[gb142]? = some (.cells #[.string a0_0, .int .i64 a0_1, .int .i64 a0_2, .bool a0_3] 60 (0, 0))) := ⟨blk⟩
    have n1_ : Aside0 (((((w31.setCell ⟨gb149, 0, none⟩ (.string t144)).setCell ⟨gb149, 1, none⟩ (.int .i64 t145)).setCell ⟨gb149, 2, none⟩ (.int .i64 t146)).setCell ⟨gb149, 3, none⟩ (.bool t147)).heap[gb143]? = some (.cells #[.string (⟨#[]⟩ : ByteArray), .int .i64 0, .int .i64 0, .bool false] 60 (0, 0))) := ⟨blk⟩
    have n2_ : Aside0 (((((w31.setCell ⟨gb149, 0, none⟩ (.string t144)).setCell ⟨gb149, 1, none⟩ (.int .i64 t145)).setCell ⟨gb149, 2, none⟩ (.int .i64 t146)).setCell ⟨gb149, 3, none⟩ (.bool t147)).heap[gb149]? = some (.cells #[.string t144, .int .i64 t145, .int .i64 t146, .bool t147] 60 (0, 0))) := ⟨blk⟩
    have n3_ : Aside0 (Below w.heap.size w ((((w31.setCell ⟨gb149, 0, none⟩ (.string t144)).setCell ⟨gb149, 1, none⟩ (.int .i64 t145)).setCell ⟨gb149, 2, none⟩ (.int .i64 t146)).setCell ⟨gb149, 3, none⟩ (.bool t147))) := ⟨bel⟩
    (try clear BK142)
    (try clear BK143)
    (try clear BK149)
    (try clear HB)
    generalize ((((w31.setCell ⟨gb149, 0, none⟩ (.string t144)).setCell ⟨gb149, 1, none⟩ (.int .i64 t145)).setCell ⟨gb149, 2, none⟩ (.int .i64 t146)).setCell ⟨gb149, 3, none⟩ (.bool t147)) = w38 at n0_ n1_ n2_ n3_ ⊢
    have BK142 := n0_
    have BK143 := n1_
    have BK149 := n2_
    have HB := n3_
    clear n0_ n1_ n2_ n3_
    have n0_ := Aside0.mk (blk_drew BK142.out)
    have n1_ := Aside0.mk (blk_drew BK143.out)
    have n2_ := Aside0.mk (blk_drew BK149.out)
    have n3_ := Aside0.mk (below_drew1 HB.out)
    clear BK142
    clear BK143
    clear BK149
    clear HB
    have BK142 := n0_
    have BK143 := n1_
    have BK149 := n2_
    have HB := n3_
    clear n0_ n1_ n2_ n3_
    refine start_ (n := 3) (S := fun w' => w'.cell? ⟨gb149, 0, none⟩ = some (.string t144) ∧ w'.cell? ⟨gb149, 1, none⟩ = some (.int .i64 t145) ∧ w'.cell? ⟨gb149, 2, none⟩ = some (.int .i64 t146) ∧ w'.cell? ⟨gb149, 3, none⟩ = some (.bool t147)) (ds := []) #[false, false, false] (by kernel_rfl) rfl rfl ⟨(blk_cell BK149.out 0).trans rfl, (blk_cell BK149.out 1).trans rfl, (blk_cell BK149.out 2).trans rfl, (blk_cell BK149.out 3).trans rfl⟩ (fun hHeld => ?_)
    generalize w38.drew = w39 at BK142 BK143 BK149 HB hHeld ⊢
    refine pure_ (i := 1) (N := some 4) (v := ?_) (a' := ?_) #[false, true, false] rfl rfl (by kernel_rfl) (fun _ _ _ h => h) (Or.inl ⟨by rfl, ?_⟩) ?_ ?_
    rotate_left
    · intro w'
      go_simp
      with_reducible rfl
    rotate_left
    · simp only [Act.put, List.setIfInBounds_toArray, List.set_cons_zero, List.set_cons_succ, i64_w, i32_w]
      rfl
    refine take_ (i := 0) (N := some 16) (v := ?_) (a' := ?_) #[true, true, false] rfl rfl (by kernel_rfl) (fun _ _ _ h => h) (Or.inl ⟨by rfl, ?_⟩) hHeld ?_ ?_
    rotate_left
    · rintro w' ⟨s0, s1, s2, s3⟩
      go_simp
      with_reducible rfl
    rotate_left
    · simp only [Act.put, List.setIfInBounds_toArray, List.set_cons_zero, List.set_cons_succ, i64_w, i32_w]
      rfl
    refine one_ (i := 2) (N := none) #[true, true, true] rfl rfl (by kernel_rfl) (by decide) (fun K hK => ?_)
    have hs40 : w39.cell? ⟨gb143, 0, none⟩ = some (.string (⟨#[]⟩ : ByteArray)) := (blk_cell BK143.out 0).trans rfl
    have hfs40 := blk_frozen BK143.out 0
    have hns40_0 := NB142_143.out
    have hns40_2 := NB149_143.out
    have hms40_0 := NB143_142.out
    have hms40_2 := NB143_149.out
    have hs41 : w39.cell? ⟨gb143, 1, none⟩ = some (.int .i64 0) := (blk_cell BK143.out 1).trans rfl
    have hfs41 := blk_frozen BK143.out 1
    have hns41_0 := NB142_143.out
    have hns41_2 := NB149_143.out
    have hms41_0 := NB143_142.out
    have hms41_2 := NB143_149.out
    have hs42 : w39.cell? ⟨gb143, 2, none⟩ = some (.int .i64 0) := (blk_cell BK143.out 2).trans rfl
    have hfs42 := blk_frozen BK143.out 2
    have hns42_0 := NB142_143.out
    have hns42_2 := NB149_143.out
    have hms42_0 := NB143_142.out
    have hms42_2 := NB143_149.out
    have hs43 : w39.cell? ⟨gb143, 3, none⟩ = some (.bool false) := (blk_cell BK143.out 3).trans rfl
    have hfs43 := blk_frozen BK143.out 3
    have hns43_0 := NB142_143.out
    have hns43_2 := NB149_143.out
    have hms43_0 := NB143_142.out
    have hms43_2 := NB143_149.out
    refine skip_ (w1 := ?_) (by rfl) rfl ?_ ?_
    rotate_left
    · go_simp
      rfl
    refine hK.out _ _ ⟨((cell_far (p := ⟨gb143, _, none⟩) NB149_143.out _).trans (((cell_far (p := ⟨gb143, _, none⟩) NB149_143.out _).trans (((cell_far (p := ⟨gb143, _, none⟩) NB149_143.out _).trans (((cell_far (p := ⟨gb143, _, none⟩) NB149_143.out _).trans (hHeld.1)))))))), ((cell_far (p := ⟨gb143, _, none⟩) NB149_143.out _).trans (((cell_far (p := ⟨gb143, _, none⟩) NB149_143.out _).trans (((cell_far (p := ⟨gb143, _, none⟩) NB149_143.out _).trans (((cell_far (p := ⟨gb143, _, none⟩) NB149_143.out _).trans (hHeld.2.1)))))))), ((cell_far (p := ⟨gb143, _, none⟩) NB149_143.out _).trans (((cell_far (p := ⟨gb143, _, none⟩) NB149_143.out _).trans (((cell_far (p := ⟨gb143, _, none⟩) NB149_143.out _).trans (((cell_far (p := ⟨gb143, _, none⟩) NB149_143.out _).trans (hHeld.2.2.1)))))))), ((cell_far (p := ⟨gb143, _, none⟩) NB149_143.out _).trans (((cell_far (p := ⟨gb143, _, none⟩) NB149_143.out _).trans (((cell_far (p := ⟨gb143, _, none⟩) NB149_143.out _).trans (((cell_far (p := ⟨gb143, _, none⟩) NB149_143.out _).trans (hHeld.2.2.2))))))))⟩ (fun hHeld => ?_)
    clear hK K
    refine done_ (by kernel_rfl) ?_
    try go_wp2
    refine bodyPost_ret (results_tc rfl _ _ gb143 60 #[.string t144, .int .i64 t145, .int .i64 t146, .bool t147] (0, 0) _ rfl (blk) Try.underlying60 rfl (by kernel_rfl)) rfl ?_
    exact ⟨rtE, bel⟩

/-! ### entry_reader_four: function 40 -/
def entry_reader_four.f (s0_0 : ByteArray) (s0_1 : Int) (s0_2 : Int) (s0_3 : Bool) : Option (ByteArray × ByteArray × Int × Int × Bool) := (cursor_Text.f s0_0 s0_1 s0_2 s0_3 4).bind fun bt150 => (some (bt150.1, bt150.2.1, bt150.2.2.1, bt150.2.2.2.1, bt150.2.2.2.2))
set_option maxHeartbeats 8000000 in
set_option maxRecDepth 100000 in
theorem entry_reader_four.calls (g : Nat) (s0_0 : ByteArray) (s0_1 : Int) (s0_2 : Int) (s0_3 : Bool) (r1 : ByteArray) (r2 : ByteArray) (r3 : Int) (r4 : Int) (r5 : Bool) (w0 w : World) (hI : IsS63 w0 w g s0_0 s0_1 s0_2 s0_3) (hB : Below w0.heap.size w0 w) (h : entry_reader_four.f s0_0 s0_1 s0_2 s0_3 = some (r1, r2, r3, r4, r5)) :
    Calls Try.prog 40 #[.pointer (some ⟨g, 0, none⟩)] w fun e w' => e = .returned (.string r1) ∧ IsS63 w0 w' g r2 r3 r4 r5 ∧ Below w0.heap.size w0 w' ∧ KeepBut w w' g none := by
  have hu60 := Try.underlying60
  have HI0 := Aside0.mk hI
  have HK := Aside0.mk (KeepBut.refl w g none)
  have HL := Aside0.mk hB.size
  clear hI
  have HW0 := Aside0.mk hB.size
  have HB := Aside0.mk hB
  clear hB
  have H : ((cursor_Text.f s0_0 s0_1 s0_2 s0_3 4).bind fun bt150 => (some (bt150.1, bt150.2.1, bt150.2.2.1, bt150.2.2.2.1, bt150.2.2.2.2))) = some (r1, r2, r3, r4, r5) := h
  clear h
  replace H := Option.bind_eq_some_iff.mp H
  obtain ⟨⟨t150, t151, t152, t153, t154⟩, A20, H⟩ := H
  replace H : (some (t150, t151, t152, t153, t154)) = some (r1, r2, r3, r4, r5) := H
  have A2 := Aside0.mk A20
  clear A20
  simp only [Option.some.injEq, Prod.mk.injEq] at H
  obtain ⟨rfl, rfl, rfl, rfl, rfl⟩ := H
  obtain ⟨HGz3, hgz3⟩ := HI0.out
  have hcz3_0 := cellS63_0 HGz3
  have hcz3_1 := cellS63_1 HGz3
  have hcz3_2 := cellS63_2 HGz3
  have hcz3_3 := cellS63_3 HGz3
  have hfz3_0 := blk_frozen HGz3 0
  have hfz3_1 := blk_frozen HGz3 1
  have hfz3_2 := blk_frozen HGz3 2
  have hfz3_3 := blk_frozen HGz3 3
  clear HGz3 hgz3
  go_enter Try.func40, Try.ntmps40
  go_wp2_with (first | ((with_reducible refine gate_callee (f := 56) rfl ?_); refine goesL_ (some 10) rfl rfl Try.func56 (by kernel_rfl) rfl #[.agg #[.string s0_0, .int .i64 s0_1, .int .i64 s0_2, .bool s0_3], .int .i64 4] rfl gAr ?_; (with_reducible refine (cursor_Text.calls s0_0 s0_1 s0_2 s0_3 4 t150 t151 t152 t153 t154 _ A2.out).mono ?_); rintro e w4 ⟨rfl, hb⟩; refine ⟨_, rfl, ?_⟩; have n0_ := Aside0.mk (IsS63.below (by repeat (first | (with_reducible first | exact HI0.out | apply IsS63.alloc | apply IsS63.drewN | apply IsS63.drew | apply IsS63.set_0 | apply IsS63.set_1 | apply IsS63.set_2 | apply IsS63.set_3) | exact HI0.out)) hb); have n1_ := Aside0.mk (KeepBut.trans (by repeat (first | (with_reducible first | exact HK.out | apply KeepBut.set_ | apply keep_drewN | apply keep_drew | apply keep_alloc) | exact HK.out)) (KeepBut.of_below hb g none) (.inl rfl)); have n2_ := Aside0.mk (below_step (by repeat (first | (with_reducible first | exact HB.out | apply below_alloc | apply pw_below_drewN | apply below_drew1 | refine below_set ?_ (IsS63.ge HI0.out)) | exact HB.out)) hb); clear HI0; clear HK; clear HB; have HI0 := n0_; have HK := n1_; have HB := n2_; clear n0_ n1_ n2_; (try clear hb)) | ((with_reducible refine gate_dst (N := 4) rfl ?_); refine box_event ?hg (N := 4) ?hd (cs := #[.string (⟨#[]⟩ : ByteArray), .int .i64 0, .int .i64 0, .bool false]) (t := 60) ?hr ?_; (case hd => rfl); (case hg => rfl); (case hr => first | (go_simp; done) | (go_simp; rfl)); intro gb155 hg w5 hbox hb; have n0_ := Aside0.mk (IsS63.below (by repeat (first | (with_reducible first | exact HI0.out | apply IsS63.alloc | apply IsS63.drewN | apply IsS63.drew | apply IsS63.set_0 | apply IsS63.set_1 | apply IsS63.set_2 | apply IsS63.set_3) | exact HI0.out)) hb); have n1_ := Aside0.mk (KeepBut.trans (by repeat (first | (with_reducible first | exact HK.out | apply KeepBut.set_ | apply keep_drewN | apply keep_drew | apply keep_alloc) | exact HK.out)) (KeepBut.of_below hb g none) (.inl rfl)); have n2_ := Aside0.mk (below_step (by repeat (first | (with_reducible first | exact HB.out | apply below_alloc | apply pw_below_drewN | apply below_drew1 | refine below_set ?_ (IsS63.ge HI0.out)) | exact HB.out)) hb); have n3_ := Aside0.mk (hbox); have n4_ := Aside0.mk ((by rw [hg]; exact (keep_size (w := w) (g := g) (row := none) (by repeat (first | (with_reducible first | exact HK.out | apply KeepBut.set_ | apply keep_drewN | apply keep_drew | apply keep_alloc) | exact HK.out))) : w.heap.size ≤ gb155)); have n5_ := Aside0.mk ((Nat.le_trans HW0.out (by rw [hg]; exact (keep_size (w := w) (g := g) (row := none) (by repeat (first | (with_reducible first | exact HK.out | apply KeepBut.set_ | apply keep_drewN | apply keep_drew | apply keep_alloc) | exact HK.out))) : w.heap.size ≤ gb155) : w0.heap.size ≤ gb155)); have n6_ := Aside0.mk ((by rw [hg]; exact Nat.ne_of_lt (IsS63.lt (show IsS63 w0 _ g s0_0 s0_1 s0_2 s0_3 from by repeat (first | (with_reducible first | exact HI0.out | apply IsS63.alloc | apply IsS63.drewN | apply IsS63.drew | apply IsS63.set_0 | apply IsS63.set_1 | apply IsS63.set_2 | apply IsS63.set_3) | exact HI0.out))) : g ≠ gb155)); have n7_ := Aside0.mk ((by rw [hg]; exact Nat.ne_of_gt (IsS63.lt (show IsS63 w0 _ g s0_0 s0_1 s0_2 s0_3 from by repeat (first | (with_reducible first | exact HI0.out | apply IsS63.alloc | apply IsS63.drewN | apply IsS63.drew | apply IsS63.set_0 | apply IsS63.set_1 | apply IsS63.set_2 | apply IsS63.set_3) | exact HI0.out))) : gb155 ≠ g)); clear HI0; clear HK; clear HB; have HI0 := n0_; have HK := n1_; have HB := n2_; have BK155 := n3_; have GW155 := n4_; have GE155 := n5_; have NB0_155 := n6_; have NB155_0 := n7_; clear n0_ n1_ n2_ n3_ n4_ n5_ n6_ n7_; clear hb hbox hg; have hnb6 := NB155_0.out; have hnc6 := NB0_155.out; have hcz7_0 := cl0 BK155.out; have hfz7_0 := blk_frozen BK155.out 0; have hcz8_1 := cl1 BK155.out; have hfz8_1 := blk_frozen BK155.out 1; have hcz9_2 := cl2 BK155.out; have hfz9_2 := blk_frozen BK155.out 2; have hcz10_3 := cl3 BK155.out; have hfz10_3 := blk_frozen BK155.out 3; have hcz11_0 := cl0 BK155.out; have hcz11_1 := cl1 BK155.out; have hcz11_2 := cl2 BK155.out; have hcz11_3 := cl3 BK155.out; have hfz11_0 := blk_frozen BK155.out 0; have hfz11_1 := blk_frozen BK155.out 1; have hfz11_2 := blk_frozen BK155.out 2; have hfz11_3 := blk_frozen BK155.out 3; obtain ⟨HGz12, hgz12⟩ := HI0.out; have hcz12_0 := cellS63_0 HGz12; have hfz12_0 := blk_frozen HGz12 0; clear HGz12 hgz12; obtain ⟨HGz13, hgz13⟩ := HI0.out; have hcz13_1 := cellS63_1 HGz13; have hfz13_1 := blk_frozen HGz13 1; clear HGz13 hgz13; obtain ⟨HGz14, hgz14⟩ := HI0.out; have hcz14_2 := cellS63_2 HGz14; have hfz14_2 := blk_frozen HGz14 2; clear HGz14 hgz14; obtain ⟨HGz15, hgz15⟩ := HI0.out; have hcz15_3 := cellS63_3 HGz15; have hfz15_3 := blk_frozen HGz15 3; clear HGz15 hgz15))
  go_ret
  exact ⟨rtE, by repeat (first | (with_reducible first | exact HI0.out | apply IsS63.alloc | apply IsS63.drewN | apply IsS63.drew | apply IsS63.set_0 | apply IsS63.set_1 | apply IsS63.set_2 | apply IsS63.set_3 | apply IsS63.farB NB0_155.out) | exact HI0.out), by repeat (first | (with_reducible first | exact HB.out | apply below_alloc | apply pw_below_drewN | apply below_drew1 | refine below_set ?_ (IsS63.ge HI0.out) | refine below_set ?_ GE155.out) | exact HB.out), by repeat (first | (with_reducible first | exact HK.out | apply KeepBut.set_ | apply keep_drewN | apply keep_drew | apply keep_alloc | refine keep_far ?_ GW155.out _) | exact HK.out)⟩

/-! ### entry_Get: function 13 -/
def entry_Get.f (k : Nat) (a0 : ByteArray) : Option (Int × Int × ByteArray × ByteArray × ByteArray × Int × Bool) := if (a0.size : Int) = 20 then ((cursor_New.f a0).bind fun bt157 => ((entry_reader_num.f k bt157.1 bt157.2.1 bt157.2.2.1 bt157.2.2.2 2).bind fun bt163 => ((entry_reader_num.f k bt163.2.1 bt163.2.2.1 bt163.2.2.2.1 bt163.2.2.2.2 2).bind fun bt168 => ((entry_reader_four.f bt168.2.1 bt168.2.2.1 bt168.2.2.2.1 bt168.2.2.2.2).bind fun bt173 => ((entry_reader_four.f bt173.2.1 bt173.2.2.1 bt173.2.2.2.1 bt173.2.2.2.2).bind fun bt178 => ((entry_reader_four.f bt178.2.1 bt178.2.2.1 bt178.2.2.2.1 bt178.2.2.2.2).bind fun bt183 => ((entry_reader_num.f k bt183.2.1 bt183.2.2.1 bt183.2.2.2.1 bt183.2.2.2.2 4).bind fun bt188 => (some (bt163.1, bt168.1, bt173.1, bt178.1, bt183.1, bt188.1, true))))))))) else (some (0, 0, (⟨#[]⟩ : ByteArray), (⟨#[]⟩ : ByteArray), (⟨#[]⟩ : ByteArray), 0, false))
theorem entry_Get.mono : ∀ a0 k, LeO (entry_Get.f k a0) (entry_Get.f (k + 1) a0) := by
  intro a0 k
  unfold entry_Get.f
  repeat' first
      | (with_reducible exact entry_reader_num.mono _ _ _ _ _ _)
      | (with_reducible exact LeO.refl _)
      | (with_reducible exact LeO.none _)
      | (with_reducible refine LeO.ite ?_ ?_)
      | (with_reducible refine LeO.bind ?_ (fun _ => ?_))
      | exact entry_reader_num.mono _ _ _ _ _ _
      | exact LeO.none _
      | refine LeO.ite ?_ ?_
      | refine LeO.bind ?_ (fun _ => ?_)
set_option maxHeartbeats 8000000 in
set_option maxRecDepth 100000 in
theorem entry_Get.calls (k : Nat) (a0 : ByteArray) (r1 : Int) (r2 : Int) (r3 : ByteArray) (r4 : ByteArray) (r5 : ByteArray) (r6 : Int) (r7 : Bool) (w : World) (h : entry_Get.f k a0 = some (r1, r2, r3, r4, r5, r6, r7)) :
    Calls Try.prog 13 #[.string a0] w fun e w' => e = .returned (.tuple #[.agg #[.int .i64 r1, .int .i64 r2, .string r3, .string r4, .string r5, .int .i64 r6], .bool r7]) ∧ Below w.heap.size w w' := by
  have hu23 := Try.underlying23
  have hu63 := Try.underlying63
  have HB := Aside0.mk (Below.refl w.heap.size w)
  have H : (if (a0.size : Int) = 20 then ((cursor_New.f a0).bind fun bt157 => ((entry_reader_num.f k bt157.1 bt157.2.1 bt157.2.2.1 bt157.2.2.2 2).bind fun bt163 => ((entry_reader_num.f k bt163.2.1 bt163.2.2.1 bt163.2.2.2.1 bt163.2.2.2.2 2).bind fun bt168 => ((entry_reader_four.f bt168.2.1 bt168.2.2.1 bt168.2.2.2.1 bt168.2.2.2.2).bind fun bt173 => ((entry_reader_four.f bt173.2.1 bt173.2.2.1 bt173.2.2.2.1 bt173.2.2.2.2).bind fun bt178 => ((entry_reader_four.f bt178.2.1 bt178.2.2.1 bt178.2.2.2.1 bt178.2.2.2.2).bind fun bt183 => ((entry_reader_num.f k bt183.2.1 bt183.2.2.1 bt183.2.2.2.1 bt183.2.2.2.2 4).bind fun bt188 => (some (bt163.1, bt168.1, bt173.1, bt178.1, bt183.1, bt188.1, true))))))))) else (some (0, 0, (⟨#[]⟩ : ByteArray), (⟨#[]⟩ : ByteArray), (⟨#[]⟩ : ByteArray), 0, false))) = some (r1, r2, r3, r4, r5, r6, r7) := h
  clear h
  by_cases c2 : (a0.size : Int) = 20
  · rw [if_pos c2] at H
    have c2b0 : ((a0.size : Int) == 20) = true := beq_iff_eq.mpr c2
    have c2b1 : ((a0.size : Int) != 20) = false := bne_eq_false_iff_eq.mpr c2
    clear c2
    replace H := Option.bind_eq_some_iff.mp H
    obtain ⟨⟨t157, t158, t159, t160⟩, A30, H⟩ := H
    replace H : ((entry_reader_num.f k t157 t158 t159 t160 2).bind fun bt163 => ((entry_reader_num.f k bt163.2.1 bt163.2.2.1 bt163.2.2.2.1 bt163.2.2.2.2 2).bind fun bt168 => ((entry_reader_four.f bt168.2.1 bt168.2.2.1 bt168.2.2.2.1 bt168.2.2.2.2).bind fun bt173 => ((entry_reader_four.f bt173.2.1 bt173.2.2.1 bt173.2.2.2.1 bt173.2.2.2.2).bind fun bt178 => ((entry_reader_four.f bt178.2.1 bt178.2.2.1 bt178.2.2.2.1 bt178.2.2.2.2).bind fun bt183 => ((entry_reader_num.f k bt183.2.1 bt183.2.2.1 bt183.2.2.2.1 bt183.2.2.2.2 4).bind fun bt188 => (some (bt163.1, bt168.1, bt173.1, bt178.1, bt183.1, bt188.1, true)))))))) = some (r1, r2, r3, r4, r5, r6, r7) := H
    have A3 := Aside0.mk A30
    clear A30
    replace H := Option.bind_eq_some_iff.mp H
    obtain ⟨⟨t163, t164, t165, t166, t167⟩, A40, H⟩ := H
    replace H : ((entry_reader_num.f k t164 t165 t166 t167 2).bind fun bt168 => ((entry_reader_four.f bt168.2.1 bt168.2.2.1 bt168.2.2.2.1 bt168.2.2.2.2).bind fun bt173 => ((entry_reader_four.f bt173.2.1 bt173.2.2.1 bt173.2.2.2.1 bt173.2.2.2.2).bind fun bt178 => ((entry_reader_four.f bt178.2.1 bt178.2.2.1 bt178.2.2.2.1 bt178.2.2.2.2).bind fun bt183 => ((entry_reader_num.f k bt183.2.1 bt183.2.2.1 bt183.2.2.2.1 bt183.2.2.2.2 4).bind fun bt188 => (some (t163, bt168.1, bt173.1, bt178.1, bt183.1, bt188.1, true))))))) = some (r1, r2, r3, r4, r5, r6, r7) := H
    have A4 := Aside0.mk A40
    clear A40
    replace H := Option.bind_eq_some_iff.mp H
    obtain ⟨⟨t168, t169, t170, t171, t172⟩, A50, H⟩ := H
    replace H : ((entry_reader_four.f t169 t170 t171 t172).bind fun bt173 => ((entry_reader_four.f bt173.2.1 bt173.2.2.1 bt173.2.2.2.1 bt173.2.2.2.2).bind fun bt178 => ((entry_reader_four.f bt178.2.1 bt178.2.2.1 bt178.2.2.2.1 bt178.2.2.2.2).bind fun bt183 => ((entry_reader_num.f k bt183.2.1 bt183.2.2.1 bt183.2.2.2.1 bt183.2.2.2.2 4).bind fun bt188 => (some (t163, t168, bt173.1, bt178.1, bt183.1, bt188.1, true)))))) = some (r1, r2, r3, r4, r5, r6, r7) := H
    have A5 := Aside0.mk A50
    clear A50
    replace H := Option.bind_eq_some_iff.mp H
    obtain ⟨⟨t173, t174, t175, t176, t177⟩, A60, H⟩ := H
    replace H : ((entry_reader_four.f t174 t175 t176 t177).bind fun bt178 => ((entry_reader_four.f bt178.2.1 bt178.2.2.1 bt178.2.2.2.1 bt178.2.2.2.2).bind fun bt183 => ((entry_reader_num.f k bt183.2.1 bt183.2.2.1 bt183.2.2.2.1 bt183.2.2.2.2 4).bind fun bt188 => (some (t163, t168, t173, bt178.1, bt183.1, bt188.1, true))))) = some (r1, r2, r3, r4, r5, r6, r7) := H
    have A6 := Aside0.mk A60
    clear A60
    replace H := Option.bind_eq_some_iff.mp H
    obtain ⟨⟨t178, t179, t180, t181, t182⟩, A70, H⟩ := H
    replace H : ((entry_reader_four.f t179 t180 t181 t182).bind fun bt183 => ((entry_reader_num.f k bt183.2.1 bt183.2.2.1 bt183.2.2.2.1 bt183.2.2.2.2 4).bind fun bt188 => (some (t163, t168, t173, t178, bt183.1, bt188.1, true)))) = some (r1, r2, r3, r4, r5, r6, r7) := H
    have A7 := Aside0.mk A70
    clear A70
    replace H := Option.bind_eq_some_iff.mp H
    obtain ⟨⟨t183, t184, t185, t186, t187⟩, A80, H⟩ := H
    replace H : ((entry_reader_num.f k t184 t185 t186 t187 4).bind fun bt188 => (some (t163, t168, t173, t178, t183, bt188.1, true))) = some (r1, r2, r3, r4, r5, r6, r7) := H
    have A8 := Aside0.mk A80
    clear A80
    replace H := Option.bind_eq_some_iff.mp H
    obtain ⟨⟨t188, t189, t190, t191, t192⟩, A90, H⟩ := H
    replace H : (some (t163, t168, t173, t178, t183, t188, true)) = some (r1, r2, r3, r4, r5, r6, r7) := H
    have A9 := Aside0.mk A90
    clear A90
    simp only [Option.some.injEq, Prod.mk.injEq] at H
    obtain ⟨rfl, rfl, rfl, rfl, rfl, rfl, rfl⟩ := H
    go_enter Try.func13, Try.ntmps13
    go_wp2_with (first | ((with_reducible refine gate_dst (N := 2) rfl ?_); refine box_event ?hg (N := 2) ?hd (cs := #[.int .i64 0, .int .i64 0, .string (⟨#[]⟩ : ByteArray), .string (⟨#[]⟩ : ByteArray), .string (⟨#[]⟩ : ByteArray), .int .i64 0]) (t := 23) ?hr ?_; (case hd => rfl); (case hg => rfl); (case hr => first | (go_simp; done) | (go_simp; rfl)); intro gb156 hg w10 hbox hb; have n0_ := Aside0.mk (below_step (bel) hb); have n1_ := Aside0.mk (hbox); have n2_ := Aside0.mk ((by rw [hg]; exact bsz : w.heap.size ≤ gb156)); have n3_ := Aside0.mk ((by rw [hg]; exact bsz : w.heap.size ≤ gb156)); clear HB; have HB := n0_; have BK156 := n1_; have GW156 := n2_; have GE156 := n3_; clear n0_ n1_ n2_ n3_; clear hb hbox hg) | ((with_reducible refine gate_callee (f := 38) rfl ?_); refine goesL_ (some 11) rfl rfl Try.func38 (by kernel_rfl) rfl #[.string a0] rfl gAr ?_; (with_reducible refine (cursor_New.calls a0 t157 t158 t159 t160 _ A3.out).mono ?_); rintro e w11 ⟨rfl, hb⟩; refine ⟨_, rfl, ?_⟩; have n0_ := Aside0.mk (blk_below (blk_below BK156.out bll) hb); have n1_ := Aside0.mk (below_step (bel) hb); clear BK156; clear HB; have BK156 := n0_; have HB := n1_; clear n0_ n1_; (try clear hb)) | ((with_reducible refine gate_dst (N := 13) rfl ?_); refine box_event ?hg (N := 13) ?hd (cs := #[.string t157, .int .i64 t158, .int .i64 t159, .bool t160]) (t := 63) ?hr ?_; (case hd => rfl); (case hg => rfl); (case hr => first | (go_simp; done) | (go_simp; rfl)); intro gb161 hg w12 hbox hb; have n0_ := Aside0.mk (blk_below (blk_below BK156.out bll) hb); have n1_ := Aside0.mk (below_step (bel) hb); have n2_ := Aside0.mk (hbox); have n3_ := Aside0.mk ((by rw [hg]; exact bsz : w.heap.size ≤ gb161)); have n4_ := Aside0.mk ((by rw [hg]; exact bsz : w.heap.size ≤ gb161)); have n5_ := Aside0.mk ((by rw [hg]; exact Nat.ne_of_lt (blk_lt (blk_below BK156.out bll)) : gb156 ≠ gb161)); have n6_ := Aside0.mk ((by rw [hg]; exact Nat.ne_of_gt (blk_lt (blk_below BK156.out bll)) : gb161 ≠ gb156)); clear BK156; clear HB; have BK156 := n0_; have HB := n1_; have BK161 := n2_; have GW161 := n3_; have GE161 := n4_; have NB156_161 := n5_; have NB161_156 := n6_; clear n0_ n1_ n2_ n3_ n4_ n5_ n6_; clear hb hbox hg; have HI161 := Aside0.mk (show IsS63 w w12 gb161 t157 t158 t159 t160 from ⟨BK161.out, GE161.out⟩); clear BK161) | ((with_reducible refine gate_dst (N := 5) rfl ?_); refine box_event ?hg (N := 5) ?hd (cs := #[.int .i64 0, .int .i64 0, .string (⟨#[]⟩ : ByteArray), .string (⟨#[]⟩ : ByteArray), .string (⟨#[]⟩ : ByteArray), .int .i64 0]) (t := 23) ?hr ?_; (case hd => rfl); (case hg => rfl); (case hr => first | (go_simp; done) | (go_simp; rfl)); intro gb162 hg w13 hbox hb; have n0_ := Aside0.mk (blk_below (blk_below BK156.out bll) hb); have n1_ := Aside0.mk (IsS63.below (by repeat (first | (with_reducible first | exact HI161.out | apply IsS63.alloc | apply IsS63.drewN | apply IsS63.drew | apply IsS63.set_0 | apply IsS63.set_1 | apply IsS63.set_2 | apply IsS63.set_3 | apply IsS63.farB NB161_156.out) | exact HI161.out)) hb); have n2_ := Aside0.mk (below_step (by repeat (first | (with_reducible first | exact HB.out | apply below_alloc | apply pw_below_drewN | apply below_drew1 | refine below_set ?_ (IsS63.ge HI161.out) | refine below_set ?_ GE156.out) | exact HB.out)) hb); have n3_ := Aside0.mk (hbox); have n4_ := Aside0.mk ((by rw [hg]; exact (below_size (by repeat (first | (with_reducible first | exact HB.out | apply below_alloc | apply pw_below_drewN | apply below_drew1 | refine below_set ?_ (IsS63.ge HI161.out) | refine below_set ?_ GE156.out) | exact HB.out))) : w.heap.size ≤ gb162)); have n5_ := Aside0.mk ((by rw [hg]; exact (below_size (by repeat (first | (with_reducible first | exact HB.out | apply below_alloc | apply pw_below_drewN | apply below_drew1 | refine below_set ?_ (IsS63.ge HI161.out) | refine below_set ?_ GE156.out) | exact HB.out))) : w.heap.size ≤ gb162)); have n6_ := Aside0.mk ((by rw [hg]; exact Nat.ne_of_lt (blk_lt (blk_below BK156.out bll)) : gb156 ≠ gb162)); have n7_ := Aside0.mk ((by rw [hg]; exact Nat.ne_of_gt (blk_lt (blk_below BK156.out bll)) : gb162 ≠ gb156)); have n8_ := Aside0.mk ((by rw [hg]; exact Nat.ne_of_lt (IsS63.lt (show IsS63 w _ gb161 t157 t158 t159 t160 from by repeat (first | (with_reducible first | exact HI161.out | apply IsS63.alloc | apply IsS63.drewN | apply IsS63.drew | apply IsS63.set_0 | apply IsS63.set_1 | apply IsS63.set_2 | apply IsS63.set_3 | apply IsS63.farB NB161_156.out) | exact HI161.out))) : gb161 ≠ gb162)); have n9_ := Aside0.mk ((by rw [hg]; exact Nat.ne_of_gt (IsS63.lt (show IsS63 w _ gb161 t157 t158 t159 t160 from by repeat (first | (with_reducible first | exact HI161.out | apply IsS63.alloc | apply IsS63.drewN | apply IsS63.drew | apply IsS63.set_0 | apply IsS63.set_1 | apply IsS63.set_2 | apply IsS63.set_3 | apply IsS63.farB NB161_156.out) | exact HI161.out))) : gb162 ≠ gb161)); clear BK156; clear HI161; clear HB; have BK156 := n0_; have HI161 := n1_; have HB := n2_; have BK162 := n3_; have GW162 := n4_; have GE162 := n5_; have NB156_162 := n6_; have NB162_156 := n7_; have NB161_162 := n8_; have NB162_161 := n9_; clear n0_ n1_ n2_ n3_ n4_ n5_ n6_ n7_ n8_ n9_; clear hb hbox hg) | ((with_reducible refine gate_callee (f := 39) rfl ?_); refine goesL_ (some 15) rfl rfl Try.func39 (by kernel_rfl) rfl #[.pointer (some ⟨gb161, 0, none⟩), .int .i64 2] rfl gAr ?_; (with_reducible refine (entry_reader_num.calls k gb161 t157 t158 t159 t160 2 t163 t164 t165 t166 t167 w _ ?side1 ?side2 A4.out).mono ?_); (case side1 => repeat (first | (with_reducible first | exact HI161.out | apply IsS63.alloc | apply IsS63.drewN | apply IsS63.drew | apply IsS63.set_0 | apply IsS63.set_1 | apply IsS63.set_2 | apply IsS63.set_3 | apply IsS63.farB NB161_156.out | apply IsS63.farB NB161_162.out) | exact HI161.out)); (case side2 => repeat (first | (with_reducible first | exact HB.out | apply below_alloc | apply pw_below_drewN | apply below_drew1 | refine below_set ?_ (IsS63.ge HI161.out) | refine below_set ?_ GE156.out | refine below_set ?_ GE162.out) | exact HB.out)); rintro e w14 ⟨rfl, hi, hb, hk⟩; refine ⟨_, rfl, ?_⟩; have n0_ := Aside0.mk (KeepBut.blk hk (g' := gb156) (o := .cells #[.int .i64 0, .int .i64 0, .string (⟨#[]⟩ : ByteArray), .string (⟨#[]⟩ : ByteArray), .string (⟨#[]⟩ : ByteArray), .int .i64 0] 23 (0, 0)) (blk_below BK156.out bll) NB156_161.out (by simp)); have n1_ := Aside0.mk (KeepBut.blk hk (g' := gb162) (o := .cells #[.int .i64 0, .int .i64 0, .string (⟨#[]⟩ : ByteArray), .string (⟨#[]⟩ : ByteArray), .string (⟨#[]⟩ : ByteArray), .int .i64 0] 23 (0, 0)) (blk_below BK162.out bll) NB162_161.out (by simp)); have n2_ := Aside0.mk (hb); have n3_ := Aside0.mk (hi); clear BK156; clear BK162; clear HB; clear HI161; have BK156 := n0_; have BK162 := n1_; have HB := n2_; have HI161 := n3_; clear n0_ n1_ n2_ n3_; (try clear hb); have hnb15 := NB162_156.out; have hnc15 := NB156_162.out; have hnb16 := NB162_161.out; have hnc16 := NB161_162.out; have hcz17_0 := cl0 BK162.out; have hfz17_0 := blk_frozen BK162.out 0) | ((with_reducible refine gate_callee (f := 39) rfl ?_); refine goesL_ (some 18) rfl rfl Try.func39 (by kernel_rfl) rfl #[.pointer (some ⟨gb161, 0, none⟩), .int .i64 2] rfl gAr ?_; (with_reducible refine (entry_reader_num.calls k gb161 t164 t165 t166 t167 2 t168 t169 t170 t171 t172 w _ ?side1 ?side2 A5.out).mono ?_); (case side1 => repeat (first | (with_reducible first | exact HI161.out | apply IsS63.alloc | apply IsS63.drewN | apply IsS63.drew | apply IsS63.set_0 | apply IsS63.set_1 | apply IsS63.set_2 | apply IsS63.set_3 | apply IsS63.farB NB161_156.out | apply IsS63.farB NB161_162.out) | exact HI161.out)); (case side2 => repeat (first | (with_reducible first | exact HB.out | apply below_alloc | apply pw_below_drewN | apply below_drew1 | refine below_set ?_ (IsS63.ge HI161.out) | refine below_set ?_ GE156.out | refine below_set ?_ GE162.out) | exact HB.out)); rintro e w18 ⟨rfl, hi, hb, hk⟩; refine ⟨_, rfl, ?_⟩; have n0_ := Aside0.mk (KeepBut.blk hk (g' := gb156) (o := .cells #[.int .i64 0, .int .i64 0, .string (⟨#[]⟩ : ByteArray), .string (⟨#[]⟩ : ByteArray), .string (⟨#[]⟩ : ByteArray), .int .i64 0] 23 (0, 0)) (blk) NB156_161.out (by simp)); have n1_ := Aside0.mk (KeepBut.blk hk (g' := gb162) (o := .cells #[.int .i64 t163, .int .i64 0, .string (⟨#[]⟩ : ByteArray), .string (⟨#[]⟩ : ByteArray), .string (⟨#[]⟩ : ByteArray), .int .i64 0] 23 (0, 0)) (blk) NB162_161.out (by simp)); have n2_ := Aside0.mk (hb); have n3_ := Aside0.mk (hi); clear BK156; clear BK162; clear HB; clear HI161; have BK156 := n0_; have BK162 := n1_; have HB := n2_; have HI161 := n3_; clear n0_ n1_ n2_ n3_; (try clear hb); have hcz19_1 := cl1 BK162.out; have hfz19_1 := blk_frozen BK162.out 1) | ((with_reducible refine gate_callee (f := 40) rfl ?_); refine goesL_ (some 21) rfl rfl Try.func40 (by kernel_rfl) rfl #[.pointer (some ⟨gb161, 0, none⟩)] rfl gAr ?_; (with_reducible refine (entry_reader_four.calls gb161 t169 t170 t171 t172 t173 t174 t175 t176 t177 w _ ?side1 ?side2 A6.out).mono ?_); (case side1 => repeat (first | (with_reducible first | exact HI161.out | apply IsS63.alloc | apply IsS63.drewN | apply IsS63.drew | apply IsS63.set_0 | apply IsS63.set_1 | apply IsS63.set_2 | apply IsS63.set_3 | apply IsS63.farB NB161_156.out | apply IsS63.farB NB161_162.out) | exact HI161.out)); (case side2 => repeat (first | (with_reducible first | exact HB.out | apply below_alloc | apply pw_below_drewN | apply below_drew1 | refine below_set ?_ (IsS63.ge HI161.out) | refine below_set ?_ GE156.out | refine below_set ?_ GE162.out) | exact HB.out)); rintro e w20 ⟨rfl, hi, hb, hk⟩; refine ⟨_, rfl, ?_⟩; have n0_ := Aside0.mk (KeepBut.blk hk (g' := gb156) (o := .cells #[.int .i64 0, .int .i64 0, .string (⟨#[]⟩ : ByteArray), .string (⟨#[]⟩ : ByteArray), .string (⟨#[]⟩ : ByteArray), .int .i64 0] 23 (0, 0)) (blk) NB156_161.out (by simp)); have n1_ := Aside0.mk (KeepBut.blk hk (g' := gb162) (o := .cells #[.int .i64 t163, .int .i64 t168, .string (⟨#[]⟩ : ByteArray), .string (⟨#[]⟩ : ByteArray), .string (⟨#[]⟩ : ByteArray), .int .i64 0] 23 (0, 0)) (blk) NB162_161.out (by simp)); have n2_ := Aside0.mk (hb); have n3_ := Aside0.mk (hi); clear BK156; clear BK162; clear HB; clear HI161; have BK156 := n0_; have BK162 := n1_; have HB := n2_; have HI161 := n3_; clear n0_ n1_ n2_ n3_; (try clear hb); have hcz21_2 := cl2 BK162.out; have hfz21_2 := blk_frozen BK162.out 2) | ((with_reducible refine gate_callee (f := 40) rfl ?_); refine goesL_ (some 24) rfl rfl Try.func40 (by kernel_rfl) rfl #[.pointer (some ⟨gb161, 0, none⟩)] rfl gAr ?_; (with_reducible refine (entry_reader_four.calls gb161 t174 t175 t176 t177 t178 t179 t180 t181 t182 w _ ?side1 ?side2 A7.out).mono ?_); (case side1 => repeat (first | (with_reducible first | exact HI161.out | apply IsS63.alloc | apply IsS63.drewN | apply IsS63.drew | apply IsS63.set_0 | apply IsS63.set_1 | apply IsS63.set_2 | apply IsS63.set_3 | apply IsS63.farB NB161_156.out | apply IsS63.farB NB161_162.out) | exact HI161.out)); (case side2 => repeat (first | (with_reducible first | exact HB.out | apply below_alloc | apply pw_below_drewN | apply below_drew1 | refine below_set ?_ (IsS63.ge HI161.out) | refine below_set ?_ GE156.out | refine below_set ?_ GE162.out) | exact HB.out)); rintro e w22 ⟨rfl, hi, hb, hk⟩; refine ⟨_, rfl, ?_⟩; have n0_ := Aside0.mk (KeepBut.blk hk (g' := gb156) (o := .cells #[.int .i64 0, .int .i64 0, .string (⟨#[]⟩ : ByteArray), .string (⟨#[]⟩ : ByteArray), .string (⟨#[]⟩ : ByteArray), .int .i64 0] 23 (0, 0)) (blk) NB156_161.out (by simp)); have n1_ := Aside0.mk (KeepBut.blk hk (g' := gb162) (o := .cells #[.int .i64 t163, .int .i64 t168, .string t173, .string (⟨#[]⟩ : ByteArray), .string (⟨#[]⟩ : ByteArray), .int .i64 0] 23 (0, 0)) (blk) NB162_161.out (by simp)); have n2_ := Aside0.mk (hb); have n3_ := Aside0.mk (hi); clear BK156; clear BK162; clear HB; clear HI161; have BK156 := n0_; have BK162 := n1_; have HB := n2_; have HI161 := n3_; clear n0_ n1_ n2_ n3_; (try clear hb); have hcz23_3 := cl3 BK162.out; have hfz23_3 := blk_frozen BK162.out 3) | ((with_reducible refine gate_callee (f := 40) rfl ?_); refine goesL_ (some 27) rfl rfl Try.func40 (by kernel_rfl) rfl #[.pointer (some ⟨gb161, 0, none⟩)] rfl gAr ?_; (with_reducible refine (entry_reader_four.calls gb161 t179 t180 t181 t182 t183 t184 t185 t186 t187 w _ ?side1 ?side2 A8.out).mono ?_); (case side1 => repeat (first | (with_reducible first | exact HI161.out | apply IsS63.alloc | apply IsS63.drewN | apply IsS63.drew | apply IsS63.set_0 | apply IsS63.set_1 | apply IsS63.set_2 | apply IsS63.set_3 | apply IsS63.farB NB161_156.out | apply IsS63.farB NB161_162.out) | exact HI161.out)); (case side2 => repeat (first | (with_reducible first | exact HB.out | apply below_alloc | apply pw_below_drewN | apply below_drew1 | refine below_set ?_ (IsS63.ge HI161.out) | refine below_set ?_ GE156.out | refine below_set ?_ GE162.out) | exact HB.out)); rintro e w24 ⟨rfl, hi, hb, hk⟩; refine ⟨_, rfl, ?_⟩; have n0_ := Aside0.mk (KeepBut.blk hk (g' := gb156) (o := .cells #[.int .i64 0, .int .i64 0, .string (⟨#[]⟩ : ByteArray), .string (⟨#[]⟩ : ByteArray), .string (⟨#[]⟩ : ByteArray), .int .i64 0] 23 (0, 0)) (blk) NB156_161.out (by simp)); have n1_ := Aside0.mk (KeepBut.blk hk (g' := gb162) (o := .cells #[.int .i64 t163, .int .i64 t168, .string t173, .string t178, .string (⟨#[]⟩ : ByteArray), .int .i64 0] 23 (0, 0)) (blk) NB162_161.out (by simp)); have n2_ := Aside0.mk (hb); have n3_ := Aside0.mk (hi); clear BK156; clear BK162; clear HB; clear HI161; have BK156 := n0_; have BK162 := n1_; have HB := n2_; have HI161 := n3_; clear n0_ n1_ n2_ n3_; (try clear hb); have hcz25_4 := cl4 BK162.out; have hfz25_4 := blk_frozen BK162.out 4) | ((with_reducible refine gate_callee (f := 39) rfl ?_); refine goesL_ (some 30) rfl rfl Try.func39 (by kernel_rfl) rfl #[.pointer (some ⟨gb161, 0, none⟩), .int .i64 4] rfl gAr ?_; (with_reducible refine (entry_reader_num.calls k gb161 t184 t185 t186 t187 4 t188 t189 t190 t191 t192 w _ ?side1 ?side2 A9.out).mono ?_); (case side1 => repeat (first | (with_reducible first | exact HI161.out | apply IsS63.alloc | apply IsS63.drewN | apply IsS63.drew | apply IsS63.set_0 | apply IsS63.set_1 | apply IsS63.set_2 | apply IsS63.set_3 | apply IsS63.farB NB161_156.out | apply IsS63.farB NB161_162.out) | exact HI161.out)); (case side2 => repeat (first | (with_reducible first | exact HB.out | apply below_alloc | apply pw_below_drewN | apply below_drew1 | refine below_set ?_ (IsS63.ge HI161.out) | refine below_set ?_ GE156.out | refine below_set ?_ GE162.out) | exact HB.out)); rintro e w26 ⟨rfl, hi, hb, hk⟩; refine ⟨_, rfl, ?_⟩; have n0_ := Aside0.mk (KeepBut.blk hk (g' := gb156) (o := .cells #[.int .i64 0, .int .i64 0, .string (⟨#[]⟩ : ByteArray), .string (⟨#[]⟩ : ByteArray), .string (⟨#[]⟩ : ByteArray), .int .i64 0] 23 (0, 0)) (blk) NB156_161.out (by simp)); have n1_ := Aside0.mk (KeepBut.blk hk (g' := gb162) (o := .cells #[.int .i64 t163, .int .i64 t168, .string t173, .string t178, .string t183, .int .i64 0] 23 (0, 0)) (blk) NB162_161.out (by simp)); have n2_ := Aside0.mk (hb); have n3_ := Aside0.mk (hi); clear BK156; clear BK162; clear HB; clear HI161; have BK156 := n0_; have BK162 := n1_; have HB := n2_; have HI161 := n3_; clear n0_ n1_ n2_ n3_; (try clear hb); have hcz27_5 := cl5 BK162.out; have hfz27_5 := blk_frozen BK162.out 5; have hcz28_0 := cl0 BK162.out; have hcz28_1 := cl1 BK162.out; have hcz28_2 := cl2 BK162.out; have hcz28_3 := cl3 BK162.out; have hcz28_4 := cl4 BK162.out; have hcz28_5 := cl5 BK162.out; have hfz28_0 := blk_frozen BK162.out 0; have hfz28_1 := blk_frozen BK162.out 1; have hfz28_2 := blk_frozen BK162.out 2; have hfz28_3 := blk_frozen BK162.out 3; have hfz28_4 := blk_frozen BK162.out 4; have hfz28_5 := blk_frozen BK162.out 5; have hnb29 := NB156_161.out; have hnc29 := NB161_156.out; have hcz30_0 := cl0 BK156.out; have hfz30_0 := blk_frozen BK156.out 0; have hcz31_1 := cl1 BK156.out; have hfz31_1 := blk_frozen BK156.out 1; have hcz32_2 := cl2 BK156.out; have hfz32_2 := blk_frozen BK156.out 2; have hcz33_3 := cl3 BK156.out; have hfz33_3 := blk_frozen BK156.out 3; have hcz34_4 := cl4 BK156.out; have hfz34_4 := blk_frozen BK156.out 4; have hcz35_5 := cl5 BK156.out; have hfz35_5 := blk_frozen BK156.out 5))
    refine bodyPost_ret (results_ct rfl _ _ gb156 23 #[.int .i64 t163, .int .i64 t168, .string t173, .string t178, .string t183, .int .i64 t188] (0, 0) _ rfl (blk) Try.underlying23 rfl (by kernel_rfl)) rfl ?_
    exact ⟨rtE, by repeat (first | (with_reducible first | exact HB.out | apply below_alloc | apply pw_below_drewN | apply below_drew1 | refine below_set ?_ (IsS63.ge HI161.out) | refine below_set ?_ GE156.out | refine below_set ?_ GE162.out) | exact HB.out)⟩
  · rw [if_neg c2] at H
    have c2b0 : ((a0.size : Int) == 20) = false := beq_eq_false_iff_ne.mpr c2
    have c2b1 : ((a0.size : Int) != 20) = true := bne_iff_ne.mpr c2
    simp only [Option.some.injEq, Prod.mk.injEq] at H
    obtain ⟨rfl, rfl, rfl, rfl, rfl, rfl, rfl⟩ := H
    go_enter Try.func13, Try.ntmps13
    go_wp2_with (first | ((with_reducible refine gate_dst (N := 2) rfl ?_); refine box_event ?hg (N := 2) ?hd (cs := #[.int .i64 0, .int .i64 0, .string (⟨#[]⟩ : ByteArray), .string (⟨#[]⟩ : ByteArray), .string (⟨#[]⟩ : ByteArray), .int .i64 0]) (t := 23) ?hr ?_; (case hd => rfl); (case hg => rfl); (case hr => first | (go_simp; done) | (go_simp; rfl)); intro gb156 hg w36 hbox hb; have n0_ := Aside0.mk (below_step (bel) hb); have n1_ := Aside0.mk (hbox); have n2_ := Aside0.mk ((by rw [hg]; exact bsz : w.heap.size ≤ gb156)); have n3_ := Aside0.mk ((by rw [hg]; exact bsz : w.heap.size ≤ gb156)); clear HB; have HB := n0_; have BK156 := n1_; have GW156 := n2_; have GE156 := n3_; clear n0_ n1_ n2_ n3_; clear hb hbox hg; have hcz37_0 := cl0 BK156.out; have hfz37_0 := blk_frozen BK156.out 0; have hcz38_1 := cl1 BK156.out; have hfz38_1 := blk_frozen BK156.out 1; have hcz39_2 := cl2 BK156.out; have hfz39_2 := blk_frozen BK156.out 2; have hcz40_3 := cl3 BK156.out; have hfz40_3 := blk_frozen BK156.out 3; have hcz41_4 := cl4 BK156.out; have hfz41_4 := blk_frozen BK156.out 4; have hcz42_5 := cl5 BK156.out; have hfz42_5 := blk_frozen BK156.out 5))
    refine bodyPost_ret (results_ct rfl _ _ gb156 23 #[.int .i64 0, .int .i64 0, .string (⟨#[]⟩ : ByteArray), .string (⟨#[]⟩ : ByteArray), .string (⟨#[]⟩ : ByteArray), .int .i64 0] (0, 0) _ rfl (blk) Try.underlying23 rfl (by kernel_rfl)) rfl ?_
    exact ⟨rtE, bel⟩

/-! ### roadbookref08_Number: function 41 -/
def roadbookref08_Number.l0 : Nat → ByteArray → Int → Int → Option (Int)
  | 0, _, _, _ => none
  | k + 1, x0, x3, x4 => if x4 < (x0.size : Int) then (if x4 < 7 then (if 0 ≤ x4 then (roadbookref08_Number.l0 k x0 (wrap64 ((wrap64 (x3 * 256)) + (wrap64 (bt x0 x4)))) (wrap64 (x4 + 1))) else (none)) else (some x3)) else (some x3)
def roadbookref08_Number.f (k : Nat) (a0 : ByteArray) : Option (Int) := roadbookref08_Number.l0 k a0 0 0
theorem roadbookref08_Number.mono_l : ∀ k, (∀ y0 y1 y2, LeO (roadbookref08_Number.l0 k y0 y1 y2) (roadbookref08_Number.l0 (k + 1) y0 y1 y2))
  | 0 => fun _ _ _ r h => by simp [roadbookref08_Number.l0] at h
  | k + 1 => by
    have ih0 := roadbookref08_Number.mono_l k
    · intro y0 y1 y2
      unfold roadbookref08_Number.l0
      repeat' first
      | (with_reducible exact ih0 _ _ _)
      | (with_reducible exact LeO.refl _)
      | (with_reducible exact LeO.none _)
      | (with_reducible refine LeO.ite ?_ ?_)
      | (with_reducible refine LeO.bind ?_ (fun _ => ?_))
      | exact ih0 _ _ _
      | exact LeO.none _
      | refine LeO.ite ?_ ?_
      | refine LeO.bind ?_ (fun _ => ?_)
theorem roadbookref08_Number.mono : ∀ a0 k, LeO (roadbookref08_Number.f k a0) (roadbookref08_Number.f (k + 1) a0) := by
  intro a0 k
  have ih0 := roadbookref08_Number.mono_l k
  unfold roadbookref08_Number.f
  repeat' first
      | (with_reducible exact ih0 _ _ _)
      | (with_reducible exact LeO.refl _)
      | (with_reducible exact LeO.none _)
      | (with_reducible refine LeO.ite ?_ ?_)
      | (with_reducible refine LeO.bind ?_ (fun _ => ?_))
      | exact ih0 _ _ _
      | exact LeO.none _
      | refine LeO.ite ?_ ?_
      | refine LeO.bind ?_ (fun _ => ?_)
set_option maxHeartbeats 8000000 in
set_option maxRecDepth 100000 in
theorem roadbookref08_Number.calls (k : Nat) (a0 : ByteArray) (r : Int) (w : World) (h : roadbookref08_Number.f k a0 = some r) :
    Calls Try.prog 41 #[.string a0] w fun e w' => e = .returned (.int .i64 r) ∧ Drawn0 w w' := by
  have H : (roadbookref08_Number.l0 k a0 0 0) = some r := h
  clear h
  have H' := Aside0.mk H
  clear H
  go_enter Try.func41, Try.ntmps41
  go_wp2
  go_loopg [3, 4] k (fun kq v3 v4 w' => ∃ (x3_1 : Int) (x4_1 : Int), v3 = .int .i64 x3_1 ∧ v4 = .int .i64 x4_1 ∧ Aside0 (roadbookref08_Number.l0 kq a0 x3_1 x4_1 = some r) ∧ Aside0 (kq ≤ k) ∧ Drawn0 w w')
  case atStart => exact ⟨(0), (0), rfS, rfS, H', ⟨Nat.le_refl _⟩, by repeat (first | exact Drawn0.refl _ | apply Drawn0.step)⟩
  case round =>
    clear H'
    obtain ⟨x3_1, x4_1, rfl, rfl, HA, HK1, ⟨m1, rfl⟩⟩ := hrel
    cases gk with
    | zero => exact absurd HA.out (by simp [roadbookref08_Number.l0])
    | succ k1 =>
      have H := HA.out
      clear HA
      simp only [roadbookref08_Number.l0] at H
      by_cases c2 : x4_1 < (a0.size : Int)
      · rw [if_pos c2] at H
        have c2b0 : decide (x4_1 < (a0.size : Int)) = true := decide_eq_true c2
        clear c2
        by_cases c3 : x4_1 < 7
        · rw [if_pos c3] at H
          have c3b0 : decide (x4_1 < 7) = true := decide_eq_true c3
          clear c3
          by_cases c4 : 0 ≤ x4_1
          · rw [if_pos c4] at H
            have c4b0 : decide (0 ≤ x4_1) = true := decide_eq_true c4
            clear c4
            have H' := Aside0.mk H
            clear H
            have p5 : 0 ≤ (x4_1 : Int) := odt
            have q5 : x4_1 < (a0.size : Int) := odt
            have hx5 := bt_at a0 x4_1
            replace p5 := eq_true p5
            replace q5 := eq_true q5
            go_wp2
            go_roundg k1
            case measure => have := HK1.out; omega
            case rel => exact ⟨(wrap64 ((wrap64 (x3_1 * 256)) + (wrap64 (bt a0 x4_1)))), (wrap64 (x4_1 + 1)), rfS, rfS, H', ⟨by have := HK1.out; omega⟩, by repeat (first | exact Drawn0.refl _ | apply Drawn0.step)⟩
          · rw [if_neg c4] at H
            exact absurd H (by simp)
        · rw [if_neg c3] at H
          have c3b0 : decide (x4_1 < 7) = false := decide_eq_false c3
          clear c3
          obtain rfl := Option.some.inj H
          go_wp2
          go_ret
          exact ⟨rfS, by repeat (first | exact Drawn0.refl _ | apply Drawn0.step)⟩
      · rw [if_neg c2] at H
        have c2b0 : decide (x4_1 < (a0.size : Int)) = false := decide_eq_false c2
        clear c2
        obtain rfl := Option.some.inj H
        go_wp2
        go_ret
        exact ⟨rfS, by repeat (first | exact Drawn0.refl _ | apply Drawn0.step)⟩

/-! ### roadbookref08_Get: function 14 -/
def roadbookref08_Get.f (k : Nat) (a0 : ByteArray) : Option (Int × Int × ByteArray × ByteArray × ByteArray × Int × Bool) := if (a0.size : Int) = 20 then (if 0 ≤ 2 then (if 2 ≤ (a0.size : Int) then ((roadbookref08_Number.f k (a0.extract 0 2)).bind fun t194 => (if 2 ≤ 4 then (if 4 ≤ (a0.size : Int) then ((roadbookref08_Number.f k (a0.extract 2 4)).bind fun t195 => (if 4 ≤ 8 then (if 8 ≤ (a0.size : Int) then (if 8 ≤ 12 then (if 12 ≤ (a0.size : Int) then (if 12 ≤ 16 then (if 16 ≤ (a0.size : Int) then ((roadbookref08_Number.f k (a0.extract 16 a0.size)).bind fun t196 => (some (t194, t195, a0.extract 4 8, a0.extract 8 12, a0.extract 12 16, t196, true))) else (none)) else (none)) else (none)) else (none)) else (none)) else (none))) else (none)) else (none))) else (none)) else (none)) else (some (0, 0, (⟨#[]⟩ : ByteArray), (⟨#[]⟩ : ByteArray), (⟨#[]⟩ : ByteArray), 0, false))
theorem roadbookref08_Get.mono : ∀ a0 k, LeO (roadbookref08_Get.f k a0) (roadbookref08_Get.f (k + 1) a0) := by
  intro a0 k
  unfold roadbookref08_Get.f
  repeat' first
      | (with_reducible exact roadbookref08_Number.mono _ _)
      | (with_reducible exact LeO.refl _)
      | (with_reducible exact LeO.none _)
      | (with_reducible refine LeO.ite ?_ ?_)
      | (with_reducible refine LeO.bind ?_ (fun _ => ?_))
      | exact roadbookref08_Number.mono _ _
      | exact LeO.none _
      | refine LeO.ite ?_ ?_
      | refine LeO.bind ?_ (fun _ => ?_)
def roadbookref08_Get.T3 : Bool × List (List Nat × List Nat) := (true, [([], []), ([0], [0]), ([1], [1]), ([], []), ([3], [3]), ([4, 2], [4]), ([], []), ([6], [6]), ([], []), ([8], [8]), ([], []), ([10], [10]), ([], []), ([12], [12]), ([13, 5], [13]), ([2, 5, 7, 9, 11, 14], [2, 5, 7, 9, 11, 14]), ([15, 14, 0, 1, 2, 3, 4, 5, 6, 7, 8, 9, 10, 11, 12, 13, 14, 15], [15]), ([16, 0, 1, 2, 3, 4, 5, 6, 7, 8, 9, 10, 11, 12, 13, 14, 15, 16], [])])
def roadbookref08_Get.B3 : List Nat := [0, 1, 3, 0, 8, 31, 0, 64, 0, 256, 0, 1024, 0, 4096, 12351, 32767, 65535, 131071]
theorem roadbookref08_Get.tab3 : rtab .any (opsOf Try.f14 3) = roadbookref08_Get.T3 := by kernel_rfl
theorem roadbookref08_Get.bits3 : waitsOk roadbookref08_Get.T3.2 roadbookref08_Get.B3 = true := by kernel_rfl
set_option maxHeartbeats 8000000 in
set_option maxRecDepth 100000 in
theorem roadbookref08_Get.calls (k : Nat) (a0 : ByteArray) (r1 : Int) (r2 : Int) (r3 : ByteArray) (r4 : ByteArray) (r5 : ByteArray) (r6 : Int) (r7 : Bool) (w : World) (h : roadbookref08_Get.f k a0 = some (r1, r2, r3, r4, r5, r6, r7)) :
    Calls Try.prog 14 #[.string a0] w fun e w' => e = .returned (.tuple #[.agg #[.int .i64 r1, .int .i64 r2, .string r3, .string r4, .string r5, .int .i64 r6], .bool r7]) ∧ Below w.heap.size w w' := by
  have hu23 := Try.underlying23
  have HB := Aside0.mk (Below.refl w.heap.size w)
  have H : (if (a0.size : Int) = 20 then (if 0 ≤ 2 then (if 2 ≤ (a0.size : Int) then ((roadbookref08_Number.f k (a0.extract 0 2)).bind fun t194 => (if 2 ≤ 4 then (if 4 ≤ (a0.size : Int) then ((roadbookref08_Number.f k (a0.extract 2 4)).bind fun t195 => (if 4 ≤ 8 then (if 8 ≤ (a0.size : Int) then (if 8 ≤ 12 then (if 12 ≤ (a0.size : Int) then (if 12 ≤ 16 then (if 16 ≤ (a0.size : Int) then ((roadbookref08_Number.f k (a0.extract 16 a0.size)).bind fun t196 => (some (t194, t195, a0.extract 4 8, a0.extract 8 12, a0.extract 12 16, t196, true))) else (none)) else (none)) else (none)) else (none)) else (none)) else (none))) else (none)) else (none))) else (none)) else (none)) else (some (0, 0, (⟨#[]⟩ : ByteArray), (⟨#[]⟩ : ByteArray), (⟨#[]⟩ : ByteArray), 0, false))) = some (r1, r2, r3, r4, r5, r6, r7) := h
  clear h
  by_cases c2 : (a0.size : Int) = 20
  · rw [if_pos c2] at H
    have c2b0 : ((a0.size : Int) == 20) = true := beq_iff_eq.mpr c2
    have c2b1 : ((a0.size : Int) != 20) = false := bne_eq_false_iff_eq.mpr c2
    clear c2
    by_cases c3 : 0 ≤ 2
    · rw [if_pos c3] at H
      have c3b0 := eq_true c3
      have c3b1 : decide (0 ≤ 2) = true := decide_eq_true c3
      clear c3
      by_cases c4 : 2 ≤ (a0.size : Int)
      · rw [if_pos c4] at H
        have c4b0 := eq_true c4
        have c4b1 : decide (2 ≤ (a0.size : Int)) = true := decide_eq_true c4
        clear c4
        replace H := Option.bind_eq_some_iff.mp H
        obtain ⟨t194, A50, H⟩ := H
        replace H : (if 2 ≤ 4 then (if 4 ≤ (a0.size : Int) then ((roadbookref08_Number.f k (a0.extract 2 4)).bind fun t195 => (if 4 ≤ 8 then (if 8 ≤ (a0.size : Int) then (if 8 ≤ 12 then (if 12 ≤ (a0.size : Int) then (if 12 ≤ 16 then (if 16 ≤ (a0.size : Int) then ((roadbookref08_Number.f k (a0.extract 16 a0.size)).bind fun t196 => (some (t194, t195, a0.extract 4 8, a0.extract 8 12, a0.extract 12 16, t196, true))) else (none)) else (none)) else (none)) else (none)) else (none)) else (none))) else (none)) else (none)) = some (r1, r2, r3, r4, r5, r6, r7) := H
        have A5 := Aside0.mk A50
        clear A50
        by_cases c6 : 2 ≤ 4
        · rw [if_pos c6] at H
          have c6b0 := eq_true c6
          have c6b1 : decide (2 ≤ 4) = true := decide_eq_true c6
          clear c6
          by_cases c7 : 4 ≤ (a0.size : Int)
          · rw [if_pos c7] at H
            have c7b0 := eq_true c7
            have c7b1 : decide (4 ≤ (a0.size : Int)) = true := decide_eq_true c7
            clear c7
            replace H := Option.bind_eq_some_iff.mp H
            obtain ⟨t195, A80, H⟩ := H
            replace H : (if 4 ≤ 8 then (if 8 ≤ (a0.size : Int) then (if 8 ≤ 12 then (if 12 ≤ (a0.size : Int) then (if 12 ≤ 16 then (if 16 ≤ (a0.size : Int) then ((roadbookref08_Number.f k (a0.extract 16 a0.size)).bind fun t196 => (some (t194, t195, a0.extract 4 8, a0.extract 8 12, a0.extract 12 16, t196, true))) else (none)) else (none)) else (none)) else (none)) else (none)) else (none)) = some (r1, r2, r3, r4, r5, r6, r7) := H
            have A8 := Aside0.mk A80
            clear A80
            by_cases c9 : 4 ≤ 8
            · rw [if_pos c9] at H
              have c9b0 := eq_true c9
              have c9b1 : decide (4 ≤ 8) = true := decide_eq_true c9
              clear c9
              by_cases c10 : 8 ≤ (a0.size : Int)
              · rw [if_pos c10] at H
                have c10b0 := eq_true c10
                have c10b1 : decide (8 ≤ (a0.size : Int)) = true := decide_eq_true c10
                clear c10
                by_cases c11 : 8 ≤ 12
                · rw [if_pos c11] at H
                  have c11b0 := eq_true c11
                  have c11b1 : decide (8 ≤ 12) = true := decide_eq_true c11
                  clear c11
                  by_cases c12 : 12 ≤ (a0.size : Int)
                  · rw [if_pos c12] at H
                    have c12b0 := eq_true c12
                    have c12b1 : decide (12 ≤ (a0.size : Int)) = true := decide_eq_true c12
                    clear c12
                    by_cases c13 : 12 ≤ 16
                    · rw [if_pos c13] at H
                      have c13b0 := eq_true c13
                      have c13b1 : decide (12 ≤ 16) = true := decide_eq_true c13
                      clear c13
                      by_cases c14 : 16 ≤ (a0.size : Int)
                      · rw [if_pos c14] at H
                        have c14b0 := eq_true c14
                        have c14b1 : decide (16 ≤ (a0.size : Int)) = true := decide_eq_true c14
                        clear c14
                        have c15b0 := eq_true (odt : 16 ≤ (a0.size : Int))
                        replace H := Option.bind_eq_some_iff.mp H
                        obtain ⟨t196, A160, H⟩ := H
                        replace H : (some (t194, t195, a0.extract 4 8, a0.extract 8 12, a0.extract 12 16, t196, true)) = some (r1, r2, r3, r4, r5, r6, r7) := H
                        have A16 := Aside0.mk A160
                        clear A160
                        simp only [Option.some.injEq, Prod.mk.injEq] at H
                        obtain ⟨rfl, rfl, rfl, rfl, rfl, rfl, rfl⟩ := H
                        go_enter Try.func14, Try.ntmps14
                        try go_wp2_with (first | ((with_reducible refine gate_dst (N := 2) rfl ?_); refine box_event ?hg (N := 2) ?hd (cs := #[.int .i64 0, .int .i64 0, .string (⟨#[]⟩ : ByteArray), .string (⟨#[]⟩ : ByteArray), .string (⟨#[]⟩ : ByteArray), .int .i64 0]) (t := 23) ?hr ?_; (case hd => rfl); (case hg => rfl); (case hr => first | (go_simp; done) | (go_simp; rfl)); intro gb193 hg w17 hbox hb; have n0_ := Aside0.mk (below_step (bel) hb); have n1_ := Aside0.mk (hbox); have n2_ := Aside0.mk ((by rw [hg]; exact bsz : w.heap.size ≤ gb193)); have n3_ := Aside0.mk ((by rw [hg]; exact bsz : w.heap.size ≤ gb193)); clear HB; have HB := n0_; have BK193 := n1_; have GW193 := n2_; have GE193 := n3_; clear n0_ n1_ n2_ n3_; clear hb hbox hg))
                        have n0_ := Aside0.mk (blk_drew BK193.out)
                        have n1_ := Aside0.mk (below_drew1 HB.out)
                        clear BK193
                        clear HB
                        have BK193 := n0_
                        have HB := n1_
                        clear n0_ n1_
                        refine start_ (n := 18) (S := fun w' => True) (ds := []) #[false, false, false, false, false, false, false, false, false, false, false, false, false, false, false, false, false, false] (by kernel_rfl) rfl rfl trivial (fun hHeld => ?_); refine with_tabW roadbookref08_Get.tab3 roadbookref08_Get.bits3 (fun HT_ HW_ => ?_)
                        generalize w17.drew = w18 at BK193 HB hHeld ⊢
                        refine pure_ (i := 0) (N := some 8) (v := ?_) (a' := ?_) #[true, false, false, false, false, false, false, false, false, false, false, false, false, false, false, false, false, false] rfl rfl (any_of HT_.out (by kernel_rfl)) (fun _ _ _ h => h) (Or.inl ⟨by rfl, ?_⟩) ?_ ?_
                        rotate_left
                        · intro w'
                          go_simp
                          with_reducible rfl
                        rotate_left
                        · simp only [Act.put, List.setIfInBounds_toArray, List.set_cons_zero, List.set_cons_succ, i64_w, i32_w]
                          rfl
                        refine pure_ (i := 1) (N := some 9) (v := ?_) (a' := ?_) #[true, true, false, false, false, false, false, false, false, false, false, false, false, false, false, false, false, false] rfl rfl (any_of HT_.out (by kernel_rfl)) (fun _ _ _ h => h) (Or.inl ⟨by rfl, ?_⟩) ?_ ?_
                        rotate_left
                        · intro w'
                          go_simp
                          with_reducible rfl
                        rotate_left
                        · simp only [Act.put, List.setIfInBounds_toArray, List.set_cons_zero, List.set_cons_succ, i64_w, i32_w]
                          rfl
                        refine pure_ (i := 3) (N := some 11) (v := ?_) (a' := ?_) #[true, true, false, true, false, false, false, false, false, false, false, false, false, false, false, false, false, false] rfl rfl (any_of HT_.out (by kernel_rfl)) (fun _ _ _ h => h) (Or.inl ⟨by rfl, ?_⟩) ?_ ?_
                        rotate_left
                        · intro w'
                          go_simp
                          with_reducible rfl
                        rotate_left
                        · simp only [Act.put, List.setIfInBounds_toArray, List.set_cons_zero, List.set_cons_succ, i64_w, i32_w]
                          rfl
                        refine pure_ (i := 4) (N := some 12) (v := ?_) (a' := ?_) #[true, true, false, true, true, false, false, false, false, false, false, false, false, false, false, false, false, false] rfl rfl (any_of HT_.out (by kernel_rfl)) (fun _ _ _ h => h) (Or.inl ⟨by rfl, ?_⟩) ?_ ?_
                        rotate_left
                        · intro w'
                          go_simp
                          with_reducible rfl
                        rotate_left
                        · simp only [Act.put, List.setIfInBounds_toArray, List.set_cons_zero, List.set_cons_succ, i64_w, i32_w]
                          rfl
                        refine pure_ (i := 6) (N := some 14) (v := ?_) (a' := ?_) #[true, true, false, true, true, false, true, false, false, false, false, false, false, false, false, false, false, false] rfl rfl (any_of HT_.out (by kernel_rfl)) (fun _ _ _ h => h) (Or.inl ⟨by rfl, ?_⟩) ?_ ?_
                        rotate_left
                        · intro w'
                          go_simp
                          with_reducible rfl
                        rotate_left
                        · simp only [Act.put, List.setIfInBounds_toArray, List.set_cons_zero, List.set_cons_succ, i64_w, i32_w]
                          rfl
                        refine pure_ (i := 7) (N := some 15) (v := ?_) (a' := ?_) #[true, true, false, true, true, false, true, true, false, false, false, false, false, false, false, false, false, false] rfl rfl (any_of HT_.out (by kernel_rfl)) (fun _ _ _ h => h) (Or.inl ⟨by rfl, ?_⟩) ?_ ?_
                        rotate_left
                        · intro w'
                          go_simp
                          with_reducible rfl
                        rotate_left
                        · simp only [Act.put, List.setIfInBounds_toArray, List.set_cons_zero, List.set_cons_succ, i64_w, i32_w]
                          rfl
                        refine pure_ (i := 8) (N := some 16) (v := ?_) (a' := ?_) #[true, true, false, true, true, false, true, true, true, false, false, false, false, false, false, false, false, false] rfl rfl (any_of HT_.out (by kernel_rfl)) (fun _ _ _ h => h) (Or.inl ⟨by rfl, ?_⟩) ?_ ?_
                        rotate_left
                        · intro w'
                          go_simp
                          with_reducible rfl
                        rotate_left
                        · simp only [Act.put, List.setIfInBounds_toArray, List.set_cons_zero, List.set_cons_succ, i64_w, i32_w]
                          rfl
                        refine pure_ (i := 9) (N := some 17) (v := ?_) (a' := ?_) #[true, true, false, true, true, false, true, true, true, true, false, false, false, false, false, false, false, false] rfl rfl (any_of HT_.out (by kernel_rfl)) (fun _ _ _ h => h) (Or.inl ⟨by rfl, ?_⟩) ?_ ?_
                        rotate_left
                        · intro w'
                          go_simp
                          with_reducible rfl
                        rotate_left
                        · simp only [Act.put, List.setIfInBounds_toArray, List.set_cons_zero, List.set_cons_succ, i64_w, i32_w]
                          rfl
                        refine pure_ (i := 10) (N := some 18) (v := ?_) (a' := ?_) #[true, true, false, true, true, false, true, true, true, true, true, false, false, false, false, false, false, false] rfl rfl (any_of HT_.out (by kernel_rfl)) (fun _ _ _ h => h) (Or.inl ⟨by rfl, ?_⟩) ?_ ?_
                        rotate_left
                        · intro w'
                          go_simp
                          with_reducible rfl
                        rotate_left
                        · simp only [Act.put, List.setIfInBounds_toArray, List.set_cons_zero, List.set_cons_succ, i64_w, i32_w]
                          rfl
                        refine pure_ (i := 11) (N := some 19) (v := ?_) (a' := ?_) #[true, true, false, true, true, false, true, true, true, true, true, true, false, false, false, false, false, false] rfl rfl (any_of HT_.out (by kernel_rfl)) (fun _ _ _ h => h) (Or.inl ⟨by rfl, ?_⟩) ?_ ?_
                        rotate_left
                        · intro w'
                          go_simp
                          with_reducible rfl
                        rotate_left
                        · simp only [Act.put, List.setIfInBounds_toArray, List.set_cons_zero, List.set_cons_succ, i64_w, i32_w]
                          rfl
                        refine pure_ (i := 12) (N := some 20) (v := ?_) (a' := ?_) #[true, true, false, true, true, false, true, true, true, true, true, true, true, false, false, false, false, false] rfl rfl (any_of HT_.out (by kernel_rfl)) (fun _ _ _ h => h) (Or.inl ⟨by rfl, ?_⟩) ?_ ?_
                        rotate_left
                        · intro w'
                          go_simp
                          with_reducible rfl
                        rotate_left
                        · simp only [Act.put, List.setIfInBounds_toArray, List.set_cons_zero, List.set_cons_succ, i64_w, i32_w]
                          rfl
                        refine pure_ (i := 13) (N := some 21) (v := ?_) (a' := ?_) #[true, true, false, true, true, false, true, true, true, true, true, true, true, true, false, false, false, false] rfl rfl (any_of HT_.out (by kernel_rfl)) (fun _ _ _ h => h) (Or.inl ⟨by rfl, ?_⟩) ?_ ?_
                        rotate_left
                        · intro w'
                          go_simp
                          with_reducible rfl
                        rotate_left
                        · simp only [Act.put, List.setIfInBounds_toArray, List.set_cons_zero, List.set_cons_succ, i64_w, i32_w]
                          rfl
                        refine one_ (i := 2) (N := some 10) #[true, true, true, true, true, false, true, true, true, true, true, true, true, true, false, false, false, false] rfl rfl (one_of HT_.out (by kernel_rfl)) (by decide) (fun K hK => ?_)
                        refine goes_ Try.func41 (by kernel_rfl) rfl #[.string (a0.extract 0 2)] (by rfl) rfl rfl gAr ?_
                        with_reducible refine (roadbookref08_Number.calls k (a0.extract 0 2) t194 _ A5.out).mono ?_
                        rintro e w' ⟨rfl, ⟨nd, rfl⟩⟩
                        refine ⟨_, rfl, ?_⟩
                        refine hK.out _ _ trivial (fun hHeld => ?_)
                        clear hK K
                        refine norm_ (a' := ?_) ?_ ?_
                        rotate_left
                        · show Act.put _ (some 10) _ = _
                          simp only [Act.put, List.setIfInBounds_toArray, List.set_cons_zero, List.set_cons_succ, i64_w, i32_w]
                          rfl
                        refine one_ (i := 5) (N := some 13) #[true, true, true, true, true, true, true, true, true, true, true, true, true, true, false, false, false, false] rfl rfl (one_of HT_.out (by kernel_rfl)) (by decide) (fun K hK => ?_)
                        refine goes_ Try.func41 (by kernel_rfl) rfl #[.string (a0.extract 2 4)] (by rfl) rfl rfl gAr ?_
                        with_reducible refine (roadbookref08_Number.calls k (a0.extract 2 4) t195 _ A8.out).mono ?_
                        rintro e w' ⟨rfl, ⟨nd, rfl⟩⟩
                        refine ⟨_, rfl, ?_⟩
                        refine hK.out _ _ trivial (fun hHeld => ?_)
                        clear hK K
                        refine norm_ (a' := ?_) ?_ ?_
                        rotate_left
                        · show Act.put _ (some 13) _ = _
                          simp only [Act.put, List.setIfInBounds_toArray, List.set_cons_zero, List.set_cons_succ, i64_w, i32_w]
                          rfl
                        refine one_ (i := 14) (N := some 22) #[true, true, true, true, true, true, true, true, true, true, true, true, true, true, true, false, false, false] rfl rfl (one_of HT_.out (by kernel_rfl)) (by decide) (fun K hK => ?_)
                        refine goes_ Try.func41 (by kernel_rfl) rfl #[.string (a0.extract 16 a0.size)] (by rfl) rfl rfl gAr ?_
                        with_reducible refine (roadbookref08_Number.calls k (a0.extract 16 a0.size) t196 _ A16.out).mono ?_
                        rintro e w' ⟨rfl, ⟨nd, rfl⟩⟩
                        refine ⟨_, rfl, ?_⟩
                        refine hK.out _ _ trivial (fun hHeld => ?_)
                        clear hK K
                        refine norm_ (a' := ?_) ?_ ?_
                        rotate_left
                        · show Act.put _ (some 22) _ = _
                          simp only [Act.put, List.setIfInBounds_toArray, List.set_cons_zero, List.set_cons_succ, i64_w, i32_w]
                          rfl
                        refine pure_ (i := 15) (N := some 23) (v := ?_) (a' := ?_) #[true, true, true, true, true, true, true, true, true, true, true, true, true, true, true, true, false, false] rfl rfl (any_of HT_.out (by kernel_rfl)) (fun _ _ _ h => h) (Or.inl ⟨by rfl, ?_⟩) ?_ ?_
                        rotate_left
                        · intro w'
                          go_simp
                          with_reducible rfl
                        rotate_left
                        · simp only [Act.put, List.setIfInBounds_toArray, List.set_cons_zero, List.set_cons_succ, i64_w, i32_w]
                          rfl
                        refine one_ (i := 16) (N := none) #[true, true, true, true, true, true, true, true, true, true, true, true, true, true, true, true, true, false] rfl rfl (one_of HT_.out (by kernel_rfl)) (by decide) (fun K hK => ?_)
                        have hs19 : w18.cell? ⟨gb193, 0, none⟩ = some (.int .i64 0) := (blk_cell BK193.out 0).trans rfl
                        have hfs19 := blk_frozen BK193.out 0
                        have hs20 : w18.cell? ⟨gb193, 1, none⟩ = some (.int .i64 0) := (blk_cell BK193.out 1).trans rfl
                        have hfs20 := blk_frozen BK193.out 1
                        have hs21 : w18.cell? ⟨gb193, 2, none⟩ = some (.string (⟨#[]⟩ : ByteArray)) := (blk_cell BK193.out 2).trans rfl
                        have hfs21 := blk_frozen BK193.out 2
                        have hs22 : w18.cell? ⟨gb193, 3, none⟩ = some (.string (⟨#[]⟩ : ByteArray)) := (blk_cell BK193.out 3).trans rfl
                        have hfs22 := blk_frozen BK193.out 3
                        have hs23 : w18.cell? ⟨gb193, 4, none⟩ = some (.string (⟨#[]⟩ : ByteArray)) := (blk_cell BK193.out 4).trans rfl
                        have hfs23 := blk_frozen BK193.out 4
                        have hs24 : w18.cell? ⟨gb193, 5, none⟩ = some (.int .i64 0) := (blk_cell BK193.out 5).trans rfl
                        have hfs24 := blk_frozen BK193.out 5
                        refine skip_ (w1 := ?_) (by rfl) rfl ?_ ?_
                        rotate_left
                        · go_simp
                          rfl
                        refine hK.out _ _ trivial (fun hHeld => ?_)
                        clear hK K
                        refine pure_ (i := 17) (N := some 3) (v := ?_) (a' := ?_) #[true, true, true, true, true, true, true, true, true, true, true, true, true, true, true, true, true, true] rfl rfl (any_of HT_.out (by kernel_rfl)) (fun _ _ _ h => h) (Or.inl ⟨by rfl, ?_⟩) ?_ ?_
                        rotate_left
                        · intro w'
                          go_simp
                          with_reducible rfl
                        rotate_left
                        · simp only [Act.put, List.setIfInBounds_toArray, List.set_cons_zero, List.set_cons_succ, i64_w, i32_w]
                          rfl
                        refine done_ (done_of HT_.out (by kernel_rfl)) ?_
                        try go_wp2
                        refine bodyPost_ret (results_ct rfl _ _ gb193 23 #[.int .i64 t194, .int .i64 t195, .string (a0.extract 4 8), .string (a0.extract 8 12), .string (a0.extract 12 16), .int .i64 t196] (0, 0) _ rfl (blk) Try.underlying23 rfl (by kernel_rfl)) rfl ?_
                        exact ⟨rtE, bel⟩
                      · rw [if_neg c14] at H
                        exact absurd H (by simp)
                    · rw [if_neg c13] at H
                      exact absurd H (by simp)
                  · rw [if_neg c12] at H
                    exact absurd H (by simp)
                · rw [if_neg c11] at H
                  exact absurd H (by simp)
              · rw [if_neg c10] at H
                exact absurd H (by simp)
            · rw [if_neg c9] at H
              exact absurd H (by simp)
          · rw [if_neg c7] at H
            exact absurd H (by simp)
        · rw [if_neg c6] at H
          exact absurd H (by simp)
      · rw [if_neg c4] at H
        exact absurd H (by simp)
    · rw [if_neg c3] at H
      exact absurd H (by simp)
  · rw [if_neg c2] at H
    have c2b0 : ((a0.size : Int) == 20) = false := beq_eq_false_iff_ne.mpr c2
    have c2b1 : ((a0.size : Int) != 20) = true := bne_iff_ne.mpr c2
    simp only [Option.some.injEq, Prod.mk.injEq] at H
    obtain ⟨rfl, rfl, rfl, rfl, rfl, rfl, rfl⟩ := H
    go_enter Try.func14, Try.ntmps14
    go_wp2_with (first | ((with_reducible refine gate_dst (N := 2) rfl ?_); refine box_event ?hg (N := 2) ?hd (cs := #[.int .i64 0, .int .i64 0, .string (⟨#[]⟩ : ByteArray), .string (⟨#[]⟩ : ByteArray), .string (⟨#[]⟩ : ByteArray), .int .i64 0]) (t := 23) ?hr ?_; (case hd => rfl); (case hg => rfl); (case hr => first | (go_simp; done) | (go_simp; rfl)); intro gb193 hg w25 hbox hb; have n0_ := Aside0.mk (below_step (bel) hb); have n1_ := Aside0.mk (hbox); have n2_ := Aside0.mk ((by rw [hg]; exact bsz : w.heap.size ≤ gb193)); have n3_ := Aside0.mk ((by rw [hg]; exact bsz : w.heap.size ≤ gb193)); clear HB; have HB := n0_; have BK193 := n1_; have GW193 := n2_; have GE193 := n3_; clear n0_ n1_ n2_ n3_; clear hb hbox hg; have hcz26_0 := cl0 BK193.out; have hfz26_0 := blk_frozen BK193.out 0; have hcz27_1 := cl1 BK193.out; have hfz27_1 := blk_frozen BK193.out 1; have hcz28_2 := cl2 BK193.out; have hfz28_2 := blk_frozen BK193.out 2; have hcz29_3 := cl3 BK193.out; have hfz29_3 := blk_frozen BK193.out 3; have hcz30_4 := cl4 BK193.out; have hfz30_4 := blk_frozen BK193.out 4; have hcz31_5 := cl5 BK193.out; have hfz31_5 := blk_frozen BK193.out 5))
    refine bodyPost_ret (results_ct rfl _ _ gb193 23 #[.int .i64 0, .int .i64 0, .string (⟨#[]⟩ : ByteArray), .string (⟨#[]⟩ : ByteArray), .string (⟨#[]⟩ : ByteArray), .int .i64 0] (0, 0) _ rfl (blk) Try.underlying23 rfl (by kernel_rfl)) rfl ?_
    exact ⟨rtE, bel⟩

end Go.Proofs.Ytjgnpggpgkkknaa.Pr
