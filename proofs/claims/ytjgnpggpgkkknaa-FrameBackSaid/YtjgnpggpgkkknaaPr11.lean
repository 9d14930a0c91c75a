-- Written by wip/tools/xprint.py of this repo over the kit's printer, out of the translation. Lean checks it.
import Derived.Test.YtjgnpggpgkkknaaPr0
import Derived.Test.YtjgnpggpgkkknaaPr7
import Derived.Test.YtjgnpggpgkkknaaPr8
namespace Go.Proofs.Ytjgnpggpgkkknaa.Pr
open Go.RowKit Go.Proofs.YtjgnpggpgkkknaaW.PrintWords Go.Proofs.YtjgnpggpgkkknaaW.PrintLast Go.Proofs.YtjgnpggpgkkknaaW.PrintMore
attribute [local go_sem] max2_int min2_int max_two min_two max_three min_three max_four min_four   -- for this text's walks alone
set_option linter.unusedVariables false
set_option linter.unusedSimpArgs false

/-! ### frame_next: function 46 -/
def frame_next.f (k : Nat) (a0_0 : ByteArray) (a0_1 : Int) (a0_2 : Int) (a0_3 : Bool) : Option (Int × Int × ByteArray × ByteArray × Int × Int × Bool) := (cursor_Num.f k a0_0 a0_1 a0_2 a0_3 1).bind fun bt259 => (if bt259.1 = 0 then (some (bt259.1, a0_1, (⟨#[]⟩ : ByteArray), bt259.2.1, bt259.2.2.1, bt259.2.2.2.1, bt259.2.2.2.2)) else ((cursor_Num.f k bt259.2.1 bt259.2.2.1 bt259.2.2.2.1 bt259.2.2.2.2 1).bind fun bt264 => ((cursor_Text.f bt264.2.1 bt264.2.2.1 bt264.2.2.2.1 bt264.2.2.2.2 bt264.1).bind fun bt269 => (some (bt259.1, a0_1, bt269.1, bt269.2.1, bt269.2.2.1, bt269.2.2.2.1, bt269.2.2.2.2)))))
theorem frame_next.mono : ∀ a0 a1 a2 a3 k, LeO (frame_next.f k a0 a1 a2 a3) (frame_next.f (k + 1) a0 a1 a2 a3) := by
  intro a0 a1 a2 a3 k
  unfold frame_next.f
  repeat' first
      | (with_reducible exact cursor_Num.mono _ _ _ _ _ _)
      | (with_reducible exact LeO.refl _)
      | (with_reducible exact LeO.none _)
      | (with_reducible refine LeO.ite ?_ ?_)
      | (with_reducible refine LeO.bind ?_ (fun _ => ?_))
      | exact cursor_Num.mono _ _ _ _ _ _
      | exact LeO.none _
      | refine LeO.ite ?_ ?_
      | refine LeO.bind ?_ (fun _ => ?_)
set_option maxHeartbeats 8000000 in
set_option maxRecDepth 100000 in
theorem frame_next.calls (k : Nat) (a0_0 : ByteArray) (a0_1 : Int) (a0_2 : Int) (a0_3 : Bool) (r1 : Int) (r2 : Int) (r3 : ByteArray) (r4 : ByteArray) (r5 : Int) (r6 : Int) (r7 : Bool) (w : World) (h : frame_next.f k a0_0 a0_1 a0_2 a0_3 = some (r1, r2, r3, r4, r5, r6, r7)) :
    Calls Try.prog 46 #[.agg #[.string a0_0, .int .i64 a0_1, .int .i64 a0_2, .bool a0_3]] w fun e w' => e = .returned (.tuple #[.agg #[.int .i64 r1, .int .i64 r2, .string r3], .agg #[.string r4, .int .i64 r5, .int .i64 r6, .bool r7]]) ∧ Below w.heap.size w w' := by
  have hu60 := Try.underlying60
  have hu47 := Try.underlying47
  have HB := Aside0.mk (Below.refl w.heap.size w)
  have H : ((cursor_Num.f k a0_0 a0_1 a0_2 a0_3 1).bind fun bt259 => (if bt259.1 = 0 then (some (bt259.1, a0_1, (⟨#[]⟩ : ByteArray), bt259.2.1, bt259.2.2.1, bt259.2.2.2.1, bt259.2.2.2.2)) else ((cursor_Num.f k bt259.2.1 bt259.2.2.1 bt259.2.2.2.1 bt259.2.2.2.2 1).bind fun bt264 => ((cursor_Text.f bt264.2.1 bt264.2.2.1 bt264.2.2.2.1 bt264.2.2.2.2 bt264.1).bind fun bt269 => (some (bt259.1, a0_1, bt269.1, bt269.2.1, bt269.2.2.1, bt269.2.2.2.1, bt269.2.2.2.2)))))) = some (r1, r2, r3, r4, r5, r6, r7) := h
  clear h
  replace H := Option.bind_eq_some_iff.mp H
  obtain ⟨⟨t259, t260, t261, t262, t263⟩, A20, H⟩ := H
  replace H : (if t259 = 0 then (some (t259, a0_1, (⟨#[]⟩ : ByteArray), t260, t261, t262, t263)) else ((cursor_Num.f k t260 t261 t262 t263 1).bind fun bt264 => ((cursor_Text.f bt264.2.1 bt264.2.2.1 bt264.2.2.2.1 bt264.2.2.2.2 bt264.1).bind fun bt269 => (some (t259, a0_1, bt269.1, bt269.2.1, bt269.2.2.1, bt269.2.2.2.1, bt269.2.2.2.2))))) = some (r1, r2, r3, r4, r5, r6, r7) := H
  have A2 := Aside0.mk A20
  clear A20
  by_cases c3 : t259 = 0
  · rw [if_pos c3] at H
    have c3b0 : (t259 == 0) = true := beq_iff_eq.mpr c3
    have c3b1 : (t259 != 0) = false := bne_eq_false_iff_eq.mpr c3
    clear c3
    simp only [Option.some.injEq, Prod.mk.injEq] at H
    obtain ⟨rfl, rfl, rfl, rfl, rfl, rfl, rfl⟩ := H
    go_enter Try.func46, Try.ntmps46
    try go_wp2_with (first | ((with_reducible refine gate_dst (N := 1) rfl ?_); refine box_event ?hg (N := 1) ?hd (cs := #[.string a0_0, .int .i64 a0_1, .int .i64 a0_2, .bool a0_3]) (t := 60) ?hr ?_; (case hd => rfl); (case hg => rfl); (case hr => first | (go_simp; done) | (go_simp; rfl)); intro gb255 hg w4 hbox hb; have n0_ := Aside0.mk (below_step (bel) hb); have n1_ := Aside0.mk (hbox); have n2_ := Aside0.mk ((by rw [hg]; exact bsz : w.heap.size ≤ gb255)); have n3_ := Aside0.mk ((by rw [hg]; exact bsz : w.heap.size ≤ gb255)); clear HB; have HB := n0_; have BK255 := n1_; have GW255 := n2_; have GE255 := n3_; clear n0_ n1_ n2_ n3_; clear hb hbox hg) | ((with_reducible refine gate_dst (N := 2) rfl ?_); refine box_event ?hg (N := 2) ?hd (cs := #[.int .i64 0, .int .i64 0, .string (⟨#[]⟩ : ByteArray)]) (t := 47) ?hr ?_; (case hd => rfl); (case hg => rfl); (case hr => first | (go_simp; done) | (go_simp; rfl)); intro gb256 hg w5 hbox hb; have n0_ := Aside0.mk (blk_below (blk_below BK255.out bll) hb); have n1_ := Aside0.mk (below_step (bel) hb); have n2_ := Aside0.mk (hbox); have n3_ := Aside0.mk ((by rw [hg]; exact bsz : w.heap.size ≤ gb256)); have n4_ := Aside0.mk ((by rw [hg]; exact bsz : w.heap.size ≤ gb256)); have n5_ := Aside0.mk ((by rw [hg]; exact Nat.ne_of_lt (blk_lt (blk_below BK255.out bll)) : gb255 ≠ gb256)); have n6_ := Aside0.mk ((by rw [hg]; exact Nat.ne_of_gt (blk_lt (blk_below BK255.out bll)) : gb256 ≠ gb255)); clear BK255; clear HB; have BK255 := n0_; have HB := n1_; have BK256 := n2_; have GW256 := n3_; have GE256 := n4_; have NB255_256 := n5_; have NB256_255 := n6_; clear n0_ n1_ n2_ n3_ n4_ n5_ n6_; clear hb hbox hg) | ((with_reducible refine gate_dst (N := 3) rfl ?_); refine box_event ?hg (N := 3) ?hd (cs := #[.string (⟨#[]⟩ : ByteArray), .int .i64 0, .int .i64 0, .bool false]) (t := 60) ?hr ?_; (case hd => rfl); (case hg => rfl); (case hr => first | (go_simp; done) | (go_simp; rfl)); intro gb257 hg w6 hbox hb; have n0_ := Aside0.mk (blk_below (blk_below BK255.out bll) hb); have n1_ := Aside0.mk (blk_below (blk_below BK256.out bll) hb); have n2_ := Aside0.mk (below_step (bel) hb); have n3_ := Aside0.mk (hbox); have n4_ := Aside0.mk ((by rw [hg]; exact bsz : w.heap.size ≤ gb257)); have n5_ := Aside0.mk ((by rw [hg]; exact bsz : w.heap.size ≤ gb257)); have n6_ := Aside0.mk ((by rw [hg]; exact Nat.ne_of_lt (blk_lt (blk_below BK255.out bll)) : gb255 ≠ gb257)); have n7_ := Aside0.mk ((by rw [hg]; exact Nat.ne_of_gt (blk_lt (blk_below BK255.out bll)) : gb257 ≠ gb255)); have n8_ := Aside0.mk ((by rw [hg]; exact Nat.ne_of_lt (blk_lt (blk_below BK256.out bll)) : gb256 ≠ gb257)); have n9_ := Aside0.mk ((by rw [hg]; exact Nat.ne_of_gt (blk_lt (blk_below BK256.out bll)) : gb257 ≠ gb256)); clear BK255; clear BK256; clear HB; have BK255 := n0_; have BK256 := n1_; have HB := n2_; have BK257 := n3_; have GW257 := n4_; have GE257 := n5_; have NB255_257 := n6_; have NB257_255 := n7_; have NB256_257 := n8_; have NB257_256 := n9_; clear n0_ n1_ n2_ n3_ n4_ n5_ n6_ n7_ n8_ n9_; clear hb hbox hg; have hnb7 := NB255_256.out; have hnc7 := NB256_255.out; have hnb8 := NB255_257.out; have hnc8 := NB257_255.out; have hcz9_1 := cl1 BK255.out; have hfz9_1 := blk_frozen BK255.out 1) | ((with_reducible refine gate_dst (N := 4) rfl ?_); refine box_event ?hg (N := 4) ?hd (cs := #[.int .i64 0, .int .i64 0, .string (⟨#[]⟩ : ByteArray)]) (t := 47) ?hr ?_; (case hd => rfl); (case hg => rfl); (case hr => first | (go_simp; done) | (go_simp; rfl)); intro gb258 hg w10 hbox hb; have n0_ := Aside0.mk (blk_below (blk_below BK255.out bll) hb); have n1_ := Aside0.mk (blk_below (blk_below BK256.out bll) hb); have n2_ := Aside0.mk (blk_below (blk_below BK257.out bll) hb); have n3_ := Aside0.mk (below_step (bel) hb); have n4_ := Aside0.mk (hbox); have n5_ := Aside0.mk ((by rw [hg]; exact bsz : w.heap.size ≤ gb258)); have n6_ := Aside0.mk ((by rw [hg]; exact bsz : w.heap.size ≤ gb258)); have n7_ := Aside0.mk ((by rw [hg]; exact Nat.ne_of_lt (blk_lt (blk_below BK255.out bll)) : gb255 ≠ gb258)); have n8_ := Aside0.mk ((by rw [hg]; exact Nat.ne_of_gt (blk_lt (blk_below BK255.out bll)) : gb258 ≠ gb255)); have n9_ := Aside0.mk ((by rw [hg]; exact Nat.ne_of_lt (blk_lt (blk_below BK256.out bll)) : gb256 ≠ gb258)); have n10_ := Aside0.mk ((by rw [hg]; exact Nat.ne_of_gt (blk_lt (blk_below BK256.out bll)) : gb258 ≠ gb256)); have n11_ := Aside0.mk ((by rw [hg]; exact Nat.ne_of_lt (blk_lt (blk_below BK257.out bll)) : gb257 ≠ gb258)); have n12_ := Aside0.mk ((by rw [hg]; exact Nat.ne_of_gt (blk_lt (blk_below BK257.out bll)) : gb258 ≠ gb257)); clear BK255; clear BK256; clear BK257; clear HB; have BK255 := n0_; have BK256 := n1_; have BK257 := n2_; have HB := n3_; have BK258 := n4_; have GW258 := n5_; have GE258 := n6_; have NB255_258 := n7_; have NB258_255 := n8_; have NB256_258 := n9_; have NB258_256 := n10_; have NB257_258 := n11_; have NB258_257 := n12_; clear n0_ n1_ n2_ n3_ n4_ n5_ n6_ n7_ n8_ n9_ n10_ n11_ n12_; clear hb hbox hg; have hnb11 := NB258_255.out; have hnc11 := NB255_258.out; have hnb12 := NB258_256.out; have hnc12 := NB256_258.out; have hnb13 := NB258_257.out; have hnc13 := NB257_258.out; have hcz14_0 := cl0 BK258.out; have hfz14_0 := blk_frozen BK258.out 0; have hcz15_1 := cl1 BK258.out; have hfz15_1 := blk_frozen BK258.out 1; have hcz16_2 := cl2 BK258.out; have hfz16_2 := blk_frozen BK258.out 2; have hcz17_0 := cl0 BK255.out; have hcz17_1 := cl1 BK255.out; have hcz17_2 := cl2 BK255.out; have hcz17_3 := cl3 BK255.out; have hfz17_0 := blk_frozen BK255.out 0; have hfz17_1 := blk_frozen BK255.out 1; have hfz17_2 := blk_frozen BK255.out 2; have hfz17_3 := blk_frozen BK255.out 3) | ((with_reducible refine gate_callee (f := 55) rfl ?_); refine goesL_ (some 11) rfl rfl Try.func55 (by kernel_rfl) rfl #[.agg #[.string a0_0, .int .i64 a0_1, .int .i64 a0_2, .bool a0_3], .int .i64 1] rfl gAr ?_; (with_reducible refine (cursor_Num.calls k a0_0 a0_1 a0_2 a0_3 1 t259 t260 t261 t262 t263 _ A2.out).mono ?_); rintro e w18 ⟨rfl, hb⟩; refine ⟨_, rfl, ?_⟩; have n0_ := Aside0.mk (blk_below (g := gb255) blk hb); have n1_ := Aside0.mk (blk_below (g := gb256) blk hb); have n2_ := Aside0.mk (blk_below (g := gb257) blk hb); have n3_ := Aside0.mk (blk_below (g := gb258) (o := .cells #[.int .i64 0, .int .i64 a0_1, .string (⟨#[]⟩ : ByteArray)] 47 (0, 0)) (blk) hb); have n4_ := Aside0.mk (below_step (bel) hb); clear BK255; clear BK256; clear BK257; clear BK258; clear HB; have BK255 := n0_; have BK256 := n1_; have BK257 := n2_; have BK258 := n3_; have HB := n4_; clear n0_ n1_ n2_ n3_ n4_; (try clear hb); have hcz19_0 := cl0 BK258.out; have hfz19_0 := blk_frozen BK258.out 0; have hcz20_0 := cl0 BK255.out; have hfz20_0 := blk_frozen BK255.out 0; have hcz21_1 := cl1 BK255.out; have hfz21_1 := blk_frozen BK255.out 1; have hcz22_2 := cl2 BK255.out; have hfz22_2 := blk_frozen BK255.out 2; have hcz23_3 := cl3 BK255.out; have hfz23_3 := blk_frozen BK255.out 3))
    have n0_ : Aside0 ((((((w18.setCell ⟨gb258, 0, none⟩ (.int .i64 t259)).setCell ⟨gb255, 0, none⟩ (.string t260)).setCell ⟨gb255, 1, none⟩ (.int .i64 t261)).setCell ⟨gb255, 2, none⟩ (.int .i64 t262)).setCell ⟨gb255, 3, none⟩ (.bool t263)).heap[gb255]? = some (.cells #[.string t260, .int .i64 t261, .int .i64 t262, .bool t263] 60 (0, 0))) := ⟨blk⟩
    have n1_ : Aside0 ((((((w18.setCell ⟨gb258, 0, none⟩ (.int .i64 t259)).setCell ⟨gb255, 0, none⟩ (.string t260)).setCell ⟨gb255, 1, none⟩ (.int .i64 t261)).setCell ⟨gb255, 2, none⟩ (.int .i64 t262)).setCell ⟨gb255, 3, none⟩ (.bool t263)).heap[gb256]? = some (.cells #[.int .i64 0, .int .i64 0, .string (⟨#[]⟩ : ByteArray)] 47 (0, 0))) := ⟨blk⟩
    have n2_ : Aside0 ((((((w18.setCell ⟨gb258, 0, none⟩ (.int .i64 t259)).setCell ⟨gb255, 0, none⟩ (.string t260)).setCell ⟨gb255, 1, none⟩ (.int .i64 t261)).setCell ⟨gb255, 2, none⟩ (.int .i64 t262)).setCell ⟨gb255, 3, none⟩ (.bool t263)).heap[gb257]? = some (.cells #[.string (⟨#[]⟩ : ByteArray), .int .i64 0, .int .i64 0, .bool false] 60 (0, 0))) := ⟨blk⟩
    have n3_ : Aside0 ((((((w18.setCell ⟨gb258, 0, none⟩ (.int .i64 t259)).setCell ⟨gb255, 0, none⟩ (.string t260)).setCell ⟨gb255, 1, none⟩ (.int .i64 t261)).setCell ⟨gb255, 2, none⟩ (.int .i64 t262)).setCell ⟨gb255, 3, none⟩ (.bool t263)).heap[gb258]? = some (.cells #[.int .i64 t259, .int .i64 a0_1, .string (⟨#[]⟩ : ByteArray)] 47 (0, 0))) := ⟨blk⟩
    have n4_ : Aside0 (Below w.heap.size w (((((w18.setCell ⟨gb258, 0, none⟩ (.int .i64 t259)).setCell ⟨gb255, 0, none⟩ (.string t260)).setCell ⟨gb255, 1, none⟩ (.int .i64 t261)).setCell ⟨gb255, 2, none⟩ (.int .i64 t262)).setCell ⟨gb255, 3, none⟩ (.bool t263))) := ⟨bel⟩
    (try clear BK255)
    (try clear BK256)
    (try clear BK257)
    (try clear BK258)
    (try clear HB)
    generalize (((((w18.setCell ⟨gb258, 0, none⟩ (.int .i64 t259)).setCell ⟨gb255, 0, none⟩ (.string t260)).setCell ⟨gb255, 1, none⟩ (.int .i64 t261)).setCell ⟨gb255, 2, none⟩ (.int .i64 t262)).setCell ⟨gb255, 3, none⟩ (.bool t263)) = w24 at n0_ n1_ n2_ n3_ n4_ ⊢
    have BK255 := n0_
    have BK256 := n1_
    have BK257 := n2_
    have BK258 := n3_
    have HB := n4_
    clear n0_ n1_ n2_ n3_ n4_
    have n0_ := Aside0.mk (blk_drew BK255.out)
    have n1_ := Aside0.mk (blk_drew BK256.out)
    have n2_ := Aside0.mk (blk_drew BK257.out)
    have n3_ := Aside0.mk (blk_drew BK258.out)
    have n4_ := Aside0.mk (below_drew1 HB.out)
    clear BK255
    clear BK256
    clear BK257
    clear BK258
    clear HB
    have BK255 := n0_
    have BK256 := n1_
    have BK257 := n2_
    have BK258 := n3_
    have HB := n4_
    clear n0_ n1_ n2_ n3_ n4_
    refine start_ (n := 4) (S := fun w' => w'.cell? ⟨gb258, 0, none⟩ = some (.int .i64 t259) ∧ w'.cell? ⟨gb258, 1, none⟩ = some (.int .i64 a0_1) ∧ w'.cell? ⟨gb258, 2, none⟩ = some (.string (⟨#[]⟩ : ByteArray)) ∧ w'.cell? ⟨gb255, 0, none⟩ = some (.string t260) ∧ w'.cell? ⟨gb255, 1, none⟩ = some (.int .i64 t261) ∧ w'.cell? ⟨gb255, 2, none⟩ = some (.int .i64 t262) ∧ w'.cell? ⟨gb255, 3, none⟩ = some (.bool t263)) (ds := []) #[false, false, false, false] (by kernel_rfl) rfl rfl ⟨(blk_cell BK258.out 0).trans rfl, (blk_cell BK258.out 1).trans rfl, (blk_cell BK258.out 2).trans rfl, (blk_cell BK255.out 0).trans rfl, (blk_cell BK255.out 1).trans rfl, (blk_cell BK255.out 2).trans rfl, (blk_cell BK255.out 3).trans rfl⟩ (fun hHeld => ?_)
    generalize w24.drew = w25 at BK255 BK256 BK257 BK258 HB hHeld ⊢
    refine take_ (i := 0) (N := some 18) (v := ?_) (a' := ?_) #[true, false, false, false] rfl rfl (by kernel_rfl) (fun _ _ _ h => h) (Or.inl ⟨by rfl, ?_⟩) hHeld ?_ ?_
    rotate_left
    · rintro w' ⟨s0, s1, s2, s3, s4, s5, s6⟩
      go_simp
      with_reducible rfl
    rotate_left
    · simp only [Act.put, List.setIfInBounds_toArray, List.set_cons_zero, List.set_cons_succ, i64_w, i32_w]
      rfl
    refine take_ (i := 1) (N := some 19) (v := ?_) (a' := ?_) #[true, true, false, false] rfl rfl (by kernel_rfl) (fun _ _ _ h => h) (Or.inl ⟨by rfl, ?_⟩) hHeld ?_ ?_
    rotate_left
    · rintro w' ⟨s0, s1, s2, s3, s4, s5, s6⟩
      go_simp
      with_reducible rfl
    rotate_left
    · simp only [Act.put, List.setIfInBounds_toArray, List.set_cons_zero, List.set_cons_succ, i64_w, i32_w]
      rfl
    refine one_ (i := 2) (N := none) #[true, true, true, false] rfl rfl (by kernel_rfl) (by decide) (fun K hK => ?_)
    have hs26 : w25.cell? ⟨gb256, 0, none⟩ = some (.int .i64 0) := (blk_cell BK256.out 0).trans rfl
    have hfs26 := blk_frozen BK256.out 0
    have hns26_0 := NB255_256.out
    have hns26_2 := NB257_256.out
    have hns26_3 := NB258_256.out
    have hms26_0 := NB256_255.out
    have hms26_2 := NB256_257.out
    have hms26_3 := NB256_258.out
    have hs27 : w25.cell? ⟨gb256, 1, none⟩ = some (.int .i64 0) := (blk_cell BK256.out 1).trans rfl
    have hfs27 := blk_frozen BK256.out 1
    have hns27_0 := NB255_256.out
    have hns27_2 := NB257_256.out
    have hns27_3 := NB258_256.out
    have hms27_0 := NB256_255.out
    have hms27_2 := NB256_257.out
    have hms27_3 := NB256_258.out
    have hs28 : w25.cell? ⟨gb256, 2, none⟩ = some (.string (⟨#[]⟩ : ByteArray)) := (blk_cell BK256.out 2).trans rfl
    have hfs28 := blk_frozen BK256.out 2
    have hns28_0 := NB255_256.out
    have hns28_2 := NB257_256.out
    have hns28_3 := NB258_256.out
    have hms28_0 := NB256_255.out
    have hms28_2 := NB256_257.out
    have hms28_3 := NB256_258.out
    refine skip_ (w1 := ?_) (by rfl) rfl ?_ ?_
    rotate_left
    · go_simp
      rfl
    refine hK.out _ _ ⟨((cell_far (p := ⟨gb256, _, none⟩) NB258_256.out _).trans (((cell_far (p := ⟨gb256, _, none⟩) NB258_256.out _).trans (((cell_far (p := ⟨gb256, _, none⟩) NB258_256.out _).trans (hHeld.1)))))), ((cell_far (p := ⟨gb256, _, none⟩) NB258_256.out _).trans (((cell_far (p := ⟨gb256, _, none⟩) NB258_256.out _).trans (((cell_far (p := ⟨gb256, _, none⟩) NB258_256.out _).trans (hHeld.2.1)))))), ((cell_far (p := ⟨gb256, _, none⟩) NB258_256.out _).trans (((cell_far (p := ⟨gb256, _, none⟩) NB258_256.out _).trans (((cell_far (p := ⟨gb256, _, none⟩) NB258_256.out _).trans (hHeld.2.2.1)))))), ((cell_far (p := ⟨gb256, _, none⟩) NB255_256.out _).trans (((cell_far (p := ⟨gb256, _, none⟩) NB255_256.out _).trans (((cell_far (p := ⟨gb256, _, none⟩) NB255_256.out _).trans (hHeld.2.2.2.1)))))), ((cell_far (p := ⟨gb256, _, none⟩) NB255_256.out _).trans (((cell_far (p := ⟨gb256, _, none⟩) NB255_256.out _).trans (((cell_far (p := ⟨gb256, _, none⟩) NB255_256.out _).trans (hHeld.2.2.2.2.1)))))), ((cell_far (p := ⟨gb256, _, none⟩) NB255_256.out _).trans (((cell_far (p := ⟨gb256, _, none⟩) NB255_256.out _).trans (((cell_far (p := ⟨gb256, _, none⟩) NB255_256.out _).trans (hHeld.2.2.2.2.2.1)))))), ((cell_far (p := ⟨gb256, _, none⟩) NB255_256.out _).trans (((cell_far (p := ⟨gb256, _, none⟩) NB255_256.out _).trans (((cell_far (p := ⟨gb256, _, none⟩) NB255_256.out _).trans (hHeld.2.2.2.2.2.2))))))⟩ (fun hHeld => ?_)
    clear hK K
    refine one_ (i := 3) (N := none) #[true, true, true, true] rfl rfl (by kernel_rfl) (by decide) (fun K hK => ?_)
    have hs29 : w25.cell? ⟨gb257, 0, none⟩ = some (.string (⟨#[]⟩ : ByteArray)) := (blk_cell BK257.out 0).trans rfl
    have hfs29 := blk_frozen BK257.out 0
    have hns29_0 := NB255_257.out
    have hns29_1 := NB256_257.out
    have hns29_3 := NB258_257.out
    have hms29_0 := NB257_255.out
    have hms29_1 := NB257_256.out
    have hms29_3 := NB257_258.out
    have hs30 : w25.cell? ⟨gb257, 1, none⟩ = some (.int .i64 0) := (blk_cell BK257.out 1).trans rfl
    have hfs30 := blk_frozen BK257.out 1
    have hns30_0 := NB255_257.out
    have hns30_1 := NB256_257.out
    have hns30_3 := NB258_257.out
    have hms30_0 := NB257_255.out
    have hms30_1 := NB257_256.out
    have hms30_3 := NB257_258.out
    have hs31 : w25.cell? ⟨gb257, 2, none⟩ = some (.int .i64 0) := (blk_cell BK257.out 2).trans rfl
    have hfs31 := blk_frozen BK257.out 2
    have hns31_0 := NB255_257.out
    have hns31_1 := NB256_257.out
    have hns31_3 := NB258_257.out
    have hms31_0 := NB257_255.out
    have hms31_1 := NB257_256.out
    have hms31_3 := NB257_258.out
    have hs32 : w25.cell? ⟨gb257, 3, none⟩ = some (.bool false) := (blk_cell BK257.out 3).trans rfl
    have hfs32 := blk_frozen BK257.out 3
    have hns32_0 := NB255_257.out
    have hns32_1 := NB256_257.out
    have hns32_3 := NB258_257.out
    have hms32_0 := NB257_255.out
    have hms32_1 := NB257_256.out
    have hms32_3 := NB257_258.out
    refine skip_ (w1 := ?_) (by rfl) rfl ?_ ?_
    rotate_left
    · go_simp
      rfl
    refine hK.out _ _ ⟨((cell_far (p := ⟨gb257, _, none⟩) NB258_257.out _).trans (((cell_far (p := ⟨gb257, _, none⟩) NB258_257.out _).trans (((cell_far (p := ⟨gb257, _, none⟩) NB258_257.out _).trans (((cell_far (p := ⟨gb257, _, none⟩) NB258_257.out _).trans (hHeld.1)))))))), ((cell_far (p := ⟨gb257, _, none⟩) NB258_257.out _).trans (((cell_far (p := ⟨gb257, _, none⟩) NB258_257.out _).trans (((cell_far (p := ⟨gb257, _, none⟩) NB258_257.out _).trans (((cell_far (p := ⟨gb257, _, none⟩) NB258_257.out _).trans (hHeld.2.1)))))))), ((cell_far (p := ⟨gb257, _, none⟩) NB258_257.out _).trans (((cell_far (p := ⟨gb257, _, none⟩) NB258_257.out _).trans (((cell_far (p := ⟨gb257, _, none⟩) NB258_257.out _).trans (((cell_far (p := ⟨gb257, _, none⟩) NB258_257.out _).trans (hHeld.2.2.1)))))))), ((cell_far (p := ⟨gb257, _, none⟩) NB255_257.out _).trans (((cell_far (p := ⟨gb257, _, none⟩) NB255_257.out _).trans (((cell_far (p := ⟨gb257, _, none⟩) NB255_257.out _).trans (((cell_far (p := ⟨gb257, _, none⟩) NB255_257.out _).trans (hHeld.2.2.2.1)))))))), ((cell_far (p := ⟨gb257, _, none⟩) NB255_257.out _).trans (((cell_far (p := ⟨gb257, _, none⟩) NB255_257.out _).trans (((cell_far (p := ⟨gb257, _, none⟩) NB255_257.out _).trans (((cell_far (p := ⟨gb257, _, none⟩) NB255_257.out _).trans (hHeld.2.2.2.2.1)))))))), ((cell_far (p := ⟨gb257, _, none⟩) NB255_257.out _).trans (((cell_far (p := ⟨gb257, _, none⟩) NB255_257.out _).trans (((cell_far (p := ⟨gb257, _, none⟩) NB255_257.out _).trans (((cell_far (p := ⟨gb257, _, none⟩) NB255_257.out _).trans (hHeld.2.2.2.2.2.1)))))))), ((cell_far (p := ⟨gb257, _, none⟩) NB255_257.out _).trans (((cell_far (p := ⟨gb257, _, none⟩) NB255_257.out _).trans (((cell_far (p := ⟨gb257, _, none⟩) NB255_257.out _).trans (((cell_far (p := ⟨gb257, _, none⟩) NB255_257.out _).trans (hHeld.2.2.2.2.2.2))))))))⟩ (fun hHeld => ?_)
    clear hK K
    refine done_ (by kernel_rfl) ?_
    try go_wp2
    refine bodyPost_ret (results_cc rfl _ _ gb256 gb257 47 60 #[.int .i64 t259, .int .i64 a0_1, .string (⟨#[]⟩ : ByteArray)] #[.string t260, .int .i64 t261, .int .i64 t262, .bool t263] (0, 0) (0, 0) _ _ rfl (blk) Try.underlying47 rfl (by kernel_rfl) rfl (blk) Try.underlying60 rfl (by kernel_rfl)) rfl ?_
    exact ⟨rtE, bel⟩
  · rw [if_neg c3] at H
    have c3b0 : (t259 == 0) = false := beq_eq_false_iff_ne.mpr c3
    have c3b1 : (t259 != 0) = true := bne_iff_ne.mpr c3
    replace H := Option.bind_eq_some_iff.mp H
    obtain ⟨⟨t264, t265, t266, t267, t268⟩, A330, H⟩ := H
    replace H : ((cursor_Text.f t265 t266 t267 t268 t264).bind fun bt269 => (some (t259, a0_1, bt269.1, bt269.2.1, bt269.2.2.1, bt269.2.2.2.1, bt269.2.2.2.2))) = some (r1, r2, r3, r4, r5, r6, r7) := H
    have A33 := Aside0.mk A330
    clear A330
    replace H := Option.bind_eq_some_iff.mp H
    obtain ⟨⟨t269, t270, t271, t272, t273⟩, A340, H⟩ := H
    replace H : (some (t259, a0_1, t269, t270, t271, t272, t273)) = some (r1, r2, r3, r4, r5, r6, r7) := H
    have A34 := Aside0.mk A340
    clear A340
    simp only [Option.some.injEq, Prod.mk.injEq] at H
    obtain ⟨rfl, rfl, rfl, rfl, rfl, rfl, rfl⟩ := H
    go_enter Try.func46, Try.ntmps46
    try go_wp2_with (first | ((with_reducible refine gate_dst (N := 1) rfl ?_); refine box_event ?hg (N := 1) ?hd (cs := #[.string a0_0, .int .i64 a0_1, .int .i64 a0_2, .bool a0_3]) (t := 60) ?hr ?_; (case hd => rfl); (case hg => rfl); (case hr => first | (go_simp; done) | (go_simp; rfl)); intro gb255 hg w35 hbox hb; have n0_ := Aside0.mk (below_step (bel) hb); have n1_ := Aside0.mk (hbox); have n2_ := Aside0.mk ((by rw [hg]; exact bsz : w.heap.size ≤ gb255)); have n3_ := Aside0.mk ((by rw [hg]; exact bsz : w.heap.size ≤ gb255)); clear HB; have HB := n0_; have BK255 := n1_; have GW255 := n2_; have GE255 := n3_; clear n0_ n1_ n2_ n3_; clear hb hbox hg) | ((with_reducible refine gate_dst (N := 2) rfl ?_); refine box_event ?hg (N := 2) ?hd (cs := #[.int .i64 0, .int .i64 0, .string (⟨#[]⟩ : ByteArray)]) (t := 47) ?hr ?_; (case hd => rfl); (case hg => rfl); (case hr => first | (go_simp; done) | (go_simp; rfl)); intro gb256 hg w36 hbox hb; have n0_ := Aside0.mk (blk_below (blk_below BK255.out bll) hb); have n1_ := Aside0.mk (below_step (bel) hb); have n2_ := Aside0.mk (hbox); have n3_ := Aside0.mk ((by rw [hg]; exact bsz : w.heap.size ≤ gb256)); have n4_ := Aside0.mk ((by rw [hg]; exact bsz : w.heap.size ≤ gb256)); have n5_ := Aside0.mk ((by rw [hg]; exact Nat.ne_of_lt (blk_lt (blk_below BK255.out bll)) : gb255 ≠ gb256)); have n6_ := Aside0.mk ((by rw [hg]; exact Nat.ne_of_gt (blk_lt (blk_below BK255.out bll)) : gb256 ≠ gb255)); clear BK255; clear HB; have BK255 := n0_; have HB := n1_; have BK256 := n2_; have GW256 := n3_; have GE256 := n4_; have NB255_256 := n5_; have NB256_255 := n6_; clear n0_ n1_ n2_ n3_ n4_ n5_ n6_; clear hb hbox hg) | ((with_reducible refine gate_dst (N := 3) rfl ?_); refine box_event ?hg (N := 3) ?hd (cs := #[.string (⟨#[]⟩ : ByteArray), .int .i64 0, .int .i64 0, .bool false]) (t := 60) ?hr ?_; (case hd => rfl); (case hg => rfl); (case hr => first | (go_simp; done) | (go_simp; rfl)); intro gb257 hg w37 hbox hb; have n0_ := Aside0.mk (blk_below (blk_below BK255.out bll) hb); have n1_ := Aside0.mk (blk_below (blk_below BK256.out bll) hb); have n2_ := Aside0.mk (below_step (bel) hb); have n3_ := Aside0.mk (hbox); have n4_ := Aside0.mk ((by rw [hg]; exact bsz : w.heap.size ≤ gb257)); have n5_ := Aside0.mk ((by rw [hg]; exact bsz : w.heap.size ≤ gb257)); have n6_ := Aside0.mk ((by rw [hg]; exact Nat.ne_of_lt (blk_lt (blk_below BK255.out bll)) : gb255 ≠ gb257)); have n7_ := Aside0.mk ((by rw [hg]; exact Nat.ne_of_gt (blk_lt (blk_below BK255.out bll)) : gb257 ≠ gb255)); have n8_ := Aside0.mk ((by rw [hg]; exact Nat.ne_of_lt (blk_lt (blk_below BK256.out bll)) : gb256 ≠ gb257)); have n9_ := Aside0.mk ((by rw [hg]; exact Nat.ne_of_gt (blk_lt (blk_below BK256.out bll)) : gb257 ≠ gb256)); clear BK255; clear BK256; clear HB; have BK255 := n0_; have BK256 := n1_; have HB := n2_; have BK257 := n3_; have GW257 := n4_; have GE257 := n5_; have NB255_257 := n6_; have NB257_255 := n7_; have NB256_257 := n8_; have NB257_256 := n9_; clear n0_ n1_ n2_ n3_ n4_ n5_ n6_ n7_ n8_ n9_; clear hb hbox hg; have hnb38 := NB255_256.out; have hnc38 := NB256_255.out; have hnb39 := NB255_257.out; have hnc39 := NB257_255.out; have hcz40_1 := cl1 BK255.out; have hfz40_1 := blk_frozen BK255.out 1) | ((with_reducible refine gate_dst (N := 4) rfl ?_); refine box_event ?hg (N := 4) ?hd (cs := #[.int .i64 0, .int .i64 0, .string (⟨#[]⟩ : ByteArray)]) (t := 47) ?hr ?_; (case hd => rfl); (case hg => rfl); (case hr => first | (go_simp; done) | (go_simp; rfl)); intro gb258 hg w41 hbox hb; have n0_ := Aside0.mk (blk_below (blk_below BK255.out bll) hb); have n1_ := Aside0.mk (blk_below (blk_below BK256.out bll) hb); have n2_ := Aside0.mk (blk_below (blk_below BK257.out bll) hb); have n3_ := Aside0.mk (below_step (bel) hb); have n4_ := Aside0.mk (hbox); have n5_ := Aside0.mk ((by rw [hg]; exact bsz : w.heap.size ≤ gb258)); have n6_ := Aside0.mk ((by rw [hg]; exact bsz : w.heap.size ≤ gb258)); have n7_ := Aside0.mk ((by rw [hg]; exact Nat.ne_of_lt (blk_lt (blk_below BK255.out bll)) : gb255 ≠ gb258)); have n8_ := Aside0.mk ((by rw [hg]; exact Nat.ne_of_gt (blk_lt (blk_below BK255.out bll)) : gb258 ≠ gb255)); have n9_ := Aside0.mk ((by rw [hg]; exact Nat.ne_of_lt (blk_lt (blk_below BK256.out bll)) : gb256 ≠ gb258)); have n10_ := Aside0.mk ((by rw [hg]; exact Nat.ne_of_gt (blk_lt (blk_below BK256.out bll)) : gb258 ≠ gb256)); have n11_ := Aside0.mk ((by rw [hg]; exact Nat.ne_of_lt (blk_lt (blk_below BK257.out bll)) : gb257 ≠ gb258)); have n12_ := Aside0.mk ((by rw [hg]; exact Nat.ne_of_gt (blk_lt (blk_below BK257.out bll)) : gb258 ≠ gb257)); clear BK255; clear BK256; clear BK257; clear HB; have BK255 := n0_; have BK256 := n1_; have BK257 := n2_; have HB := n3_; have BK258 := n4_; have GW258 := n5_; have GE258 := n6_; have NB255_258 := n7_; have NB258_255 := n8_; have NB256_258 := n9_; have NB258_256 := n10_; have NB257_258 := n11_; have NB258_257 := n12_; clear n0_ n1_ n2_ n3_ n4_ n5_ n6_ n7_ n8_ n9_ n10_ n11_ n12_; clear hb hbox hg; have hnb42 := NB258_255.out; have hnc42 := NB255_258.out; have hnb43 := NB258_256.out; have hnc43 := NB256_258.out; have hnb44 := NB258_257.out; have hnc44 := NB257_258.out; have hcz45_0 := cl0 BK258.out; have hfz45_0 := blk_frozen BK258.out 0; have hcz46_1 := cl1 BK258.out; have hfz46_1 := blk_frozen BK258.out 1; have hcz47_2 := cl2 BK258.out; have hfz47_2 := blk_frozen BK258.out 2; have hcz48_0 := cl0 BK255.out; have hcz48_1 := cl1 BK255.out; have hcz48_2 := cl2 BK255.out; have hcz48_3 := cl3 BK255.out; have hfz48_0 := blk_frozen BK255.out 0; have hfz48_1 := blk_frozen BK255.out 1; have hfz48_2 := blk_frozen BK255.out 2; have hfz48_3 := blk_frozen BK255.out 3) | ((with_reducible refine gate_callee (f := 55) rfl ?_); refine goesL_ (some 11) rfl rfl Try.func55 (by kernel_rfl) rfl #[.agg #[.string a0_0, .int .i64 a0_1, .int .i64 a0_2, .bool a0_3], .int .i64 1] rfl gAr ?_; (with_reducible refine (cursor_Num.calls k a0_0 a0_1 a0_2 a0_3 1 t259 t260 t261 t262 t263 _ A2.out).mono ?_); rintro e w49 ⟨rfl, hb⟩; refine ⟨_, rfl, ?_⟩; have n0_ := Aside0.mk (blk_below (g := gb255) blk hb); have n1_ := Aside0.mk (blk_below (g := gb256) blk hb); have n2_ := Aside0.mk (blk_below (g := gb257) blk hb); have n3_ := Aside0.mk (blk_below (g := gb258) (o := .cells #[.int .i64 0, .int .i64 a0_1, .string (⟨#[]⟩ : ByteArray)] 47 (0, 0)) (blk) hb); have n4_ := Aside0.mk (below_step (bel) hb); clear BK255; clear BK256; clear BK257; clear BK258; clear HB; have BK255 := n0_; have BK256 := n1_; have BK257 := n2_; have BK258 := n3_; have HB := n4_; clear n0_ n1_ n2_ n3_ n4_; (try clear hb); have hcz50_0 := cl0 BK258.out; have hfz50_0 := blk_frozen BK258.out 0; have hcz51_0 := cl0 BK255.out; have hfz51_0 := blk_frozen BK255.out 0; have hcz52_1 := cl1 BK255.out; have hfz52_1 := blk_frozen BK255.out 1; have hcz53_2 := cl2 BK255.out; have hfz53_2 := blk_frozen BK255.out 2; have hcz54_3 := cl3 BK255.out; have hfz54_3 := blk_frozen BK255.out 3; have hcz55_0 := cl0 BK255.out; have hcz55_1 := cl1 BK255.out; have hcz55_2 := cl2 BK255.out; have hcz55_3 := cl3 BK255.out; have hfz55_0 := blk_frozen BK255.out 0; have hfz55_1 := blk_frozen BK255.out 1; have hfz55_2 := blk_frozen BK255.out 2; have hfz55_3 := blk_frozen BK255.out 3) | ((with_reducible refine gate_callee (f := 55) rfl ?_); refine goesL_ (some 22) rfl rfl Try.func55 (by kernel_rfl) rfl #[.agg #[.string t260, .int .i64 t261, .int .i64 t262, .bool t263], .int .i64 1] rfl gAr ?_; (with_reducible refine (cursor_Num.calls k t260 t261 t262 t263 1 t264 t265 t266 t267 t268 _ A33.out).mono ?_); rintro e w56 ⟨rfl, hb⟩; refine ⟨_, rfl, ?_⟩; have n0_ := Aside0.mk (blk_below (g := gb255) (o := .cells #[.string t260, .int .i64 t261, .int .i64 t262, .bool t263] 60 (0, 0)) (blk) hb); have n1_ := Aside0.mk (blk_below (g := gb256) blk hb); have n2_ := Aside0.mk (blk_below (g := gb257) blk hb); have n3_ := Aside0.mk (blk_below (g := gb258) (o := .cells #[.int .i64 t259, .int .i64 a0_1, .string (⟨#[]⟩ : ByteArray)] 47 (0, 0)) (blk) hb); have n4_ := Aside0.mk (below_step (bel) hb); clear BK255; clear BK256; clear BK257; clear BK258; clear HB; have BK255 := n0_; have BK256 := n1_; have BK257 := n2_; have BK258 := n3_; have HB := n4_; clear n0_ n1_ n2_ n3_ n4_; (try clear hb); have hcz57_0 := cl0 BK255.out; have hfz57_0 := blk_frozen BK255.out 0; have hcz58_1 := cl1 BK255.out; have hfz58_1 := blk_frozen BK255.out 1; have hcz59_2 := cl2 BK255.out; have hfz59_2 := blk_frozen BK255.out 2; have hcz60_3 := cl3 BK255.out; have hfz60_3 := blk_frozen BK255.out 3; have hcz61_0 := cl0 BK255.out; have hcz61_1 := cl1 BK255.out; have hcz61_2 := cl2 BK255.out; have hcz61_3 := cl3 BK255.out; have hfz61_0 := blk_frozen BK255.out 0; have hfz61_1 := blk_frozen BK255.out 1; have hfz61_2 := blk_frozen BK255.out 2; have hfz61_3 := blk_frozen BK255.out 3) | ((with_reducible refine gate_callee (f := 56) rfl ?_); refine goesL_ (some 28) rfl rfl Try.func56 (by kernel_rfl) rfl #[.agg #[.string t265, .int .i64 t266, .int .i64 t267, .bool t268], .int .i64 t264] rfl gAr ?_; (with_reducible refine (cursor_Text.calls t265 t266 t267 t268 t264 t269 t270 t271 t272 t273 _ A34.out).mono ?_); rintro e w62 ⟨rfl, hb⟩; refine ⟨_, rfl, ?_⟩; have n0_ := Aside0.mk (blk_below (g := gb255) (o := .cells #[.string t265, .int .i64 t266, .int .i64 t267, .bool t268] 60 (0, 0)) (blk) hb); have n1_ := Aside0.mk (blk_below (g := gb256) blk hb); have n2_ := Aside0.mk (blk_below (g := gb257) blk hb); have n3_ := Aside0.mk (blk_below (g := gb258) blk hb); have n4_ := Aside0.mk (below_step (bel) hb); clear BK255; clear BK256; clear BK257; clear BK258; clear HB; have BK255 := n0_; have BK256 := n1_; have BK257 := n2_; have BK258 := n3_; have HB := n4_; clear n0_ n1_ n2_ n3_ n4_; (try clear hb); have hcz63_2 := cl2 BK258.out; have hfz63_2 := blk_frozen BK258.out 2; have hcz64_0 := cl0 BK255.out; have hfz64_0 := blk_frozen BK255.out 0; have hcz65_1 := cl1 BK255.out; have hfz65_1 := blk_frozen BK255.out 1; have hcz66_2 := cl2 BK255.out; have hfz66_2 := blk_frozen BK255.out 2; have hcz67_3 := cl3 BK255.out; have hfz67_3 := blk_frozen BK255.out 3))
    have n0_ : Aside0 ((((((w62.setCell ⟨gb258, 2, none⟩ (.string t269)).setCell ⟨gb255, 0, none⟩ (.string t270)).setCell ⟨gb255, 1, none⟩ (.int .i64 t271)).setCell ⟨gb255, 2, none⟩ (.int .i64 t272)).setCell ⟨gb255, 3, none⟩ (.bool t273)).heap[gb255]? = some (.cells #[.string t270, .int .i64 t271, .int .i64 t272, .bool t273] 60 (0, 0))) := ⟨blk⟩
    have n1_ : Aside0 ((((((w62.setCell ⟨gb258, 2, none⟩ (.string t269)).setCell ⟨gb255, 0, none⟩ (.string t270)).setCell ⟨gb255, 1, none⟩ (.int .i64 t271)).setCell ⟨gb255, 2, none⟩ (.int .i64 t272)).setCell ⟨gb255, 3, none⟩ (.bool t273)).heap[gb256]? = some (.cells #[.int .i64 0, .int .i64 0, .string (⟨#[]⟩ : ByteArray)] 47 (0, 0))) := ⟨blk⟩
    have n2_ : Aside0 ((((((w62.setCell ⟨gb258, 2, none⟩ (.string t269)).setCell ⟨gb255, 0, none⟩ (.string t270)).setCell ⟨gb255, 1, none⟩ (.int .i64 t271)).setCell ⟨gb255, 2, none⟩ (.int .i64 t272)).setCell ⟨gb255, 3, none⟩ (.bool t273)).heap[gb257]? = some (.cells #[.string (⟨#[]⟩ : ByteArray), .int .i64 0, .int .i64 0, .bool false] 60 (0, 0))) := ⟨blk⟩
    have n3_ : Aside0 ((((((w62.setCell ⟨gb258, 2, none⟩ (.string t269)).setCell ⟨gb255, 0, none⟩ (.string t270)).setCell ⟨gb255, 1, none⟩ (.int .i64 t271)).setCell ⟨gb255, 2, none⟩ (.int .i64 t272)).setCell ⟨gb255, 3, none⟩ (.bool t273)).heap[gb258]? = some (.cells #[.int .i64 t259, .int .i64 a0_1, .string t269] 47 (0, 0))) := ⟨blk⟩
    have n4_ : Aside0 (Below w.heap.size w (((((w62.setCell ⟨gb258, 2, none⟩ (.string t269)).setCell ⟨gb255, 0, none⟩ (.string t270)).setCell ⟨gb255, 1, none⟩ (.int .i64 t271)).setCell ⟨gb255, 2, none⟩ (.int .i64 t272)).setCell ⟨gb255, 3, none⟩ (.bool t273))) := ⟨bel⟩
    (try clear BK255)
    (try clear BK256)
    (try clear BK257)
    (try clear BK258)
    (try clear HB)
    generalize (((((w62.setCell ⟨gb258, 2, none⟩ (.string t269)).setCell ⟨gb255, 0, none⟩ (.string t270)).setCell ⟨gb255, 1, none⟩ (.int .i64 t271)).setCell ⟨gb255, 2, none⟩ (.int .i64 t272)).setCell ⟨gb255, 3, none⟩ (.bool t273)) = w68 at n0_ n1_ n2_ n3_ n4_ ⊢
    have BK255 := n0_
    have BK256 := n1_
    have BK257 := n2_
    have BK258 := n3_
    have HB := n4_
    clear n0_ n1_ n2_ n3_ n4_
    have n0_ := Aside0.mk (blk_drew BK255.out)
    have n1_ := Aside0.mk (blk_drew BK256.out)
    have n2_ := Aside0.mk (blk_drew BK257.out)
    have n3_ := Aside0.mk (blk_drew BK258.out)
    have n4_ := Aside0.mk (below_drew1 HB.out)
    clear BK255
    clear BK256
    clear BK257
    clear BK258
    clear HB
    have BK255 := n0_
    have BK256 := n1_
    have BK257 := n2_
    have BK258 := n3_
    have HB := n4_
    clear n0_ n1_ n2_ n3_ n4_
    refine start_ (n := 4) (S := fun w' => w'.cell? ⟨gb258, 0, none⟩ = some (.int .i64 t259) ∧ w'.cell? ⟨gb258, 1, none⟩ = some (.int .i64 a0_1) ∧ w'.cell? ⟨gb258, 2, none⟩ = some (.string t269) ∧ w'.cell? ⟨gb255, 0, none⟩ = some (.string t270) ∧ w'.cell? ⟨gb255, 1, none⟩ = some (.int .i64 t271) ∧ w'.cell? ⟨gb255, 2, none⟩ = some (.int .i64 t272) ∧ w'.cell? ⟨gb255, 3, none⟩ = some (.bool t273)) (ds := []) #[false, false, false, false] (by kernel_rfl) rfl rfl ⟨(blk_cell BK258.out 0).trans rfl, (blk_cell BK258.out 1).trans rfl, (blk_cell BK258.out 2).trans rfl, (blk_cell BK255.out 0).trans rfl, (blk_cell BK255.out 1).trans rfl, (blk_cell BK255.out 2).trans rfl, (blk_cell BK255.out 3).trans rfl⟩ (fun hHeld => ?_)
    generalize w68.drew = w69 at BK255 BK256 BK257 BK258 HB hHeld ⊢
    refine take_ (i := 0) (N := some 32) (v := ?_) (a' := ?_) #[true, false, false, false] rfl rfl (by kernel_rfl) (fun _ _ _ h => h) (Or.inl ⟨by rfl, ?_⟩) hHeld ?_ ?_
    rotate_left
    · rintro w' ⟨s0, s1, s2, s3, s4, s5, s6⟩
      go_simp
      with_reducible rfl
    rotate_left
    · simp only [Act.put, List.setIfInBounds_toArray, List.set_cons_zero, List.set_cons_succ, i64_w, i32_w]
      rfl
    refine take_ (i := 1) (N := some 33) (v := ?_) (a' := ?_) #[true, true, false, false] rfl rfl (by kernel_rfl) (fun _ _ _ h => h) (Or.inl ⟨by rfl, ?_⟩) hHeld ?_ ?_
    rotate_left
    · rintro w' ⟨s0, s1, s2, s3, s4, s5, s6⟩
      go_simp
      with_reducible rfl
    rotate_left
    · simp only [Act.put, List.setIfInBounds_toArray, List.set_cons_zero, List.set_cons_succ, i64_w, i32_w]
      rfl
    refine one_ (i := 2) (N := none) #[true, true, true, false] rfl rfl (by kernel_rfl) (by decide) (fun K hK => ?_)
    have hs70 : w69.cell? ⟨gb256, 0, none⟩ = some (.int .i64 0) := (blk_cell BK256.out 0).trans rfl
    have hfs70 := blk_frozen BK256.out 0
    have hns70_0 := NB255_256.out
    have hns70_2 := NB257_256.out
    have hns70_3 := NB258_256.out
    have hms70_0 := NB256_255.out
    have hms70_2 := NB256_257.out
    have hms70_3 := NB256_258.out
    have hs71 : w69.cell? ⟨gb256, 1, none⟩ = some (.int .i64 0) := (blk_cell BK256.out 1).trans rfl
    have hfs71 := blk_frozen BK256.out 1
    have hns71_0 := NB255_256.out
    have hns71_2 := NB257_256.out
    have hns71_3 := NB258_256.out
    have hms71_0 := NB256_255.out
    have hms71_2 := NB256_257.out
    have hms71_3 := NB256_258.out
    have hs72 : w69.cell? ⟨gb256, 2, none⟩ = some (.string (⟨#[]⟩ : ByteArray)) := (blk_cell BK256.out 2).trans rfl
    have hfs72 := blk_frozen BK256.out 2
    have hns72_0 := NB255_256.out
    have hns72_2 := NB257_256.out
    have hns72_3 := NB258_256.out
    have hms72_0 := NB256_255.out
    have hms72_2 := NB256_257.out
    have hms72_3 := NB256_258.out
    refine skip_ (w1 := ?_) (by rfl) rfl ?_ ?_
    rotate_left
    · go_simp
      rfl
    refine hK.out _ _ ⟨((cell_far (p := ⟨gb256, _, none⟩) NB258_256.out _).trans (((cell_far (p := ⟨gb256, _, none⟩) NB258_256.out _).trans (((cell_far (p := ⟨gb256, _, none⟩) NB258_256.out _).trans (hHeld.1)))))), ((cell_far (p := ⟨gb256, _, none⟩) NB258_256.out _).trans (((cell_far (p := ⟨gb256, _, none⟩) NB258_256.out _).trans (((cell_far (p := ⟨gb256, _, none⟩) NB258_256.out _).trans (hHeld.2.1)))))), ((cell_far (p := ⟨gb256, _, none⟩) NB258_256.out _).trans (((cell_far (p := ⟨gb256, _, none⟩) NB258_256.out _).trans (((cell_far (p := ⟨gb256, _, none⟩) NB258_256.out _).trans (hHeld.2.2.1)))))), ((cell_far (p := ⟨gb256, _, none⟩) NB255_256.out _).trans (((cell_far (p := ⟨gb256, _, none⟩) NB255_256.out _).trans (((cell_far (p := ⟨gb256, _, none⟩) NB255_256.out _).trans (hHeld.2.2.2.1)))))), ((cell_far (p := ⟨gb256, _, none⟩) NB255_256.out _).trans (((cell_far (p := ⟨gb256, _, none⟩) NB255_256.out _).trans (((cell_far (p := ⟨gb256, _, none⟩) NB255_256.out _).trans (hHeld.2.2.2.2.1)))))), ((cell_far (p := ⟨gb256, _, none⟩) NB255_256.out _).trans (((cell_far (p := ⟨gb256, _, none⟩) NB255_256.out _).trans (((cell_far (p := ⟨gb256, _, none⟩) NB255_256.out _).trans (hHeld.2.2.2.2.2.1)))))), ((cell_far (p := ⟨gb256, _, none⟩) NB255_256.out _).trans (((cell_far (p := ⟨gb256, _, none⟩) NB255_256.out _).trans (((cell_far (p := ⟨gb256, _, none⟩) NB255_256.out _).trans (hHeld.2.2.2.2.2.2))))))⟩ (fun hHeld => ?_)
    clear hK K
    refine one_ (i := 3) (N := none) #[true, true, true, true] rfl rfl (by kernel_rfl) (by decide) (fun K hK => ?_)
    have hs73 : w69.cell? ⟨gb257, 0, none⟩ = some (.string (⟨#[]⟩ : ByteArray)) := (blk_cell BK257.out 0).trans rfl
    have hfs73 := blk_frozen BK257.out 0
    have hns73_0 := NB255_257.out
    have hns73_1 := NB256_257.out
    have hns73_3 := NB258_257.out
    have hms73_0 := NB257_255.out
    have hms73_1 := NB257_256.out
    have hms73_3 := NB257_258.out
    have hs74 : w69.cell? ⟨gb257, 1, none⟩ = some (.int .i64 0) := (blk_cell BK257.out 1).trans rfl
    have hfs74 := blk_frozen BK257.out 1
    have hns74_0 := NB255_257.out
    have hns74_1 := NB256_257.out
    have hns74_3 := NB258_257.out
    have hms74_0 := NB257_255.out
    have hms74_1 := NB257_256.out
    have hms74_3 := NB257_258.out
    have hs75 : w69.cell? ⟨gb257, 2, none⟩ = some (.int .i64 0) := (blk_cell BK257.out 2).trans rfl
    have hfs75 := blk_frozen BK257.out 2
    have hns75_0 := NB255_257.out
    have hns75_1 := NB256_257.out
    have hns75_3 := NB258_257.out
    have hms75_0 := NB257_255.out
    have hms75_1 := NB257_256.out
    have hms75_3 := NB257_258.out
    have hs76 : w69.cell? ⟨gb257, 3, none⟩ = some (.bool false) := (blk_cell BK257.out 3).trans rfl
    have hfs76 := blk_frozen BK257.out 3
    have hns76_0 := NB255_257.out
    have hns76_1 := NB256_257.out
    have hns76_3 := NB258_257.out
    have hms76_0 := NB257_255.out
    have hms76_1 := NB257_256.out
    have hms76_3 := NB257_258.out
    refine skip_ (w1 := ?_) (by rfl) rfl ?_ ?_
    rotate_left
    · go_simp
      rfl
    refine hK.out _ _ ⟨((cell_far (p := ⟨gb257, _, none⟩) NB258_257.out _).trans (((cell_far (p := ⟨gb257, _, none⟩) NB258_257.out _).trans (((cell_far (p := ⟨gb257, _, none⟩) NB258_257.out _).trans (((cell_far (p := ⟨gb257, _, none⟩) NB258_257.out _).trans (hHeld.1)))))))), ((cell_far (p := ⟨gb257, _, none⟩) NB258_257.out _).trans (((cell_far (p := ⟨gb257, _, none⟩) NB258_257.out _).trans (((cell_far (p := ⟨gb257, _, none⟩) NB258_257.out _).trans (((cell_far (p := ⟨gb257, _, none⟩) NB258_257.out _).trans (hHeld.2.1)))))))), ((cell_far (p := ⟨gb257, _, none⟩) NB258_257.out _).trans (((cell_far (p := ⟨gb257, _, none⟩) NB258_257.out _).trans (((cell_far (p := ⟨gb257, _, none⟩) NB258_257.out _).trans (((cell_far (p := ⟨gb257, _, none⟩) NB258_257.out _).trans (hHeld.2.2.1)))))))), ((cell_far (p := ⟨gb257, _, none⟩) NB255_257.out _).trans (((cell_far (p := ⟨gb257, _, none⟩) NB255_257.out _).trans (((cell_far (p := ⟨gb257, _, none⟩) NB255_257.out _).trans (((cell_far (p := ⟨gb257, _, none⟩) NB255_257.out _).trans (hHeld.2.2.2.1)))))))), ((cell_far (p := ⟨gb257, _, none⟩) NB255_257.out _).trans (((cell_far (p := ⟨gb257, _, none⟩) NB255_257.out _).trans (((cell_far (p := ⟨gb257, _, none⟩) NB255_257.out _).trans (((cell_far (p := ⟨gb257, _, none⟩) NB255_257.out _).trans (hHeld.2.2.2.2.1)))))))), ((cell_far (p := ⟨gb257, _, none⟩) NB255_257.out _).trans (((cell_far (p := ⟨gb257, _, none⟩) NB255_257.out _).trans (((cell_far (p := ⟨gb257, _, none⟩) NB255_257.out _).trans (((cell_far (p := ⟨gb257, _, none⟩) NB255_257.out _).trans (hHeld.2.2.2.2.2.1)))))))), ((cell_far (p := ⟨gb257, _, none⟩) NB255_257.out _).trans (((cell_far (p := ⟨gb257, _, none⟩) NB255_257.out _).trans (((cell_far (p := ⟨gb257, _, none⟩) NB255_257.out _).trans (((cell_far (p := ⟨gb257, _, none⟩) NB255_257.out _).trans (hHeld.2.2.2.2.2.2))))))))⟩ (fun hHeld => ?_)
    clear hK K
    refine done_ (by kernel_rfl) ?_
    try go_wp2
    refine bodyPost_ret (results_cc rfl _ _ gb256 gb257 47 60 #[.int .i64 t259, .int .i64 a0_1, .string t269] #[.string t270, .int .i64 t271, .int .i64 t272, .bool t273] (0, 0) (0, 0) _ _ rfl (blk) Try.underlying47 rfl (by kernel_rfl) rfl (blk) Try.underlying60 rfl (by kernel_rfl)) rfl ?_
    exact ⟨rtE, bel⟩

end Go.Proofs.Ytjgnpggpgkkknaa.Pr
