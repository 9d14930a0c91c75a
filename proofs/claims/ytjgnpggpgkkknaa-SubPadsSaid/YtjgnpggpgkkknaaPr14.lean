-- Written by wip/tools/xprint.py of this repo over the kit's printer, out of the translation. Lean checks it.
import Derived.Test.YtjgnpggpgkkknaaPr0
import Derived.Test.YtjgnpggpgkkknaaPr3
import Derived.Test.YtjgnpggpgkkknaaPr10
import Derived.Test.YtjgnpggpgkkknaaPr12
import Derived.Test.YtjgnpggpgkkknaaPr13
namespace Go.Proofs.Ytjgnpggpgkkknaa.Pr
open Go.RowKit Go.Proofs.YtjgnpggpgkkknaaW.PrintWords Go.Proofs.YtjgnpggpgkkknaaW.PrintLast
set_option linter.unusedVariables false
set_option linter.unusedSimpArgs false

attribute [local go_sem high] eqA78
/-! ### sub_Get: function 33 -/
def sub_Get.l0 : Nat → List (S78) → Bool → List (S47) → Int → Int → Option ((List (S78)) × Bool × Int)
  | 0, _, _, _, _, _ => none
  | k + 1, x8, x9, x21, x22, x23 => if x23 < x22 then (if 0 ≤ x23 then (if x23 < (x21.length : Int) then (if ((rd_T47 x21 x23).f0) ≥ 128 then (sub_Get.l0 k x8 false x21 x22 (wrap64 (x23 + 1))) else (if ((rd_T47 x21 x23).f0) ≥ 2 then (if x8.length < 5864062014805 then (sub_Get.l0 k (x8 ++ [(⟨(rd_T47 x21 x23).f0, (rd_T47 x21 x23).f2⟩ : S78)]) x9 x21 x22 (wrap64 (x23 + 1))) else (none)) else (sub_Get.l0 k x8 x9 x21 x22 (wrap64 (x23 + 1))))) else (none)) else (none)) else ((msg_Bytes.f k x8).bind fun t422 => (if t422 > 200 then (some (([] : List (S78)), false, 10)) else (some (x8, x9, 0))))
def sub_Get.f (k : Nat) (a0 : ByteArray) : Option ((List (S78)) × Bool × Int) := (frame_Split.f k a0 0).bind fun bt417 => (if bt417.2.2 = 0 then (sub_Get.l0 k ([] : List (S78)) true bt417.1 (bt417.1.length : Int) 0) else (some (([] : List (S78)), false, bt417.2.2)))
theorem sub_Get.mono_l : ∀ k, (∀ y0 y1 y2 y3 y4, LeO (sub_Get.l0 k y0 y1 y2 y3 y4) (sub_Get.l0 (k + 1) y0 y1 y2 y3 y4))
  | 0 => fun _ _ _ _ _ r h => by simp [sub_Get.l0] at h
  | k + 1 => by
    have ih0 := sub_Get.mono_l k
    · intro y0 y1 y2 y3 y4
      unfold sub_Get.l0
      repeat' first
      | (with_reducible exact ih0 _ _ _ _ _)
      | (with_reducible exact frame_Split.mono _ _ _)
      | (with_reducible exact msg_Bytes.mono _ _)
      | (with_reducible exact LeO.refl _)
      | (with_reducible exact LeO.none _)
      | (with_reducible refine LeO.ite ?_ ?_)
      | (with_reducible refine LeO.bind ?_ (fun _ => ?_))
      | exact ih0 _ _ _ _ _
      | exact frame_Split.mono _ _ _
      | exact msg_Bytes.mono _ _
      | exact LeO.none _
      | refine LeO.ite ?_ ?_
      | refine LeO.bind ?_ (fun _ => ?_)
theorem sub_Get.mono : ∀ a0 k, LeO (sub_Get.f k a0) (sub_Get.f (k + 1) a0) := by
  intro a0 k
  have ih0 := sub_Get.mono_l k
  unfold sub_Get.f
  repeat' first
      | (with_reducible exact ih0 _ _ _ _ _)
      | (with_reducible exact frame_Split.mono _ _ _)
      | (with_reducible exact msg_Bytes.mono _ _)
      | (with_reducible exact LeO.refl _)
      | (with_reducible exact LeO.none _)
      | (with_reducible refine LeO.ite ?_ ?_)
      | (with_reducible refine LeO.bind ?_ (fun _ => ?_))
      | exact ih0 _ _ _ _ _
      | exact frame_Split.mono _ _ _
      | exact msg_Bytes.mono _ _
      | exact LeO.none _
      | refine LeO.ite ?_ ?_
      | refine LeO.bind ?_ (fun _ => ?_)
set_option maxHeartbeats 8000000 in
set_option maxRecDepth 100000 in
theorem sub_Get.calls (k : Nat) (a0 : ByteArray) (r1 : List (S78)) (r2 : Bool) (r3 : Int) (w : World) (h : sub_Get.f k a0 = some (r1, r2, r3)) :
    Calls Try.prog 33 #[.string a0] w fun e w' => ∃ v0_ : Value, e = .returned (.tuple #[v0_, .bool r2, .int .i64 r3]) ∧ Kd.R k78 78 w' w.heap.size (fun _ => True) v0_ r1 ∧ Below w.heap.size w w' := by
  have hu47 := Try.underlying47
  have hu78 := Try.underlying78
  have HB := Aside0.mk (Below.refl w.heap.size w)
  have H : ((frame_Split.f k a0 0).bind fun bt417 => (if bt417.2.2 = 0 then (sub_Get.l0 k ([] : List (S78)) true bt417.1 (bt417.1.length : Int) 0) else (some (([] : List (S78)), false, bt417.2.2)))) = some (r1, r2, r3) := h
  clear h
  replace H := Option.bind_eq_some_iff.mp H
  obtain ⟨⟨t417, t418, t419⟩, A20, H⟩ := H
  replace H : (if t419 = 0 then (sub_Get.l0 k ([] : List (S78)) true t417 (t417.length : Int) 0) else (some (([] : List (S78)), false, t419))) = some (r1, r2, r3) := H
  have A2 := Aside0.mk A20
  clear A20
  by_cases c3 : t419 = 0
  · rw [if_pos c3] at H
    have c3b0 : (t419 == 0) = true := beq_iff_eq.mpr c3
    have c3b1 : (t419 != 0) = false := bne_eq_false_iff_eq.mpr c3
    clear c3
    have H' := Aside0.mk H
    clear H
    go_enter Try.func33, Try.ntmps33
    go_wp2_with (first | ((with_reducible refine gate_callee (f := 18) rfl ?_); refine goesL_ (some 14) rfl rfl Try.func18 (by kernel_rfl) rfl #[.string a0, .int .i64 0] rfl gAr ?_; (with_reducible refine (frame_Split.calls k a0 0 t417 t418 t419 _ A2.out).mono ?_); rintro e w4 ⟨v420, rfl, ho0, hb⟩; refine ⟨_, rfl, ?_⟩; have n0_ := Aside0.mk (Kd.R_lower ho0 bsz); have n1_ := Aside0.mk (below_step (bel) hb); clear HB; have HO421 := n0_; have HB := n1_; clear n0_ n1_; (try clear hb); (try clear ho0); obtain ⟨Ao5, co5, eo5⟩ := Kd.R_slice HO421.out; subst eo5))
    go_loopg [8, 9, 23] k (fun kq v8 v9 v23 w' => ∃ (x8_1 : List (S78)) (x9_1 : Bool) (x23_1 : Int), v9 = .bool x9_1 ∧ v23 = .int .i64 x23_1 ∧ Aside0 (sub_Get.l0 kq x8_1 x9_1 t417 (t417.length : Int) x23_1 = some (r1, r2, r3)) ∧ Aside0 (kq ≤ k) ∧ Aside0 (Kd.R k78 78 w' w.heap.size (fun _ => True) v8 x8_1) ∧ Aside0 (Kd.R k47 47 w' w.heap.size (fun _ => True) (.slice Ao5 t417.length co5) t417) ∧ Aside0 (Below w.heap.size w w'))
    case atStart => exact ⟨(([] : List (S78))), (true), (0), rfS, rfS, H', ⟨Nat.le_refl _⟩, ⟨by first | exact Kd.R_nil _ _ _ _ _ | exact Kd.N_nil _ _ _ _ _ | exact Kd.V_nil _ _ _ _ _ | exact Kd.Q_nil _ _ _ _ _ | exact Kd.S_nil _ _ _ _ _⟩, ⟨Kd.R_below HO421.out bll⟩, ⟨bel⟩⟩
    case round =>
      clear H'
      try clear c3
      try clear c3b0
      try clear c3b1
      obtain ⟨x8_1, x9_1, x23_1, rfl, rfl, HA, HK1, HO_8, HO_21, HB⟩ := hrel
      cases gk with
      | zero => exact absurd HA.out (by simp [sub_Get.l0])
      | succ k1 =>
        have H := HA.out
        clear HA
        simp only [sub_Get.l0] at H
        by_cases c6 : x23_1 < (t417.length : Int)
        · rw [if_pos c6] at H
          have c6b0 : decide (x23_1 < (t417.length : Int)) = true := decide_eq_true c6
          clear c6
          by_cases c7 : 0 ≤ x23_1
          · rw [if_pos c7] at H
            have c7b0 : decide (0 ≤ x23_1) = true := decide_eq_true c7
            clear c7
            by_cases c8 : x23_1 < (t417.length : Int)
            · rw [if_pos c8] at H
              have c8b0 : decide (x23_1 < (t417.length : Int)) = true := decide_eq_true c8
              clear c8
              by_cases c9 : ((rd_T47 t417 x23_1).f0) ≥ 128
              · rw [if_pos c9] at H
                have c9b0 : decide (128 ≤ ((rd_T47 t417 x23_1).f0)) = true := decide_eq_true c9
                clear c9
                have H' := Aside0.mk H
                clear H
                have p423 : 0 ≤ (x23_1 : Int) := odt
                have q423 : x23_1 < (t417.length : Int) := odt
                obtain ⟨ad423, e423, hx423_0, hx423_1, hx423_2⟩ := at_T47 (Kd.R_reads' HO_21.out).2.2 x23_1 p423 q423
                cases e423
                replace p423 := eq_true p423
                replace q423 := eq_true q423
                go_wp2_with (first | ((with_reducible refine gate_dst (N := 11) rfl ?_); refine box_event ?hg (N := 11) ?hd (cs := #[.int .i64 0, .int .i64 0, .string (⟨#[]⟩ : ByteArray)]) (t := 47) ?hr ?_; (case hd => rfl); (case hg => rfl); (case hr => first | (go_simp; done) | (go_simp; rfl)); intro gb424 hg w10 hbox hb; have n0_ := Aside0.mk (Kd.R_below (Kd.R_below HO_8.out bll) hb); have n1_ := Aside0.mk (Kd.R_below (Kd.R_elderB (Kd.R_below HO_21.out bll) gb424 (Nat.le_of_eq hg.symm)) hb); have n2_ := Aside0.mk (below_step (bel) hb); have n3_ := Aside0.mk (hbox); have n4_ := Aside0.mk ((by rw [hg]; exact bsz : w.heap.size ≤ gb424)); have n5_ := Aside0.mk ((by rw [hg]; exact bsz : w.heap.size ≤ gb424)); clear HO_8; clear HO_21; clear HB; have HO_8 := n0_; have HO_21 := n1_; have HB := n2_; have BK424 := n3_; have GW424 := n4_; have GE424 := n5_; clear n0_ n1_ n2_ n3_ n4_ n5_; clear hb hbox hg; have hcz11_0 := cl0 BK424.out; have hfz11_0 := blk_frozen BK424.out 0; have hcz12_1 := cl1 BK424.out; have hfz12_1 := blk_frozen BK424.out 1; have hcz13_2 := cl2 BK424.out; have hfz13_2 := blk_frozen BK424.out 2))
                go_roundg k1
                case measure => have := HK1.out; omega
                case rel => exact ⟨(x8_1), (false), (wrap64 (x23_1 + 1)), rfS, rfS, H', ⟨by have := HK1.out; omega⟩, ⟨by (with_reducible repeat (first | apply Kd.R_alloc | apply Kd.R_drewN | apply Kd.R_drew)); exact Kd.R_mono (Kd.R_far (p := ⟨gb424, 2, none⟩) (Kd.R_far (p := ⟨gb424, 1, none⟩) (Kd.R_far (p := ⟨gb424, 0, none⟩) (Kd.R_types HO_8.out BK424.out (by decide)) (fun _ hk => hk.2) (.int .i64 ((rd_T47 t417 x23_1).f0))) (fun _ hk => hk.2) (.int .i64 ((rd_T47 t417 x23_1).f1))) (fun _ hk => hk.2) (.string ((rd_T47 t417 x23_1).f2))) (fun _ hk => trivial)⟩, ⟨by (with_reducible repeat (first | apply Kd.R_alloc | apply Kd.R_drewN | apply Kd.R_drew)); exact Kd.R_mono (Kd.R_far (p := ⟨gb424, 2, none⟩) (Kd.R_far (p := ⟨gb424, 1, none⟩) (Kd.R_far (p := ⟨gb424, 0, none⟩) (Kd.R_mono HO_21.out (fun k_ hk => (⟨hk, hk.2⟩ : _ ∧ k_ ≠ gb424))) (fun _ hk => hk.2) (.int .i64 ((rd_T47 t417 x23_1).f0))) (fun _ hk => hk.2) (.int .i64 ((rd_T47 t417 x23_1).f1))) (fun _ hk => hk.2) (.string ((rd_T47 t417 x23_1).f2))) (fun _ hk => trivial)⟩, ⟨bel⟩⟩
              · rw [if_neg c9] at H
                have c9b0 : decide (128 ≤ ((rd_T47 t417 x23_1).f0)) = false := decide_eq_false c9
                clear c9
                by_cases c14 : ((rd_T47 t417 x23_1).f0) ≥ 2
                · rw [if_pos c14] at H
                  have c14b0 : decide (2 ≤ ((rd_T47 t417 x23_1).f0)) = true := decide_eq_true c14
                  clear c14
                  by_cases c15 : x8_1.length < 5864062014805
                  · rw [if_pos c15] at H
                    have LMc15 := Aside0.mk c15
                    clear c15
                    obtain ⟨y425, hy425⟩ : ∃ y_ : List (S78), y_ = (x8_1 ++ [(⟨(rd_T47 t417 x23_1).f0, (rd_T47 t417 x23_1).f2⟩ : S78)]) := ⟨_, rfl⟩
                    replace H : (sub_Get.l0 k1 y425 x9_1 t417 (t417.length : Int) (wrap64 (x23_1 + 1))) = some (r1, r2, r3) := by first | (rw [hy425]; with_reducible exact H) | (have H2_ := (Option.bind_some _ _).symm.trans H; rw [hy425]; with_reducible exact H2_) | (have H2_ := (Option.bind_some _ _).symm.trans H; with_reducible exact H2_) | with_reducible exact H | (rw [hy425]; exact H) | exact H
                    have Ny425 := Aside0.mk hy425
                    clear hy425
                    have H' := Aside0.mk H
                    clear H
                    have p423 : 0 ≤ (x23_1 : Int) := odt
                    have q423 : x23_1 < (t417.length : Int) := odt
                    obtain ⟨ad423, e423, hx423_0, hx423_1, hx423_2⟩ := at_T47 (Kd.R_reads' HO_21.out).2.2 x23_1 p423 q423
                    cases e423
                    replace p423 := eq_true p423
                    replace q423 := eq_true q423
                    go_wp2_with (first | ((with_reducible refine gate_dst (N := 11) rfl ?_); refine box_event ?hg (N := 11) ?hd (cs := #[.int .i64 0, .int .i64 0, .string (⟨#[]⟩ : ByteArray)]) (t := 47) ?hr ?_; (case hd => rfl); (case hg => rfl); (case hr => first | (go_simp; done) | (go_simp; rfl)); intro gb424 hg w16 hbox hb; have n0_ := Aside0.mk (Kd.R_below (Kd.R_below HO_8.out bll) hb); have n1_ := Aside0.mk (Kd.R_below (Kd.R_elderB (Kd.R_below HO_21.out bll) gb424 (Nat.le_of_eq hg.symm)) hb); have n2_ := Aside0.mk (below_step (bel) hb); have n3_ := Aside0.mk (hbox); have n4_ := Aside0.mk ((by rw [hg]; exact bsz : w.heap.size ≤ gb424)); have n5_ := Aside0.mk ((by rw [hg]; exact bsz : w.heap.size ≤ gb424)); clear HO_8; clear HO_21; clear HB; have HO_8 := n0_; have HO_21 := n1_; have HB := n2_; have BK424 := n3_; have GW424 := n4_; have GE424 := n5_; clear n0_ n1_ n2_ n3_ n4_ n5_; clear hb hbox hg; have hcz17_0 := cl0 BK424.out; have hfz17_0 := blk_frozen BK424.out 0; have hcz18_1 := cl1 BK424.out; have hfz18_1 := blk_frozen BK424.out 1; have hcz19_2 := cl2 BK424.out; have hfz19_2 := blk_frozen BK424.out 2) | ((with_reducible refine gate_builtin (b := .append) (xs := #[.tmp 35, .tmp 41]) rfl ?_); at_builtin; refine Kd.R_append k78 (w0 := w) w.heap.size rfl (.tmp 35) (.tmp 41) 48 78 (.agg #[(.int .i64 0), (.string ⟨#[]⟩)]) 24 rfl Try.underlying48 info78 rfl (by decide) (by omega) u8 x8_1 (⟨(rd_T47 t417 x23_1).f0, (rd_T47 t417 x23_1).f2⟩ : S78) [.int .i64 ((rd_T47 t417 x23_1).f0), .string ((rd_T47 t417 x23_1).f2)] (fun _ => True) (fun _ => False) rfl (by first | (go_simp; done) | (go_simp; rfl)) ?aP (fun _ hk => hk.elim) ?aF ?aO ?aB ?aS ?aL ?_; (case aP => exact k78_mkM _ _ _ (⟨(rd_T47 t417 x23_1).f0, (rd_T47 t417 x23_1).f2⟩ : S78)); (case aB => exact (bel)); (case aF => exact (fun _ _ => trivial)); (case aO => exact (by (with_reducible repeat (first | apply Kd.R_alloc | apply Kd.R_drewN | apply Kd.R_drew)); exact Kd.R_mono (Kd.R_far (p := ⟨gb424, 2, none⟩) (Kd.R_far (p := ⟨gb424, 1, none⟩) (Kd.R_far (p := ⟨gb424, 0, none⟩) (Kd.R_types HO_8.out BK424.out (by decide)) (fun _ hk => hk.2) (.int .i64 ((rd_T47 t417 x23_1).f0))) (fun _ hk => hk.2) (.int .i64 ((rd_T47 t417 x23_1).f1))) (fun _ hk => hk.2) (.string ((rd_T47 t417 x23_1).f2))) (fun _ hk => trivial))); (case aS => exact bsz); (case aL => have := LMc15.out; omega); intro v426 w20 ho hb hg hat; rw [← Ny425.out] at ho; have n0_ := Aside0.mk (Kd.R_over' (by (with_reducible repeat (first | apply Kd.R_alloc | apply Kd.R_drewN | apply Kd.R_drew)); exact (Kd.R_mono (Kd.R_far (p := ⟨gb424, 2, none⟩) (Kd.R_far (p := ⟨gb424, 1, none⟩) (Kd.R_far (p := ⟨gb424, 0, none⟩) (Kd.R_mono HO_21.out (fun k_ hk => (⟨hk, hk.2⟩ : _ ∧ k_ ≠ gb424))) (fun _ hk => hk.2) (.int .i64 ((rd_T47 t417 x23_1).f0))) (fun _ hk => hk.2) (.int .i64 ((rd_T47 t417 x23_1).f1))) (fun _ hk => hk.2) (.string ((rd_T47 t417 x23_1).f2))) (fun _ h_ => h_.1))) (Kd.R_typed (by (with_reducible repeat (first | apply Kd.R_alloc | apply Kd.R_drewN | apply Kd.R_drew)); exact (Kd.R_mono (Kd.R_far (p := ⟨gb424, 2, none⟩) (Kd.R_far (p := ⟨gb424, 1, none⟩) (Kd.R_far (p := ⟨gb424, 0, none⟩) (Kd.R_types HO_8.out BK424.out (by decide)) (fun _ hk => hk.2) (.int .i64 ((rd_T47 t417 x23_1).f0))) (fun _ hk => hk.2) (.int .i64 ((rd_T47 t417 x23_1).f1))) (fun _ hk => hk.2) (.string ((rd_T47 t417 x23_1).f2))) (fun _ h_ => h_.1)))) (by decide) hg); have n1_ := Aside0.mk (blk_grown (g := gb424) (o := .cells #[.int .i64 ((rd_T47 t417 x23_1).f0), .int .i64 ((rd_T47 t417 x23_1).f1), .string ((rd_T47 t417 x23_1).f2)] 47 (0, 0)) (blk) hg (Kd.R_ne HO_8.out BK424.out (by decide))); have n2_ := Aside0.mk (hb); have n3_ := Aside0.mk (ho); clear HO_21; clear BK424; clear HB; clear HO_8; have HO_21 := n0_; have BK424 := n1_; have HB := n2_; have HO427 := n3_; clear n0_ n1_ n2_ n3_; clear ho hb hg hat))
                    go_roundg k1
                    case measure => have := HK1.out; omega
                    case rel => exact ⟨(y425), (x9_1), (wrap64 (x23_1 + 1)), rfS, rfS, H', ⟨by have := HK1.out; omega⟩, ⟨Kd.R_below HO427.out bll⟩, ⟨by (with_reducible repeat (first | apply Kd.R_alloc | apply Kd.R_drewN | apply Kd.R_drew)); exact Kd.R_mono HO_21.out (fun _ hk => trivial)⟩, ⟨bel⟩⟩
                  · rw [if_neg c15] at H
                    exact absurd H (by simp)
                · rw [if_neg c14] at H
                  have c14b0 : decide (2 ≤ ((rd_T47 t417 x23_1).f0)) = false := decide_eq_false c14
                  clear c14
                  have H' := Aside0.mk H
                  clear H
                  have p423 : 0 ≤ (x23_1 : Int) := odt
                  have q423 : x23_1 < (t417.length : Int) := odt
                  obtain ⟨ad423, e423, hx423_0, hx423_1, hx423_2⟩ := at_T47 (Kd.R_reads' HO_21.out).2.2 x23_1 p423 q423
                  cases e423
                  replace p423 := eq_true p423
                  replace q423 := eq_true q423
                  go_wp2_with (first | ((with_reducible refine gate_dst (N := 11) rfl ?_); refine box_event ?hg (N := 11) ?hd (cs := #[.int .i64 0, .int .i64 0, .string (⟨#[]⟩ : ByteArray)]) (t := 47) ?hr ?_; (case hd => rfl); (case hg => rfl); (case hr => first | (go_simp; done) | (go_simp; rfl)); intro gb424 hg w21 hbox hb; have n0_ := Aside0.mk (Kd.R_below (Kd.R_below HO_8.out bll) hb); have n1_ := Aside0.mk (Kd.R_below (Kd.R_elderB (Kd.R_below HO_21.out bll) gb424 (Nat.le_of_eq hg.symm)) hb); have n2_ := Aside0.mk (below_step (bel) hb); have n3_ := Aside0.mk (hbox); have n4_ := Aside0.mk ((by rw [hg]; exact bsz : w.heap.size ≤ gb424)); have n5_ := Aside0.mk ((by rw [hg]; exact bsz : w.heap.size ≤ gb424)); clear HO_8; clear HO_21; clear HB; have HO_8 := n0_; have HO_21 := n1_; have HB := n2_; have BK424 := n3_; have GW424 := n4_; have GE424 := n5_; clear n0_ n1_ n2_ n3_ n4_ n5_; clear hb hbox hg; have hcz22_0 := cl0 BK424.out; have hfz22_0 := blk_frozen BK424.out 0; have hcz23_1 := cl1 BK424.out; have hfz23_1 := blk_frozen BK424.out 1; have hcz24_2 := cl2 BK424.out; have hfz24_2 := blk_frozen BK424.out 2))
                  go_roundg k1
                  case measure => have := HK1.out; omega
                  case rel => exact ⟨(x8_1), (x9_1), (wrap64 (x23_1 + 1)), rfS, rfS, H', ⟨by have := HK1.out; omega⟩, ⟨by (with_reducible repeat (first | apply Kd.R_alloc | apply Kd.R_drewN | apply Kd.R_drew)); exact Kd.R_mono (Kd.R_far (p := ⟨gb424, 2, none⟩) (Kd.R_far (p := ⟨gb424, 1, none⟩) (Kd.R_far (p := ⟨gb424, 0, none⟩) (Kd.R_types HO_8.out BK424.out (by decide)) (fun _ hk => hk.2) (.int .i64 ((rd_T47 t417 x23_1).f0))) (fun _ hk => hk.2) (.int .i64 ((rd_T47 t417 x23_1).f1))) (fun _ hk => hk.2) (.string ((rd_T47 t417 x23_1).f2))) (fun _ hk => trivial)⟩, ⟨by (with_reducible repeat (first | apply Kd.R_alloc | apply Kd.R_drewN | apply Kd.R_drew)); exact Kd.R_mono (Kd.R_far (p := ⟨gb424, 2, none⟩) (Kd.R_far (p := ⟨gb424, 1, none⟩) (Kd.R_far (p := ⟨gb424, 0, none⟩) (Kd.R_mono HO_21.out (fun k_ hk => (⟨hk, hk.2⟩ : _ ∧ k_ ≠ gb424))) (fun _ hk => hk.2) (.int .i64 ((rd_T47 t417 x23_1).f0))) (fun _ hk => hk.2) (.int .i64 ((rd_T47 t417 x23_1).f1))) (fun _ hk => hk.2) (.string ((rd_T47 t417 x23_1).f2))) (fun _ hk => trivial)⟩, ⟨bel⟩⟩
            · rw [if_neg c8] at H
              exact absurd H (by simp)
          · rw [if_neg c7] at H
            exact absurd H (by simp)
        · rw [if_neg c6] at H
          have c6b0 : decide (x23_1 < (t417.length : Int)) = false := decide_eq_false c6
          clear c6
          replace H := Option.bind_eq_some_iff.mp H
          obtain ⟨t422, A250, H⟩ := H
          replace H : (if t422 > 200 then (some (([] : List (S78)), false, 10)) else (some (x8_1, x9_1, 0))) = some (r1, r2, r3) := H
          have A25 := Aside0.mk A250
          clear A250
          by_cases c26 : t422 > 200
          · rw [if_pos c26] at H
            have c26b0 : decide (200 < t422) = true := decide_eq_true c26
            clear c26
            simp only [Option.some.injEq, Prod.mk.injEq] at H
            obtain ⟨rfl, rfl, rfl⟩ := H
            obtain ⟨Ao27, co27, eo27⟩ := Kd.R_slice HO_8.out
            subst eo27
            go_wp2_with (first | ((with_reducible refine gate_callee (f := 50) rfl ?_); refine goesL_ (some 45) rfl rfl Try.func50 (by kernel_rfl) rfl #[.slice Ao27 x8_1.length co27] rfl gAr ?_; (with_reducible refine (msg_Bytes.calls k1 _ _ x8_1 t422 _ ?side1 ?side2 A25.out).mono ?_); (case side1 => repeat (first | exact (Kd.R_reads' HO_8.out).2.2 | (with_reducible refine Kd.C_alloc ?_ _) | (with_reducible refine Kd.C_drewN ?_ _) | (with_reducible refine Kd.C_drew ?_))); (case side2 => exact (Kd.R_reads' HO_8.out).2.1); rintro e w28 ⟨rfl, hb⟩; refine ⟨_, rfl, ?_⟩; have n0_ := Aside0.mk (Kd.R_below (Kd.R_below HO_8.out bll) hb); have n1_ := Aside0.mk (Kd.R_below (Kd.R_below HO_21.out bll) hb); have n2_ := Aside0.mk (below_step (bel) hb); clear HO_8; clear HO_21; clear HB; have HO_8 := n0_; have HO_21 := n1_; have HB := n2_; clear n0_ n1_ n2_; (try clear hb)))
            go_ret3
            exact ⟨_, rtE, by first | exact Kd.R_nil _ _ _ _ _ | exact Kd.N_nil _ _ _ _ _ | exact Kd.V_nil _ _ _ _ _ | exact Kd.Q_nil _ _ _ _ _ | exact Kd.S_nil _ _ _ _ _, bel⟩
          · rw [if_neg c26] at H
            have c26b0 : decide (200 < t422) = false := decide_eq_false c26
            clear c26
            simp only [Option.some.injEq, Prod.mk.injEq] at H
            obtain ⟨rfl, rfl, rfl⟩ := H
            obtain ⟨Ao29, co29, eo29⟩ := Kd.R_slice HO_8.out
            subst eo29
            go_wp2_with (first | ((with_reducible refine gate_callee (f := 50) rfl ?_); refine goesL_ (some 45) rfl rfl Try.func50 (by kernel_rfl) rfl #[.slice Ao29 x8_1.length co29] rfl gAr ?_; (with_reducible refine (msg_Bytes.calls k1 _ _ x8_1 t422 _ ?side1 ?side2 A25.out).mono ?_); (case side1 => repeat (first | exact (Kd.R_reads' HO_8.out).2.2 | (with_reducible refine Kd.C_alloc ?_ _) | (with_reducible refine Kd.C_drewN ?_ _) | (with_reducible refine Kd.C_drew ?_))); (case side2 => exact (Kd.R_reads' HO_8.out).2.1); rintro e w30 ⟨rfl, hb⟩; refine ⟨_, rfl, ?_⟩; have n0_ := Aside0.mk (Kd.R_below (Kd.R_below HO_8.out bll) hb); have n1_ := Aside0.mk (Kd.R_below (Kd.R_below HO_21.out bll) hb); have n2_ := Aside0.mk (below_step (bel) hb); clear HO_8; clear HO_21; clear HB; have HO_8 := n0_; have HO_21 := n1_; have HB := n2_; clear n0_ n1_ n2_; (try clear hb)))
            go_ret3
            exact ⟨_, rtE, by (with_reducible repeat (first | apply Kd.R_alloc | apply Kd.R_drewN | apply Kd.R_drew)); exact HO_8.out, bel⟩
  · rw [if_neg c3] at H
    have c3b0 : (t419 == 0) = false := beq_eq_false_iff_ne.mpr c3
    have c3b1 : (t419 != 0) = true := bne_iff_ne.mpr c3
    simp only [Option.some.injEq, Prod.mk.injEq] at H
    obtain ⟨rfl, rfl, rfl⟩ := H
    go_enter Try.func33, Try.ntmps33
    go_wp2_with (first | ((with_reducible refine gate_callee (f := 18) rfl ?_); refine goesL_ (some 14) rfl rfl Try.func18 (by kernel_rfl) rfl #[.string a0, .int .i64 0] rfl gAr ?_; (with_reducible refine (frame_Split.calls k a0 0 t417 t418 t419 _ A2.out).mono ?_); rintro e w31 ⟨v420, rfl, ho0, hb⟩; refine ⟨_, rfl, ?_⟩; have n0_ := Aside0.mk (Kd.R_lower ho0 bsz); have n1_ := Aside0.mk (below_step (bel) hb); clear HB; have HO421 := n0_; have HB := n1_; clear n0_ n1_; (try clear hb); (try clear ho0)))
    go_ret3
    exact ⟨_, rtE, by first | exact Kd.R_nil _ _ _ _ _ | exact Kd.N_nil _ _ _ _ _ | exact Kd.V_nil _ _ _ _ _ | exact Kd.Q_nil _ _ _ _ _ | exact Kd.S_nil _ _ _ _ _, bel⟩

/-! ### roadbooklaw19_awake: function 30 -/
def roadbooklaw19_awake.f (k : Nat)  : Option (Bool) := (sub_Get.f k (⟨#[0, 2, 1, 97, 1, 0]⟩ : ByteArray)).bind fun bt428 => ((sub_Get.f k (⟨#[128, 0]⟩ : ByteArray)).bind fun bt433 => (if bt428.2.2 = 0 then (if bt428.2.1 = true then (if (bt428.1.length : Int) = 1 then (if 0 < (bt428.1.length : Int) then (if (((rd_T78 bt428.1 0).f0) == 2 && ((((rd_T78 bt428.1 0).f1).toList) == ([97] : List UInt8))) = true then (if bt433.2.2 = 0 then (some (!bt433.2.1)) else (some false)) else (some false)) else (none)) else (some false)) else (some false)) else (some false)))
theorem roadbooklaw19_awake.mono : ∀ k, LeO (roadbooklaw19_awake.f k ) (roadbooklaw19_awake.f (k + 1) ) := by
  intro  k
  unfold roadbooklaw19_awake.f
  repeat' first
      | (with_reducible exact sub_Get.mono _ _)
      | (with_reducible exact LeO.refl _)
      | (with_reducible exact LeO.none _)
      | (with_reducible refine LeO.ite ?_ ?_)
      | (with_reducible refine LeO.bind ?_ (fun _ => ?_))
      | exact sub_Get.mono _ _
      | exact LeO.none _
      | refine LeO.ite ?_ ?_
      | refine LeO.bind ?_ (fun _ => ?_)
set_option maxHeartbeats 8000000 in
set_option maxRecDepth 100000 in
theorem roadbooklaw19_awake.calls (k : Nat)  (r : Bool) (w : World) (h : roadbooklaw19_awake.f k  = some r) :
    Calls Try.prog 30 #[] w fun e w' => e = .returned (.bool r) ∧ Below w.heap.size w w' := by
  have hu78 := Try.underlying78
  have HB := Aside0.mk (Below.refl w.heap.size w)
  have H : ((sub_Get.f k (⟨#[0, 2, 1, 97, 1, 0]⟩ : ByteArray)).bind fun bt428 => ((sub_Get.f k (⟨#[128, 0]⟩ : ByteArray)).bind fun bt433 => (if bt428.2.2 = 0 then (if bt428.2.1 = true then (if (bt428.1.length : Int) = 1 then (if 0 < (bt428.1.length : Int) then (if (((rd_T78 bt428.1 0).f0) == 2 && ((((rd_T78 bt428.1 0).f1).toList) == ([97] : List UInt8))) = true then (if bt433.2.2 = 0 then (some (!bt433.2.1)) else (some false)) else (some false)) else (none)) else (some false)) else (some false)) else (some false)))) = some r := h
  clear h
  replace H := Option.bind_eq_some_iff.mp H
  obtain ⟨⟨t428, t429, t430⟩, A10, H⟩ := H
  replace H : ((sub_Get.f k (⟨#[128, 0]⟩ : ByteArray)).bind fun bt433 => (if t430 = 0 then (if t429 = true then (if (t428.length : Int) = 1 then (if 0 < (t428.length : Int) then (if (((rd_T78 t428 0).f0) == 2 && ((((rd_T78 t428 0).f1).toList) == ([97] : List UInt8))) = true then (if bt433.2.2 = 0 then (some (!bt433.2.1)) else (some false)) else (some false)) else (none)) else (some false)) else (some false)) else (some false))) = some r := H
  have A1 := Aside0.mk A10
  clear A10
  replace H := Option.bind_eq_some_iff.mp H
  obtain ⟨⟨t433, t434, t435⟩, A20, H⟩ := H
  replace H : (if t430 = 0 then (if t429 = true then (if (t428.length : Int) = 1 then (if 0 < (t428.length : Int) then (if (((rd_T78 t428 0).f0) == 2 && ((((rd_T78 t428 0).f1).toList) == ([97] : List UInt8))) = true then (if t435 = 0 then (some (!t434)) else (some false)) else (some false)) else (none)) else (some false)) else (some false)) else (some false)) = some r := H
  have A2 := Aside0.mk A20
  clear A20
  by_cases c3 : t430 = 0
  · rw [if_pos c3] at H
    have c3b0 : (t430 == 0) = true := beq_iff_eq.mpr c3
    have c3b1 : (t430 != 0) = false := bne_eq_false_iff_eq.mpr c3
    clear c3
    by_cases c4 : t429 = true
    · subst c4
      have H1 : (if (t428.length : Int) = 1 then (if 0 < (t428.length : Int) then (if (((rd_T78 t428 0).f0) == 2 && ((((rd_T78 t428 0).f1).toList) == ([97] : List UInt8))) = true then (if t435 = 0 then (some (!t434)) else (some false)) else (some false)) else (none)) else (some false)) = some r := by rw [if_pos rfl] at H; exact H
      clear H
      have H := H1
      clear H1
      by_cases c5 : (t428.length : Int) = 1
      · rw [if_pos c5] at H
        have c5b0 : ((t428.length : Int) == 1) = true := beq_iff_eq.mpr c5
        have c5b1 : ((t428.length : Int) != 1) = false := bne_eq_false_iff_eq.mpr c5
        clear c5
        by_cases c6 : 0 < (t428.length : Int)
        · rw [if_pos c6] at H
          have c6b0 : decide (0 < (t428.length : Int)) = true := decide_eq_true c6
          have c6b1 : decide (0 < t428.length) = true := decide_eq_true (by omega)
          clear c6
          by_cases c7 : (((rd_T78 t428 0).f0) == 2 && ((((rd_T78 t428 0).f1).toList) == ([97] : List UInt8))) = true
          · rw [if_pos c7] at H
            have c7b0 : (((rd_T78 t428 0).f0) == 2 && ((((rd_T78 t428 0).f1).toList) == ([97] : List UInt8))) = true := c7
            (try (have c7b1 : decide (((rd_T78 t428 0).f0) = 2 && ((((rd_T78 t428 0).f1).toList) == ([97] : List UInt8))) = true := by simpa using c7))
            (try (have c7b2 : (((rd_T78 t428 0).f0) == 2 && ((((rd_T78 t428 0).f1).toList) == ([97] : List UInt8))) = true := by simpa using c7))
            clear c7
            by_cases c8 : t435 = 0
            · rw [if_pos c8] at H
              have c8b0 : (t435 == 0) = true := beq_iff_eq.mpr c8
              have c8b1 : (t435 != 0) = false := bne_eq_false_iff_eq.mpr c8
              clear c8
              obtain rfl := Option.some.inj H
              go_enter Try.func30, Try.ntmps30
              go_wp2_with (first | ((with_reducible refine gate_callee (f := 33) rfl ?_); refine goesL_ (some 8) rfl rfl Try.func33 (by kernel_rfl) rfl #[.string (⟨#[0, 2, 1, 97, 1, 0]⟩ : ByteArray)] rfl gAr ?_; (with_reducible refine (sub_Get.calls k (⟨#[0, 2, 1, 97, 1, 0]⟩ : ByteArray) t428 true t430 _ A1.out).mono ?_); rintro e w9 ⟨v431, rfl, ho0, hb⟩; refine ⟨_, rfl, ?_⟩; have n0_ := Aside0.mk (Kd.R_lower ho0 bsz); have n1_ := Aside0.mk (below_step (bel) hb); clear HB; have HO432 := n0_; have HB := n1_; clear n0_ n1_; (try clear hb); (try clear ho0)) | ((with_reducible refine gate_callee (f := 33) rfl ?_); refine goesL_ (some 13) rfl rfl Try.func33 (by kernel_rfl) rfl #[.string (⟨#[128, 0]⟩ : ByteArray)] rfl gAr ?_; (with_reducible refine (sub_Get.calls k (⟨#[128, 0]⟩ : ByteArray) t433 t434 t435 _ A2.out).mono ?_); rintro e w10 ⟨v436, rfl, ho0, hb⟩; refine ⟨_, rfl, ?_⟩; have n0_ := Aside0.mk (Kd.R_elder' (Kd.R_below HO432.out bll) (Kd.R_base ho0) hb); have n1_ := Aside0.mk (Kd.R_lower (Kd.R_new' ho0 (Kd.R_lt (Kd.R_below HO432.out bll))) bsz); have n2_ := Aside0.mk (below_step (bel) hb); clear HO432; clear HB; have HO432 := n0_; have HO437 := n1_; have HB := n2_; clear n0_ n1_ n2_; (try clear hb); (try clear ho0); obtain ⟨Ao11, co11, eo11⟩ := Kd.R_slice HO432.out; subst eo11; have p438 : 0 ≤ (0 : Int) := (by omega); have q438 : 0 < (t428.length : Int) := odt; obtain ⟨ad438, e438, hx438_0, hx438_1⟩ := at_T78 (Kd.R_reads' HO432.out).2.2 0 p438 q438; cases e438; have qi438 : (0 < t428.length) = True := eq_true (by omega); (try rw [show ((0 : Int)).toNat = 0 from rfl] at hx438_0); (try rw [show 0 * 2 = 0 from rfl] at hx438_0); (try rw [Addr.add_zero'] at hx438_0); (try rw [show ((0 : Int)).toNat = 0 from rfl] at hx438_1); (try rw [show 0 * 2 = 0 from rfl] at hx438_1); (try rw [Addr.add_zero'] at hx438_1); replace p438 := eq_true p438; replace q438 := eq_true q438))
              go_ret
              exact ⟨rtE, bel⟩
            · rw [if_neg c8] at H
              have c8b0 : (t435 == 0) = false := beq_eq_false_iff_ne.mpr c8
              have c8b1 : (t435 != 0) = true := bne_iff_ne.mpr c8
              obtain rfl := Option.some.inj H
              go_enter Try.func30, Try.ntmps30
              go_wp2_with (first | ((with_reducible refine gate_callee (f := 33) rfl ?_); refine goesL_ (some 8) rfl rfl Try.func33 (by kernel_rfl) rfl #[.string (⟨#[0, 2, 1, 97, 1, 0]⟩ : ByteArray)] rfl gAr ?_; (with_reducible refine (sub_Get.calls k (⟨#[0, 2, 1, 97, 1, 0]⟩ : ByteArray) t428 true t430 _ A1.out).mono ?_); rintro e w12 ⟨v431, rfl, ho0, hb⟩; refine ⟨_, rfl, ?_⟩; have n0_ := Aside0.mk (Kd.R_lower ho0 bsz); have n1_ := Aside0.mk (below_step (bel) hb); clear HB; have HO432 := n0_; have HB := n1_; clear n0_ n1_; (try clear hb); (try clear ho0)) | ((with_reducible refine gate_callee (f := 33) rfl ?_); refine goesL_ (some 13) rfl rfl Try.func33 (by kernel_rfl) rfl #[.string (⟨#[128, 0]⟩ : ByteArray)] rfl gAr ?_; (with_reducible refine (sub_Get.calls k (⟨#[128, 0]⟩ : ByteArray) t433 t434 t435 _ A2.out).mono ?_); rintro e w13 ⟨v436, rfl, ho0, hb⟩; refine ⟨_, rfl, ?_⟩; have n0_ := Aside0.mk (Kd.R_elder' (Kd.R_below HO432.out bll) (Kd.R_base ho0) hb); have n1_ := Aside0.mk (Kd.R_lower (Kd.R_new' ho0 (Kd.R_lt (Kd.R_below HO432.out bll))) bsz); have n2_ := Aside0.mk (below_step (bel) hb); clear HO432; clear HB; have HO432 := n0_; have HO437 := n1_; have HB := n2_; clear n0_ n1_ n2_; (try clear hb); (try clear ho0); obtain ⟨Ao14, co14, eo14⟩ := Kd.R_slice HO432.out; subst eo14; have p438 : 0 ≤ (0 : Int) := (by omega); have q438 : 0 < (t428.length : Int) := odt; obtain ⟨ad438, e438, hx438_0, hx438_1⟩ := at_T78 (Kd.R_reads' HO432.out).2.2 0 p438 q438; cases e438; have qi438 : (0 < t428.length) = True := eq_true (by omega); (try rw [show ((0 : Int)).toNat = 0 from rfl] at hx438_0); (try rw [show 0 * 2 = 0 from rfl] at hx438_0); (try rw [Addr.add_zero'] at hx438_0); (try rw [show ((0 : Int)).toNat = 0 from rfl] at hx438_1); (try rw [show 0 * 2 = 0 from rfl] at hx438_1); (try rw [Addr.add_zero'] at hx438_1); replace p438 := eq_true p438; replace q438 := eq_true q438))
              go_ret
              exact ⟨rtE, bel⟩
          · rw [if_neg c7] at H
            have c7b0 : (((rd_T78 t428 0).f0) == 2 && ((((rd_T78 t428 0).f1).toList) == ([97] : List UInt8))) = false := by simpa using c7
            (try (have c7b1 : decide (((rd_T78 t428 0).f0) = 2 && ((((rd_T78 t428 0).f1).toList) == ([97] : List UInt8))) = false := by simpa using c7))
            (try (have c7b2 : (((rd_T78 t428 0).f0) == 2 && ((((rd_T78 t428 0).f1).toList) == ([97] : List UInt8))) = false := by simpa using c7))
            (try (have c7b3 : ¬ (((rd_T78 t428 0).f0) = 2 && ((((rd_T78 t428 0).f1).toList) == ([97] : List UInt8))) := by simpa using c7))
            clear c7
            obtain rfl := Option.some.inj H
            go_enter Try.func30, Try.ntmps30
            go_wp2_with (first | ((with_reducible refine gate_callee (f := 33) rfl ?_); refine goesL_ (some 8) rfl rfl Try.func33 (by kernel_rfl) rfl #[.string (⟨#[0, 2, 1, 97, 1, 0]⟩ : ByteArray)] rfl gAr ?_; (with_reducible refine (sub_Get.calls k (⟨#[0, 2, 1, 97, 1, 0]⟩ : ByteArray) t428 true t430 _ A1.out).mono ?_); rintro e w15 ⟨v431, rfl, ho0, hb⟩; refine ⟨_, rfl, ?_⟩; have n0_ := Aside0.mk (Kd.R_lower ho0 bsz); have n1_ := Aside0.mk (below_step (bel) hb); clear HB; have HO432 := n0_; have HB := n1_; clear n0_ n1_; (try clear hb); (try clear ho0)) | ((with_reducible refine gate_callee (f := 33) rfl ?_); refine goesL_ (some 13) rfl rfl Try.func33 (by kernel_rfl) rfl #[.string (⟨#[128, 0]⟩ : ByteArray)] rfl gAr ?_; (with_reducible refine (sub_Get.calls k (⟨#[128, 0]⟩ : ByteArray) t433 t434 t435 _ A2.out).mono ?_); rintro e w16 ⟨v436, rfl, ho0, hb⟩; refine ⟨_, rfl, ?_⟩; have n0_ := Aside0.mk (Kd.R_elder' (Kd.R_below HO432.out bll) (Kd.R_base ho0) hb); have n1_ := Aside0.mk (Kd.R_lower (Kd.R_new' ho0 (Kd.R_lt (Kd.R_below HO432.out bll))) bsz); have n2_ := Aside0.mk (below_step (bel) hb); clear HO432; clear HB; have HO432 := n0_; have HO437 := n1_; have HB := n2_; clear n0_ n1_ n2_; (try clear hb); (try clear ho0); obtain ⟨Ao17, co17, eo17⟩ := Kd.R_slice HO432.out; subst eo17; have p438 : 0 ≤ (0 : Int) := (by omega); have q438 : 0 < (t428.length : Int) := odt; obtain ⟨ad438, e438, hx438_0, hx438_1⟩ := at_T78 (Kd.R_reads' HO432.out).2.2 0 p438 q438; cases e438; have qi438 : (0 < t428.length) = True := eq_true (by omega); (try rw [show ((0 : Int)).toNat = 0 from rfl] at hx438_0); (try rw [show 0 * 2 = 0 from rfl] at hx438_0); (try rw [Addr.add_zero'] at hx438_0); (try rw [show ((0 : Int)).toNat = 0 from rfl] at hx438_1); (try rw [show 0 * 2 = 0 from rfl] at hx438_1); (try rw [Addr.add_zero'] at hx438_1); replace p438 := eq_true p438; replace q438 := eq_true q438))
            go_ret
            exact ⟨rtE, bel⟩
        · rw [if_neg c6] at H
          exact absurd H (by simp)
      · rw [if_neg c5] at H
        have c5b0 : ((t428.length : Int) == 1) = false := beq_eq_false_iff_ne.mpr c5
        have c5b1 : ((t428.length : Int) != 1) = true := bne_iff_ne.mpr c5
        obtain rfl := Option.some.inj H
        go_enter Try.func30, Try.ntmps30
        go_wp2_with (first | ((with_reducible refine gate_callee (f := 33) rfl ?_); refine goesL_ (some 8) rfl rfl Try.func33 (by kernel_rfl) rfl #[.string (⟨#[0, 2, 1, 97, 1, 0]⟩ : ByteArray)] rfl gAr ?_; (with_reducible refine (sub_Get.calls k (⟨#[0, 2, 1, 97, 1, 0]⟩ : ByteArray) t428 true t430 _ A1.out).mono ?_); rintro e w18 ⟨v431, rfl, ho0, hb⟩; refine ⟨_, rfl, ?_⟩; have n0_ := Aside0.mk (Kd.R_lower ho0 bsz); have n1_ := Aside0.mk (below_step (bel) hb); clear HB; have HO432 := n0_; have HB := n1_; clear n0_ n1_; (try clear hb); (try clear ho0)) | ((with_reducible refine gate_callee (f := 33) rfl ?_); refine goesL_ (some 13) rfl rfl Try.func33 (by kernel_rfl) rfl #[.string (⟨#[128, 0]⟩ : ByteArray)] rfl gAr ?_; (with_reducible refine (sub_Get.calls k (⟨#[128, 0]⟩ : ByteArray) t433 t434 t435 _ A2.out).mono ?_); rintro e w19 ⟨v436, rfl, ho0, hb⟩; refine ⟨_, rfl, ?_⟩; have n0_ := Aside0.mk (Kd.R_elder' (Kd.R_below HO432.out bll) (Kd.R_base ho0) hb); have n1_ := Aside0.mk (Kd.R_lower (Kd.R_new' ho0 (Kd.R_lt (Kd.R_below HO432.out bll))) bsz); have n2_ := Aside0.mk (below_step (bel) hb); clear HO432; clear HB; have HO432 := n0_; have HO437 := n1_; have HB := n2_; clear n0_ n1_ n2_; (try clear hb); (try clear ho0); obtain ⟨Ao20, co20, eo20⟩ := Kd.R_slice HO432.out; subst eo20))
        go_ret
        exact ⟨rtE, bel⟩
    · replace c4 := Bool.eq_false_iff.mpr c4
      subst c4
      have H1 : (some false) = some r := by rw [if_neg (show ¬ (false = true) by decide)] at H; exact H
      clear H
      have H := H1
      clear H1
      obtain rfl := Option.some.inj H
      go_enter Try.func30, Try.ntmps30
      go_wp2_with (first | ((with_reducible refine gate_callee (f := 33) rfl ?_); refine goesL_ (some 8) rfl rfl Try.func33 (by kernel_rfl) rfl #[.string (⟨#[0, 2, 1, 97, 1, 0]⟩ : ByteArray)] rfl gAr ?_; (with_reducible refine (sub_Get.calls k (⟨#[0, 2, 1, 97, 1, 0]⟩ : ByteArray) t428 false t430 _ A1.out).mono ?_); rintro e w21 ⟨v431, rfl, ho0, hb⟩; refine ⟨_, rfl, ?_⟩; have n0_ := Aside0.mk (Kd.R_lower ho0 bsz); have n1_ := Aside0.mk (below_step (bel) hb); clear HB; have HO432 := n0_; have HB := n1_; clear n0_ n1_; (try clear hb); (try clear ho0)) | ((with_reducible refine gate_callee (f := 33) rfl ?_); refine goesL_ (some 13) rfl rfl Try.func33 (by kernel_rfl) rfl #[.string (⟨#[128, 0]⟩ : ByteArray)] rfl gAr ?_; (with_reducible refine (sub_Get.calls k (⟨#[128, 0]⟩ : ByteArray) t433 t434 t435 _ A2.out).mono ?_); rintro e w22 ⟨v436, rfl, ho0, hb⟩; refine ⟨_, rfl, ?_⟩; have n0_ := Aside0.mk (Kd.R_elder' (Kd.R_below HO432.out bll) (Kd.R_base ho0) hb); have n1_ := Aside0.mk (Kd.R_lower (Kd.R_new' ho0 (Kd.R_lt (Kd.R_below HO432.out bll))) bsz); have n2_ := Aside0.mk (below_step (bel) hb); clear HO432; clear HB; have HO432 := n0_; have HO437 := n1_; have HB := n2_; clear n0_ n1_ n2_; (try clear hb); (try clear ho0)))
      go_ret
      exact ⟨rtE, bel⟩
  · rw [if_neg c3] at H
    have c3b0 : (t430 == 0) = false := beq_eq_false_iff_ne.mpr c3
    have c3b1 : (t430 != 0) = true := bne_iff_ne.mpr c3
    obtain rfl := Option.some.inj H
    go_enter Try.func30, Try.ntmps30
    go_wp2_with (first | ((with_reducible refine gate_callee (f := 33) rfl ?_); refine goesL_ (some 8) rfl rfl Try.func33 (by kernel_rfl) rfl #[.string (⟨#[0, 2, 1, 97, 1, 0]⟩ : ByteArray)] rfl gAr ?_; (with_reducible refine (sub_Get.calls k (⟨#[0, 2, 1, 97, 1, 0]⟩ : ByteArray) t428 t429 t430 _ A1.out).mono ?_); rintro e w23 ⟨v431, rfl, ho0, hb⟩; refine ⟨_, rfl, ?_⟩; have n0_ := Aside0.mk (Kd.R_lower ho0 bsz); have n1_ := Aside0.mk (below_step (bel) hb); clear HB; have HO432 := n0_; have HB := n1_; clear n0_ n1_; (try clear hb); (try clear ho0)) | ((with_reducible refine gate_callee (f := 33) rfl ?_); refine goesL_ (some 13) rfl rfl Try.func33 (by kernel_rfl) rfl #[.string (⟨#[128, 0]⟩ : ByteArray)] rfl gAr ?_; (with_reducible refine (sub_Get.calls k (⟨#[128, 0]⟩ : ByteArray) t433 t434 t435 _ A2.out).mono ?_); rintro e w24 ⟨v436, rfl, ho0, hb⟩; refine ⟨_, rfl, ?_⟩; have n0_ := Aside0.mk (Kd.R_elder' (Kd.R_below HO432.out bll) (Kd.R_base ho0) hb); have n1_ := Aside0.mk (Kd.R_lower (Kd.R_new' ho0 (Kd.R_lt (Kd.R_below HO432.out bll))) bsz); have n2_ := Aside0.mk (below_step (bel) hb); clear HO432; clear HB; have HO432 := n0_; have HO437 := n1_; have HB := n2_; clear n0_ n1_ n2_; (try clear hb); (try clear ho0)))
    go_ret
    exact ⟨rtE, bel⟩

/-! ### msg_Subs: function 52 -/
def msg_Subs.l0 : Nat → Int → Int → List (S78) → Int → Int → Option (Bool)
  | 0, _, _, _, _, _ => none
  | k + 1, x1, x2, x9, x10, x11 => if x11 < x10 then (if 0 ≤ x11 then (if x11 < (x9.length : Int) then (if ((rd_T78 x9 x11).f0) < x1 then (some false) else (if ((rd_T78 x9 x11).f0) > x2 then (some false) else (if (((rd_T78 x9 x11).f1).size : Int) > 255 then (some false) else (msg_Subs.l0 k x1 x2 x9 x10 (wrap64 (x11 + 1)))))) else (none)) else (none)) else (some true)
def msg_Subs.f (k : Nat) (l0 : List (S78)) (a1 : Int) (a2 : Int) : Option (Bool) := msg_Subs.l0 k a1 a2 l0 (l0.length : Int) 0
theorem msg_Subs.mono_l : ∀ k, (∀ y0 y1 y2 y3 y4, LeO (msg_Subs.l0 k y0 y1 y2 y3 y4) (msg_Subs.l0 (k + 1) y0 y1 y2 y3 y4))
  | 0 => fun _ _ _ _ _ r h => by simp [msg_Subs.l0] at h
  | k + 1 => by
    have ih0 := msg_Subs.mono_l k
    · intro y0 y1 y2 y3 y4
      unfold msg_Subs.l0
      repeat' first
      | (with_reducible exact ih0 _ _ _ _ _)
      | (with_reducible exact LeO.refl _)
      | (with_reducible exact LeO.none _)
      | (with_reducible refine LeO.ite ?_ ?_)
      | (with_reducible refine LeO.bind ?_ (fun _ => ?_))
      | exact ih0 _ _ _ _ _
      | exact LeO.none _
      | refine LeO.ite ?_ ?_
      | refine LeO.bind ?_ (fun _ => ?_)
theorem msg_Subs.mono : ∀ a0 a1 a2 k, LeO (msg_Subs.f k a0 a1 a2) (msg_Subs.f (k + 1) a0 a1 a2) := by
  intro a0 a1 a2 k
  have ih0 := msg_Subs.mono_l k
  unfold msg_Subs.f
  repeat' first
      | (with_reducible exact ih0 _ _ _ _ _)
      | (with_reducible exact LeO.refl _)
      | (with_reducible exact LeO.none _)
      | (with_reducible refine LeO.ite ?_ ?_)
      | (with_reducible refine LeO.bind ?_ (fun _ => ?_))
      | exact ih0 _ _ _ _ _
      | exact LeO.none _
      | refine LeO.ite ?_ ?_
      | refine LeO.bind ?_ (fun _ => ?_)
set_option maxHeartbeats 8000000 in
set_option maxRecDepth 100000 in
theorem msg_Subs.calls (k : Nat) (A0 : Option Addr) (c0 : Nat) (l0 : List (S78)) (a1 : Int) (a2 : Int) (r : Bool) (w : World) (hr0 : Kd.C k78 w A0 l0.length l0) (hc0 : l0.length ≤ c0) (h : msg_Subs.f k l0 a1 a2 = some r) :
    Calls Try.prog 52 #[.slice A0 l0.length c0, .int .i64 a1, .int .i64 a2] w fun e w' => e = .returned (.bool r) ∧ Below w.heap.size w w' := by
  have hu78 := Try.underlying78
  have HR0 := Aside0.mk hr0
  have HC0 := Aside0.mk hc0
  clear hr0 hc0
  have HB := Aside0.mk (Below.refl w.heap.size w)
  have H : (msg_Subs.l0 k a1 a2 l0 (l0.length : Int) 0) = some r := h
  clear h
  have H' := Aside0.mk H
  clear H
  go_enter Try.func52, Try.ntmps52
  go_wp2
  go_loopg [11] k (fun kq v11 w' => ∃ (x11_1 : Int), v11 = .int .i64 x11_1 ∧ Aside0 (msg_Subs.l0 kq a1 a2 l0 (l0.length : Int) x11_1 = some r) ∧ Aside0 (kq ≤ k) ∧ Aside0 (Below w.heap.size w w'))
  case atStart => exact ⟨(0), rfS, H', ⟨Nat.le_refl _⟩, ⟨bel⟩⟩
  case round =>
    clear H'
    obtain ⟨x11_1, rfl, HA, HK1, HB⟩ := hrel
    cases gk with
    | zero => exact absurd HA.out (by simp [msg_Subs.l0])
    | succ k1 =>
      have H := HA.out
      clear HA
      simp only [msg_Subs.l0] at H
      by_cases c4 : x11_1 < (l0.length : Int)
      · rw [if_pos c4] at H
        have c4b0 : decide (x11_1 < (l0.length : Int)) = true := decide_eq_true c4
        clear c4
        by_cases c5 : 0 ≤ x11_1
        · rw [if_pos c5] at H
          have c5b0 : decide (0 ≤ x11_1) = true := decide_eq_true c5
          clear c5
          by_cases c6 : x11_1 < (l0.length : Int)
          · rw [if_pos c6] at H
            have c6b0 : decide (x11_1 < (l0.length : Int)) = true := decide_eq_true c6
            clear c6
            by_cases c7 : ((rd_T78 l0 x11_1).f0) < a1
            · rw [if_pos c7] at H
              have c7b0 : decide (((rd_T78 l0 x11_1).f0) < a1) = true := decide_eq_true c7
              clear c7
              obtain rfl := Option.some.inj H
              have p439 : 0 ≤ (x11_1 : Int) := odt
              have q439 : x11_1 < (l0.length : Int) := odt
              obtain ⟨ad439, e439, hx439_0, hx439_1⟩ := at_T78 HR0.out x11_1 p439 q439
              cases e439
              replace hx439_0 := (HB.out.cell (World.block_lt_of_cell? w _ hx439_0)).trans hx439_0
              replace hx439_1 := (HB.out.cell (World.block_lt_of_cell? w _ hx439_1)).trans hx439_1
              replace p439 := eq_true p439
              replace q439 := eq_true q439
              go_wp2_with (first | ((with_reducible refine gate_dst (N := 8) rfl ?_); refine box_event ?hg (N := 8) ?hd (cs := #[.int .i64 0, .string (⟨#[]⟩ : ByteArray)]) (t := 78) ?hr ?_; (case hd => rfl); (case hg => rfl); (case hr => first | (go_simp; done) | (go_simp; rfl)); intro gb440 hg w8 hbox hb; have n0_ := Aside0.mk (below_step (bel) hb); have n1_ := Aside0.mk (hbox); have n2_ := Aside0.mk ((by rw [hg]; exact bsz : w.heap.size ≤ gb440)); have n3_ := Aside0.mk ((by rw [hg]; exact bsz : w.heap.size ≤ gb440)); clear HB; have HB := n0_; have BK440 := n1_; have GW440 := n2_; have GE440 := n3_; clear n0_ n1_ n2_ n3_; clear hb hbox hg; have hcz9_0 := cl0 BK440.out; have hfz9_0 := blk_frozen BK440.out 0; have hcz10_1 := cl1 BK440.out; have hfz10_1 := blk_frozen BK440.out 1))
              go_ret
              exact ⟨rtE, bel⟩
            · rw [if_neg c7] at H
              have c7b0 : decide (((rd_T78 l0 x11_1).f0) < a1) = false := decide_eq_false c7
              clear c7
              by_cases c11 : ((rd_T78 l0 x11_1).f0) > a2
              · rw [if_pos c11] at H
                have c11b0 : decide (a2 < ((rd_T78 l0 x11_1).f0)) = true := decide_eq_true c11
                clear c11
                obtain rfl := Option.some.inj H
                have p439 : 0 ≤ (x11_1 : Int) := odt
                have q439 : x11_1 < (l0.length : Int) := odt
                obtain ⟨ad439, e439, hx439_0, hx439_1⟩ := at_T78 HR0.out x11_1 p439 q439
                cases e439
                replace hx439_0 := (HB.out.cell (World.block_lt_of_cell? w _ hx439_0)).trans hx439_0
                replace hx439_1 := (HB.out.cell (World.block_lt_of_cell? w _ hx439_1)).trans hx439_1
                replace p439 := eq_true p439
                replace q439 := eq_true q439
                go_wp2_with (first | ((with_reducible refine gate_dst (N := 8) rfl ?_); refine box_event ?hg (N := 8) ?hd (cs := #[.int .i64 0, .string (⟨#[]⟩ : ByteArray)]) (t := 78) ?hr ?_; (case hd => rfl); (case hg => rfl); (case hr => first | (go_simp; done) | (go_simp; rfl)); intro gb440 hg w12 hbox hb; have n0_ := Aside0.mk (below_step (bel) hb); have n1_ := Aside0.mk (hbox); have n2_ := Aside0.mk ((by rw [hg]; exact bsz : w.heap.size ≤ gb440)); have n3_ := Aside0.mk ((by rw [hg]; exact bsz : w.heap.size ≤ gb440)); clear HB; have HB := n0_; have BK440 := n1_; have GW440 := n2_; have GE440 := n3_; clear n0_ n1_ n2_ n3_; clear hb hbox hg; have hcz13_0 := cl0 BK440.out; have hfz13_0 := blk_frozen BK440.out 0; have hcz14_1 := cl1 BK440.out; have hfz14_1 := blk_frozen BK440.out 1))
                go_ret
                exact ⟨rtE, bel⟩
              · rw [if_neg c11] at H
                have c11b0 : decide (a2 < ((rd_T78 l0 x11_1).f0)) = false := decide_eq_false c11
                clear c11
                by_cases c15 : (((rd_T78 l0 x11_1).f1).size : Int) > 255
                · rw [if_pos c15] at H
                  have c15b0 : decide (255 < (((rd_T78 l0 x11_1).f1).size : Int)) = true := decide_eq_true c15
                  have c15b1 : decide (255 < ((rd_T78 l0 x11_1).f1).size) = true := decide_eq_true (by omega)
                  clear c15
                  obtain rfl := Option.some.inj H
                  have p439 : 0 ≤ (x11_1 : Int) := odt
                  have q439 : x11_1 < (l0.length : Int) := odt
                  obtain ⟨ad439, e439, hx439_0, hx439_1⟩ := at_T78 HR0.out x11_1 p439 q439
                  cases e439
                  replace hx439_0 := (HB.out.cell (World.block_lt_of_cell? w _ hx439_0)).trans hx439_0
                  replace hx439_1 := (HB.out.cell (World.block_lt_of_cell? w _ hx439_1)).trans hx439_1
                  replace p439 := eq_true p439
                  replace q439 := eq_true q439
                  go_wp2_with (first | ((with_reducible refine gate_dst (N := 8) rfl ?_); refine box_event ?hg (N := 8) ?hd (cs := #[.int .i64 0, .string (⟨#[]⟩ : ByteArray)]) (t := 78) ?hr ?_; (case hd => rfl); (case hg => rfl); (case hr => first | (go_simp; done) | (go_simp; rfl)); intro gb440 hg w16 hbox hb; have n0_ := Aside0.mk (below_step (bel) hb); have n1_ := Aside0.mk (hbox); have n2_ := Aside0.mk ((by rw [hg]; exact bsz : w.heap.size ≤ gb440)); have n3_ := Aside0.mk ((by rw [hg]; exact bsz : w.heap.size ≤ gb440)); clear HB; have HB := n0_; have BK440 := n1_; have GW440 := n2_; have GE440 := n3_; clear n0_ n1_ n2_ n3_; clear hb hbox hg; have hcz17_0 := cl0 BK440.out; have hfz17_0 := blk_frozen BK440.out 0; have hcz18_1 := cl1 BK440.out; have hfz18_1 := blk_frozen BK440.out 1))
                  go_ret
                  exact ⟨rtE, bel⟩
                · rw [if_neg c15] at H
                  have c15b0 : decide (255 < (((rd_T78 l0 x11_1).f1).size : Int)) = false := decide_eq_false c15
                  have c15b1 : decide (255 < ((rd_T78 l0 x11_1).f1).size) = false := decide_eq_false (by omega)
                  clear c15
                  have H' := Aside0.mk H
                  clear H
                  have p439 : 0 ≤ (x11_1 : Int) := odt
                  have q439 : x11_1 < (l0.length : Int) := odt
                  obtain ⟨ad439, e439, hx439_0, hx439_1⟩ := at_T78 HR0.out x11_1 p439 q439
                  cases e439
                  replace hx439_0 := (HB.out.cell (World.block_lt_of_cell? w _ hx439_0)).trans hx439_0
                  replace hx439_1 := (HB.out.cell (World.block_lt_of_cell? w _ hx439_1)).trans hx439_1
                  replace p439 := eq_true p439
                  replace q439 := eq_true q439
                  go_wp2_with (first | ((with_reducible refine gate_dst (N := 8) rfl ?_); refine box_event ?hg (N := 8) ?hd (cs := #[.int .i64 0, .string (⟨#[]⟩ : ByteArray)]) (t := 78) ?hr ?_; (case hd => rfl); (case hg => rfl); (case hr => first | (go_simp; done) | (go_simp; rfl)); intro gb440 hg w19 hbox hb; have n0_ := Aside0.mk (below_step (bel) hb); have n1_ := Aside0.mk (hbox); have n2_ := Aside0.mk ((by rw [hg]; exact bsz : w.heap.size ≤ gb440)); have n3_ := Aside0.mk ((by rw [hg]; exact bsz : w.heap.size ≤ gb440)); clear HB; have HB := n0_; have BK440 := n1_; have GW440 := n2_; have GE440 := n3_; clear n0_ n1_ n2_ n3_; clear hb hbox hg; have hcz20_0 := cl0 BK440.out; have hfz20_0 := blk_frozen BK440.out 0; have hcz21_1 := cl1 BK440.out; have hfz21_1 := blk_frozen BK440.out 1))
                  go_roundg k1
                  case measure => have := HK1.out; omega
                  case rel => exact ⟨(wrap64 (x11_1 + 1)), rfS, H', ⟨by have := HK1.out; omega⟩, ⟨bel⟩⟩
          · rw [if_neg c6] at H
            exact absurd H (by simp)
        · rw [if_neg c5] at H
          exact absurd H (by simp)
      · rw [if_neg c4] at H
        have c4b0 : decide (x11_1 < (l0.length : Int)) = false := decide_eq_false c4
        clear c4
        obtain rfl := Option.some.inj H
        go_wp2
        go_ret
        exact ⟨rtE, bel⟩

/-! ### sub_Right: function 35 -/
def sub_Right.f (k : Nat) (l0 : List (S78)) : Option (Bool) := (msg_Subs.f k l0 2 127).bind fun t441 => (if t441 = true then ((msg_Bytes.f k l0).bind fun t442 => (some (decide (t442 ≤ 200)))) else (some false))
theorem sub_Right.mono : ∀ a0 k, LeO (sub_Right.f k a0) (sub_Right.f (k + 1) a0) := by
  intro a0 k
  unfold sub_Right.f
  repeat' first
      | (with_reducible exact msg_Bytes.mono _ _)
      | (with_reducible exact msg_Subs.mono _ _ _ _)
      | (with_reducible exact LeO.refl _)
      | (with_reducible exact LeO.none _)
      | (with_reducible refine LeO.ite ?_ ?_)
      | (with_reducible refine LeO.bind ?_ (fun _ => ?_))
      | exact msg_Bytes.mono _ _
      | exact msg_Subs.mono _ _ _ _
      | exact LeO.none _
      | refine LeO.ite ?_ ?_
      | refine LeO.bind ?_ (fun _ => ?_)
set_option maxHeartbeats 8000000 in
set_option maxRecDepth 100000 in
theorem sub_Right.calls (k : Nat) (A0 : Option Addr) (c0 : Nat) (l0 : List (S78)) (r : Bool) (w : World) (hr0 : Kd.C k78 w A0 l0.length l0) (hc0 : l0.length ≤ c0) (h : sub_Right.f k l0 = some r) :
    Calls Try.prog 35 #[.slice A0 l0.length c0] w fun e w' => e = .returned (.bool r) ∧ Below w.heap.size w w' := by
  have HR0 := Aside0.mk hr0
  have HC0 := Aside0.mk hc0
  clear hr0 hc0
  have HB := Aside0.mk (Below.refl w.heap.size w)
  have H : ((msg_Subs.f k l0 2 127).bind fun t441 => (if t441 = true then ((msg_Bytes.f k l0).bind fun t442 => (some (decide (t442 ≤ 200)))) else (some false))) = some r := h
  clear h
  replace H := Option.bind_eq_some_iff.mp H
  obtain ⟨t441, A20, H⟩ := H
  replace H : (if t441 = true then ((msg_Bytes.f k l0).bind fun t442 => (some (decide (t442 ≤ 200)))) else (some false)) = some r := H
  have A2 := Aside0.mk A20
  clear A20
  by_cases c3 : t441 = true
  · subst c3
    have H1 : ((msg_Bytes.f k l0).bind fun t442 => (some (decide (t442 ≤ 200)))) = some r := by rw [if_pos rfl] at H; exact H
    clear H
    have H := H1
    clear H1
    replace H := Option.bind_eq_some_iff.mp H
    obtain ⟨t442, A40, H⟩ := H
    replace H : (some (decide (t442 ≤ 200))) = some r := H
    have A4 := Aside0.mk A40
    clear A40
    obtain rfl := Option.some.inj H
    go_enter Try.func35, Try.ntmps35
    go_wp2_with (first | ((with_reducible refine gate_callee (f := 52) rfl ?_); refine goesL_ (some 4) rfl rfl Try.func52 (by kernel_rfl) rfl #[.slice A0 l0.length c0, .int .i64 2, .int .i64 127] rfl gAr ?_; (with_reducible refine (msg_Subs.calls k _ _ l0 2 127 true _ ?side1 ?side2 A2.out).mono ?_); (case side1 => repeat (first | exact HR0.out | (with_reducible refine Kd.C_alloc ?_ _) | (with_reducible refine Kd.C_drewN ?_ _) | (with_reducible refine Kd.C_drew ?_))); (case side2 => exact HC0.out); rintro e w5 ⟨rfl, hb⟩; refine ⟨_, rfl, ?_⟩; have n0_ := Aside0.mk (below_step (bel) hb); clear HB; have HB := n0_; clear n0_; (try clear hb)) | (go_at_call 50; (with_reducible refine (msg_Bytes.calls k _ _ l0 t442 _ ?side1 ?side2 A4.out).mono ?_); (case side1 => repeat (first | exact (Kd.C_below HR0.out HB.out) | (with_reducible refine Kd.C_alloc ?_ _) | (with_reducible refine Kd.C_drewN ?_ _) | (with_reducible refine Kd.C_drew ?_))); (case side2 => exact HC0.out); rintro e w6 ⟨rfl, hb⟩; have n0_ := Aside0.mk (below_step (bel) hb); clear HB; have HB := n0_; clear n0_; (try clear hb)))
    go_ret
    exact ⟨rtE, bel⟩
  · replace c3 := Bool.eq_false_iff.mpr c3
    subst c3
    have H1 : (some false) = some r := by rw [if_neg (show ¬ (false = true) by decide)] at H; exact H
    clear H
    have H := H1
    clear H1
    obtain rfl := Option.some.inj H
    go_enter Try.func35, Try.ntmps35
    go_wp2_with (first | ((with_reducible refine gate_callee (f := 52) rfl ?_); refine goesL_ (some 4) rfl rfl Try.func52 (by kernel_rfl) rfl #[.slice A0 l0.length c0, .int .i64 2, .int .i64 127] rfl gAr ?_; (with_reducible refine (msg_Subs.calls k _ _ l0 2 127 false _ ?side1 ?side2 A2.out).mono ?_); (case side1 => repeat (first | exact HR0.out | (with_reducible refine Kd.C_alloc ?_ _) | (with_reducible refine Kd.C_drewN ?_ _) | (with_reducible refine Kd.C_drew ?_))); (case side2 => exact HC0.out); rintro e w7 ⟨rfl, hb⟩; refine ⟨_, rfl, ?_⟩; have n0_ := Aside0.mk (below_step (bel) hb); clear HB; have HB := n0_; clear n0_; (try clear hb)))
    go_ret
    exact ⟨rtE, bel⟩

/-! ### sub_Put: function 31 -/
def sub_Put.l0 : Nat → List Int → List (S78) → Int → Int → Option (ByteArray × Bool)
  | 0, _, _, _, _ => none
  | k + 1, x4, x12, x13, x14 => if x14 < x13 then (if 0 ≤ x14 then (if x14 < (x12.length : Int) then ((frame_Put.f ((rd_T78 x12 x14).f0) ((rd_T78 x12 x14).f1)).bind fun bt446 => (if x4.length + bt446.1.size < 140737488355328 then (sub_Put.l0 k (x4 ++ bytesOf bt446.1) x12 x13 (wrap64 (x14 + 1))) else (none))) else (none)) else (none)) else (some (strOfNums x4, true))
def sub_Put.f (k : Nat) (l0 : List (S78)) : Option (ByteArray × Bool) := (sub_Right.f k l0).bind fun t443 => (if t443 = true then (sub_Put.l0 k ([] : List Int) l0 (l0.length : Int) 0) else (some ((⟨#[]⟩ : ByteArray), false)))
theorem sub_Put.mono_l : ∀ k, (∀ y0 y1 y2 y3, LeO (sub_Put.l0 k y0 y1 y2 y3) (sub_Put.l0 (k + 1) y0 y1 y2 y3))
  | 0 => fun _ _ _ _ r h => by simp [sub_Put.l0] at h
  | k + 1 => by
    have ih0 := sub_Put.mono_l k
    · intro y0 y1 y2 y3
      unfold sub_Put.l0
      repeat' first
      | (with_reducible exact ih0 _ _ _ _)
      | (with_reducible exact sub_Right.mono _ _)
      | (with_reducible exact LeO.refl _)
      | (with_reducible exact LeO.none _)
      | (with_reducible refine LeO.ite ?_ ?_)
      | (with_reducible refine LeO.bind ?_ (fun _ => ?_))
      | exact ih0 _ _ _ _
      | exact sub_Right.mono _ _
      | exact LeO.none _
      | refine LeO.ite ?_ ?_
      | refine LeO.bind ?_ (fun _ => ?_)
theorem sub_Put.mono : ∀ a0 k, LeO (sub_Put.f k a0) (sub_Put.f (k + 1) a0) := by
  intro a0 k
  have ih0 := sub_Put.mono_l k
  unfold sub_Put.f
  repeat' first
      | (with_reducible exact ih0 _ _ _ _)
      | (with_reducible exact sub_Right.mono _ _)
      | (with_reducible exact LeO.refl _)
      | (with_reducible exact LeO.none _)
      | (with_reducible refine LeO.ite ?_ ?_)
      | (with_reducible refine LeO.bind ?_ (fun _ => ?_))
      | exact ih0 _ _ _ _
      | exact sub_Right.mono _ _
      | exact LeO.none _
      | refine LeO.ite ?_ ?_
      | refine LeO.bind ?_ (fun _ => ?_)
set_option maxHeartbeats 8000000 in
set_option maxRecDepth 100000 in
theorem sub_Put.calls (k : Nat) (A0 : Option Addr) (c0 : Nat) (l0 : List (S78)) (r1 : ByteArray) (r2 : Bool) (w : World) (hr0 : Kd.C k78 w A0 l0.length l0) (hc0 : l0.length ≤ c0) (h : sub_Put.f k l0 = some (r1, r2)) :
    Calls Try.prog 31 #[.slice A0 l0.length c0] w fun e w' => e = .returned (.tuple #[.string r1, .bool r2]) ∧ Below w.heap.size w w' := by
  have hu78 := Try.underlying78
  have HR0 := Aside0.mk hr0
  have HC0 := Aside0.mk hc0
  clear hr0 hc0
  have HB := Aside0.mk (Below.refl w.heap.size w)
  have H : ((sub_Right.f k l0).bind fun t443 => (if t443 = true then (sub_Put.l0 k ([] : List Int) l0 (l0.length : Int) 0) else (some ((⟨#[]⟩ : ByteArray), false)))) = some (r1, r2) := h
  clear h
  replace H := Option.bind_eq_some_iff.mp H
  obtain ⟨t443, A20, H⟩ := H
  replace H : (if t443 = true then (sub_Put.l0 k ([] : List Int) l0 (l0.length : Int) 0) else (some ((⟨#[]⟩ : ByteArray), false))) = some (r1, r2) := H
  have A2 := Aside0.mk A20
  clear A20
  by_cases c3 : t443 = true
  · subst c3
    have H1 : (sub_Put.l0 k ([] : List Int) l0 (l0.length : Int) 0) = some (r1, r2) := by rw [if_pos rfl] at H; exact H
    clear H
    have H := H1
    clear H1
    have H' := Aside0.mk H
    clear H
    go_enter Try.func31, Try.ntmps31
    go_wp2_with (first | ((with_reducible refine gate_callee (f := 35) rfl ?_); refine goesL_ (some 10) rfl rfl Try.func35 (by kernel_rfl) rfl #[.slice A0 l0.length c0] rfl gAr ?_; (with_reducible refine (sub_Right.calls k _ _ l0 true _ ?side1 ?side2 A2.out).mono ?_); (case side1 => repeat (first | exact HR0.out | (with_reducible refine Kd.C_alloc ?_ _) | (with_reducible refine Kd.C_drewN ?_ _) | (with_reducible refine Kd.C_drew ?_))); (case side2 => exact HC0.out); rintro e w4 ⟨rfl, hb⟩; refine ⟨_, rfl, ?_⟩; have n0_ := Aside0.mk (below_step (bel) hb); clear HB; have HB := n0_; clear n0_; (try clear hb)))
    go_loopg [4, 14] k (fun kq v4 v14 w' => ∃ (x4_1 : List Int) (x14_1 : Int), v14 = .int .i64 x14_1 ∧ Aside0 (sub_Put.l0 kq x4_1 l0 (l0.length : Int) x14_1 = some (r1, r2)) ∧ Aside0 (kq ≤ k) ∧ Aside0 (Kd.R (Kd.int .u8) 5 w' w.heap.size (fun _ => True) v4 x4_1) ∧ Aside0 (Below w.heap.size w w'))
    case atStart => exact ⟨(([] : List Int)), (0), rfS, H', ⟨Nat.le_refl _⟩, ⟨by first | exact Kd.R_nil _ _ _ _ _ | exact Kd.N_nil _ _ _ _ _ | exact Kd.V_nil _ _ _ _ _ | exact Kd.Q_nil _ _ _ _ _ | exact Kd.S_nil _ _ _ _ _⟩, ⟨bel⟩⟩
    case round =>
      clear H'
      try clear c3
      obtain ⟨x4_1, x14_1, rfl, HA, HK1, HO_4, HB⟩ := hrel
      cases gk with
      | zero => exact absurd HA.out (by simp [sub_Put.l0])
      | succ k1 =>
        have H := HA.out
        clear HA
        simp only [sub_Put.l0] at H
        by_cases c5 : x14_1 < (l0.length : Int)
        · rw [if_pos c5] at H
          have c5b0 : decide (x14_1 < (l0.length : Int)) = true := decide_eq_true c5
          clear c5
          by_cases c6 : 0 ≤ x14_1
          · rw [if_pos c6] at H
            have c6b0 : decide (0 ≤ x14_1) = true := decide_eq_true c6
            clear c6
            by_cases c7 : x14_1 < (l0.length : Int)
            · rw [if_pos c7] at H
              have c7b0 : decide (x14_1 < (l0.length : Int)) = true := decide_eq_true c7
              clear c7
              replace H := Option.bind_eq_some_iff.mp H
              obtain ⟨⟨t446, t447⟩, A80, H⟩ := H
              replace H : (if x4_1.length + t446.size < 140737488355328 then (sub_Put.l0 k1 (x4_1 ++ bytesOf t446) l0 (l0.length : Int) (wrap64 (x14_1 + 1))) else (none)) = some (r1, r2) := H
              have A8 := Aside0.mk A80
              clear A80
              by_cases c9 : x4_1.length + t446.size < 140737488355328
              · rw [if_pos c9] at H
                have LMc9 := Aside0.mk c9
                clear c9
                obtain ⟨y448, hy448⟩ : ∃ y_ : List Int, y_ = (x4_1 ++ bytesOf t446) := ⟨_, rfl⟩
                replace H : (sub_Put.l0 k1 y448 l0 (l0.length : Int) (wrap64 (x14_1 + 1))) = some (r1, r2) := by first | (rw [hy448]; with_reducible exact H) | (have H2_ := (Option.bind_some _ _).symm.trans H; rw [hy448]; with_reducible exact H2_) | (have H2_ := (Option.bind_some _ _).symm.trans H; with_reducible exact H2_) | with_reducible exact H | (rw [hy448]; exact H) | exact H
                have Ny448 := Aside0.mk hy448
                clear hy448
                have H' := Aside0.mk H
                clear H
                have p444 : 0 ≤ (x14_1 : Int) := odt
                have q444 : x14_1 < (l0.length : Int) := odt
                obtain ⟨ad444, e444, hx444_0, hx444_1⟩ := at_T78 HR0.out x14_1 p444 q444
                cases e444
                replace hx444_0 := (HB.out.cell (World.block_lt_of_cell? w _ hx444_0)).trans hx444_0
                replace hx444_1 := (HB.out.cell (World.block_lt_of_cell? w _ hx444_1)).trans hx444_1
                replace p444 := eq_true p444
                replace q444 := eq_true q444
                go_wp2_with (first | ((with_reducible refine gate_dst (N := 6) rfl ?_); refine box_event ?hg (N := 6) ?hd (cs := #[.int .i64 0, .string (⟨#[]⟩ : ByteArray)]) (t := 78) ?hr ?_; (case hd => rfl); (case hg => rfl); (case hr => first | (go_simp; done) | (go_simp; rfl)); intro gb445 hg w10 hbox hb; have n0_ := Aside0.mk (Kd.R_below (Kd.R_below HO_4.out bll) hb); have n1_ := Aside0.mk (below_step (bel) hb); have n2_ := Aside0.mk (hbox); have n3_ := Aside0.mk ((by rw [hg]; exact bsz : w.heap.size ≤ gb445)); have n4_ := Aside0.mk ((by rw [hg]; exact bsz : w.heap.size ≤ gb445)); clear HO_4; clear HB; have HO_4 := n0_; have HB := n1_; have BK445 := n2_; have GW445 := n3_; have GE445 := n4_; clear n0_ n1_ n2_ n3_ n4_; clear hb hbox hg; have hcz11_0 := cl0 BK445.out; have hfz11_0 := blk_frozen BK445.out 0; have hcz12_1 := cl1 BK445.out; have hfz12_1 := blk_frozen BK445.out 1) | ((with_reducible refine gate_callee (f := 27) rfl ?_); refine goesL_ (some 23) rfl rfl Try.func27 (by kernel_rfl) rfl #[.int .i64 ((rd_T78 l0 x14_1).f0), .string ((rd_T78 l0 x14_1).f1)] rfl gAr ?_; (with_reducible refine (frame_Put.calls ((rd_T78 l0 x14_1).f0) ((rd_T78 l0 x14_1).f1) t446 t447 _ A8.out).mono ?_); rintro e w13 ⟨rfl, hb⟩; refine ⟨_, rfl, ?_⟩; have n0_ := Aside0.mk (Kd.R_below (by (with_reducible repeat (first | apply Kd.R_alloc | apply Kd.R_drewN | apply Kd.R_drew)); exact (Kd.R_mono (Kd.R_far (p := ⟨gb445, 1, none⟩) (Kd.R_far (p := ⟨gb445, 0, none⟩) (Kd.R_types HO_4.out BK445.out (by decide)) (fun _ hk => hk.2) (.int .i64 ((rd_T78 l0 x14_1).f0))) (fun _ hk => hk.2) (.string ((rd_T78 l0 x14_1).f1))) (fun _ h_ => h_.1))) hb); have n1_ := Aside0.mk (blk_below (g := gb445) (o := .cells #[.int .i64 ((rd_T78 l0 x14_1).f0), .string ((rd_T78 l0 x14_1).f1)] 78 (0, 0)) (blk) hb); have n2_ := Aside0.mk (below_step (bel) hb); clear HO_4; clear BK445; clear HB; have HO_4 := n0_; have BK445 := n1_; have HB := n2_; clear n0_ n1_ n2_; (try clear hb)) | (at_builtin; refine print_append_str (w0 := w) w.heap.size rfl (.tmp 26) _ 55 9 5 rfl Try.underlying55 Try.underlying9 info5 u4 x4_1 t446 rfl rfl ?aO ?aB ?aS ?aL ?_; (case aB => exact (bel)); (case aO => exact (Kd.own_of_R (Kd.R_below HO_4.out bll))); (case aS => exact bsz); (case aL => have := LMc9.out; omega); intro v449 w14 ho0 hb hg; have ho := Kd.R_of_own (h1 := fun _ => rfl) (ok := fun _ => True) ho0 (fun _ _ => trivial); clear ho0; have hat := True.intro; rw [← Ny448.out] at ho; change Kd.R (Kd.int .u8) 5 w14 w.heap.size (fun _ => True) v449 y448 at ho; have n0_ := Aside0.mk (blk_grown (blk_below BK445.out bll) hg (Kd.R_ne HO_4.out BK445.out (by decide))); have n1_ := Aside0.mk (hb); have n2_ := Aside0.mk (ho); clear BK445; clear HB; clear HO_4; have BK445 := n0_; have HB := n1_; have HO450 := n2_; clear n0_ n1_ n2_; clear ho hb hg hat))
                go_roundg k1
                case measure => have := HK1.out; omega
                case rel => exact ⟨(y448), (wrap64 (x14_1 + 1)), rfS, H', ⟨by have := HK1.out; omega⟩, ⟨Kd.R_below HO450.out bll⟩, ⟨bel⟩⟩
              · rw [if_neg c9] at H
                exact absurd H (by simp)
            · rw [if_neg c7] at H
              exact absurd H (by simp)
          · rw [if_neg c6] at H
            exact absurd H (by simp)
        · rw [if_neg c5] at H
          have c5b0 : decide (x14_1 < (l0.length : Int)) = false := decide_eq_false c5
          clear c5
          simp only [Option.some.injEq, Prod.mk.injEq] at H
          obtain ⟨rfl, rfl⟩ := H
          have hcv15 := own_string (P := Try.prog) Try.underlying55 Try.underlying5 Try.underlying9 (Kd.own_of_R HO_4.out)
          go_wp2
          go_ret2
          exact ⟨rtE, bel⟩
  · replace c3 := Bool.eq_false_iff.mpr c3
    subst c3
    have H1 : (some ((⟨#[]⟩ : ByteArray), false)) = some (r1, r2) := by rw [if_neg (show ¬ (false = true) by decide)] at H; exact H
    clear H
    have H := H1
    clear H1
    simp only [Option.some.injEq, Prod.mk.injEq] at H
    obtain ⟨rfl, rfl⟩ := H
    go_enter Try.func31, Try.ntmps31
    go_wp2_with (first | ((with_reducible refine gate_callee (f := 35) rfl ?_); refine goesL_ (some 10) rfl rfl Try.func35 (by kernel_rfl) rfl #[.slice A0 l0.length c0] rfl gAr ?_; (with_reducible refine (sub_Right.calls k _ _ l0 false _ ?side1 ?side2 A2.out).mono ?_); (case side1 => repeat (first | exact HR0.out | (with_reducible refine Kd.C_alloc ?_ _) | (with_reducible refine Kd.C_drewN ?_ _) | (with_reducible refine Kd.C_drew ?_))); (case side2 => exact HC0.out); rintro e w16 ⟨rfl, hb⟩; refine ⟨_, rfl, ?_⟩; have n0_ := Aside0.mk (below_step (bel) hb); clear HB; have HB := n0_; clear n0_; (try clear hb)))
    go_ret2
    exact ⟨rtE, bel⟩

/-! ### roadbookref07_Bytes: function 51 -/
def roadbookref07_Bytes.l0 : Nat → List (S78) → Int → Int → Option (Int)
  | 0, _, _, _ => none
  | k + 1, x0, x3, x4 => if x4 < (x0.length : Int) then (if 0 ≤ x4 then (roadbookref07_Bytes.l0 k x0 (wrap64 ((wrap64 (x3 + 2)) + (((rd_T78 x0 x4).f1).size : Int))) (wrap64 (x4 + 1))) else (none)) else (some x3)
def roadbookref07_Bytes.f (k : Nat) (l0 : List (S78)) : Option (Int) := roadbookref07_Bytes.l0 k l0 0 0
theorem roadbookref07_Bytes.mono_l : ∀ k, (∀ y0 y1 y2, LeO (roadbookref07_Bytes.l0 k y0 y1 y2) (roadbookref07_Bytes.l0 (k + 1) y0 y1 y2))
  | 0 => fun _ _ _ r h => by simp [roadbookref07_Bytes.l0] at h
  | k + 1 => by
    have ih0 := roadbookref07_Bytes.mono_l k
    · intro y0 y1 y2
      unfold roadbookref07_Bytes.l0
      repeat' first
      | (with_reducible exact ih0 _ _ _)
      | (with_reducible exact LeO.refl _)
      | (with_reducible exact LeO.none _)
      | (with_reducible refine LeO.ite ?_ ?_)
      | (with_reducible refine LeO.bind ?_ (fun _ => ?_))
      | exact ih0 _ _ _
      | exact LeO.none _
      | refine LeO.ite ?_ ?_
      | refine LeO.bind ?_ (fun _ => ?_)
theorem roadbookref07_Bytes.mono : ∀ a0 k, LeO (roadbookref07_Bytes.f k a0) (roadbookref07_Bytes.f (k + 1) a0) := by
  intro a0 k
  have ih0 := roadbookref07_Bytes.mono_l k
  unfold roadbookref07_Bytes.f
  repeat' first
      | (with_reducible exact ih0 _ _ _)
      | (with_reducible exact LeO.refl _)
      | (with_reducible exact LeO.none _)
      | (with_reducible refine LeO.ite ?_ ?_)
      | (with_reducible refine LeO.bind ?_ (fun _ => ?_))
      | exact ih0 _ _ _
      | exact LeO.none _
      | refine LeO.ite ?_ ?_
      | refine LeO.bind ?_ (fun _ => ?_)
set_option maxHeartbeats 8000000 in
set_option maxRecDepth 100000 in
theorem roadbookref07_Bytes.calls (k : Nat) (A0 : Option Addr) (c0 : Nat) (l0 : List (S78)) (r : Int) (w : World) (hr0 : Kd.C k78 w A0 l0.length l0) (hc0 : l0.length ≤ c0) (h : roadbookref07_Bytes.f k l0 = some r) :
    Calls Try.prog 51 #[.slice A0 l0.length c0] w fun e w' => e = .returned (.int .i64 r) ∧ Drawn0 w w' := by
  have HR0 := Aside0.mk hr0
  have HC0 := Aside0.mk hc0
  clear hr0 hc0
  have H : (roadbookref07_Bytes.l0 k l0 0 0) = some r := h
  clear h
  have H' := Aside0.mk H
  clear H
  go_enter Try.func51, Try.ntmps51
  go_wp2
  go_loopg [3, 4] k (fun kq v3 v4 w' => ∃ (x3_1 : Int) (x4_1 : Int), v3 = .int .i64 x3_1 ∧ v4 = .int .i64 x4_1 ∧ Aside0 (roadbookref07_Bytes.l0 kq l0 x3_1 x4_1 = some r) ∧ Aside0 (kq ≤ k) ∧ Drawn0 w w')
  case atStart => exact ⟨(0), (0), rfS, rfS, H', ⟨Nat.le_refl _⟩, by repeat (first | exact Drawn0.refl _ | apply Drawn0.step)⟩
  case round =>
    clear H'
    obtain ⟨x3_1, x4_1, rfl, rfl, HA, HK1, ⟨m1, rfl⟩⟩ := hrel
    cases gk with
    | zero => exact absurd HA.out (by simp [roadbookref07_Bytes.l0])
    | succ k1 =>
      have H := HA.out
      clear HA
      simp only [roadbookref07_Bytes.l0] at H
      by_cases c2 : x4_1 < (l0.length : Int)
      · rw [if_pos c2] at H
        have c2b0 : decide (x4_1 < (l0.length : Int)) = true := decide_eq_true c2
        clear c2
        by_cases c3 : 0 ≤ x4_1
        · rw [if_pos c3] at H
          have c3b0 : decide (0 ≤ x4_1) = true := decide_eq_true c3
          clear c3
          have H' := Aside0.mk H
          clear H
          have p451 : 0 ≤ (x4_1 : Int) := odt
          have q451 : x4_1 < (l0.length : Int) := odt
          obtain ⟨ad451, e451, hx451_0, hx451_1⟩ := at_T78 HR0.out x4_1 p451 q451
          cases e451
          replace p451 := eq_true p451
          replace q451 := eq_true q451
          go_wp2
          go_roundg k1
          case measure => have := HK1.out; omega
          case rel => exact ⟨(wrap64 ((wrap64 (x3_1 + 2)) + (((rd_T78 l0 x4_1).f1).size : Int))), (wrap64 (x4_1 + 1)), rfS, rfS, H', ⟨by have := HK1.out; omega⟩, by repeat (first | exact Drawn0.refl _ | apply Drawn0.step)⟩
        · rw [if_neg c3] at H
          exact absurd H (by simp)
      · rw [if_neg c2] at H
        have c2b0 : decide (x4_1 < (l0.length : Int)) = false := decide_eq_false c2
        clear c2
        obtain rfl := Option.some.inj H
        go_wp2
        go_ret
        exact ⟨rfS, by repeat (first | exact Drawn0.refl _ | apply Drawn0.step)⟩

end Go.Proofs.Ytjgnpggpgkkknaa.Pr
