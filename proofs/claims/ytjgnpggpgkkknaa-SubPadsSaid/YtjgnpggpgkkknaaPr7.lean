-- Written by wip/tools/xprint.py of this repo over the kit's printer, out of the translation. Lean checks it.
import Derived.Test.YtjgnpggpgkkknaaPr0
namespace Go.Proofs.Ytjgnpggpgkkknaa.Pr
open Go.RowKit Go.Proofs.YtjgnpggpgkkknaaW.PrintWords Go.Proofs.YtjgnpggpgkkknaaW.PrintLast
set_option linter.unusedVariables false
set_option linter.unusedSimpArgs false

/-! ### cursor_New: function 38 -/
def cursor_New.f (a0 : ByteArray) : Option (ByteArray × Int × Int × Bool) := some (a0, 0, (a0.size : Int), false)
set_option maxHeartbeats 8000000 in
set_option maxRecDepth 100000 in
theorem cursor_New.calls (a0 : ByteArray) (r1 : ByteArray) (r2 : Int) (r3 : Int) (r4 : Bool) (w : World) (h : cursor_New.f a0 = some (r1, r2, r3, r4)) :
    Calls Try.prog 38 #[.string a0] w fun e w' => e = .returned (.agg #[.string r1, .int .i64 r2, .int .i64 r3, .bool r4]) ∧ Below w.heap.size w w' := by
  have hu60 := Try.underlying60
  have HB := Aside0.mk (Below.refl w.heap.size w)
  have H : (some (a0, 0, (a0.size : Int), false)) = some (r1, r2, r3, r4) := h
  clear h
  simp only [Option.some.injEq, Prod.mk.injEq] at H
  obtain ⟨rfl, rfl, rfl, rfl⟩ := H
  go_enter Try.func38, Try.ntmps38
  go_wp2_with (first | ((with_reducible refine gate_dst (N := 2) rfl ?_); refine box_event ?hg (N := 2) ?hd (cs := #[.string (⟨#[]⟩ : ByteArray), .int .i64 0, .int .i64 0, .bool false]) (t := 60) ?hr ?_; (case hd => rfl); (case hg => rfl); (case hr => first | (go_simp; done) | (go_simp; rfl)); intro gb121 hg w2 hbox hb; have n0_ := Aside0.mk (below_step (bel) hb); have n1_ := Aside0.mk (hbox); have n2_ := Aside0.mk ((by rw [hg]; exact bsz : w.heap.size ≤ gb121)); have n3_ := Aside0.mk ((by rw [hg]; exact bsz : w.heap.size ≤ gb121)); clear HB; have HB := n0_; have BK121 := n1_; have GW121 := n2_; have GE121 := n3_; clear n0_ n1_ n2_ n3_; clear hb hbox hg; have hcz3_0 := cl0 BK121.out; have hfz3_0 := blk_frozen BK121.out 0; have hcz4_1 := cl1 BK121.out; have hfz4_1 := blk_frozen BK121.out 1; have hcz5_2 := cl2 BK121.out; have hfz5_2 := blk_frozen BK121.out 2; have hcz6_3 := cl3 BK121.out; have hfz6_3 := blk_frozen BK121.out 3))
  refine bodyPost_ret (results_cell_row rfl _ _ gb121 60 #[.string a0, .int .i64 0, .int .i64 (a0.size : Int), .bool false] (0, 0) _ rfl (blk) Try.underlying60 rfl (by kernel_rfl)) rfl ?_
  exact ⟨rtE, bel⟩

/-! ### cursor_step: function 60 -/
def cursor_step.f (a0_0 : ByteArray) (a0_1 : Int) (a0_2 : Int) (a0_3 : Bool) (a1 : Int) : Option (ByteArray × Int × Int × Bool × Bool) := if a0_3 = true then (some (a0_0, a0_1, a0_2, true, false)) else (if a1 < 0 then (some (a0_0, a0_1, a0_2, true, false)) else (if a1 > (wrap64 (a0_2 - a0_1)) then (some (a0_0, a0_1, a0_2, true, false)) else (some (a0_0, wrap64 (a0_1 + a1), a0_2, a0_3, true))))
set_option maxHeartbeats 8000000 in
set_option maxRecDepth 100000 in
theorem cursor_step.calls (a0_0 : ByteArray) (a0_1 : Int) (a0_2 : Int) (a0_3 : Bool) (a1 : Int) (r1 : ByteArray) (r2 : Int) (r3 : Int) (r4 : Bool) (r5 : Bool) (w : World) (h : cursor_step.f a0_0 a0_1 a0_2 a0_3 a1 = some (r1, r2, r3, r4, r5)) :
    Calls Try.prog 60 #[.agg #[.string a0_0, .int .i64 a0_1, .int .i64 a0_2, .bool a0_3], .int .i64 a1] w fun e w' => e = .returned (.tuple #[.agg #[.string r1, .int .i64 r2, .int .i64 r3, .bool r4], .bool r5]) ∧ Below w.heap.size w w' := by
  have hu60 := Try.underlying60
  have HB := Aside0.mk (Below.refl w.heap.size w)
  have H : (if a0_3 = true then (some (a0_0, a0_1, a0_2, true, false)) else (if a1 < 0 then (some (a0_0, a0_1, a0_2, true, false)) else (if a1 > (wrap64 (a0_2 - a0_1)) then (some (a0_0, a0_1, a0_2, true, false)) else (some (a0_0, wrap64 (a0_1 + a1), a0_2, a0_3, true))))) = some (r1, r2, r3, r4, r5) := h
  clear h
  by_cases c3 : a0_3 = true
  · subst c3
    have H1 : (some (a0_0, a0_1, a0_2, true, false)) = some (r1, r2, r3, r4, r5) := by rw [if_pos rfl] at H; exact H
    clear H
    have H := H1
    clear H1
    simp only [Option.some.injEq, Prod.mk.injEq] at H
    obtain ⟨rfl, rfl, rfl, rfl, rfl⟩ := H
    go_enter Try.func60, Try.ntmps60
    go_wp2_with (first | ((with_reducible refine gate_dst (N := 2) rfl ?_); refine box_event ?hg (N := 2) ?hd (cs := #[.string a0_0, .int .i64 a0_1, .int .i64 a0_2, .bool true]) (t := 60) ?hr ?_; (case hd => rfl); (case hg => rfl); (case hr => first | (go_simp; done) | (go_simp; rfl)); intro gb122 hg w4 hbox hb; have n0_ := Aside0.mk (below_step (bel) hb); have n1_ := Aside0.mk (hbox); have n2_ := Aside0.mk ((by rw [hg]; exact bsz : w.heap.size ≤ gb122)); have n3_ := Aside0.mk ((by rw [hg]; exact bsz : w.heap.size ≤ gb122)); clear HB; have HB := n0_; have BK122 := n1_; have GW122 := n2_; have GE122 := n3_; clear n0_ n1_ n2_ n3_; clear hb hbox hg) | ((with_reducible refine gate_dst (N := 4) rfl ?_); refine box_event ?hg (N := 4) ?hd (cs := #[.string (⟨#[]⟩ : ByteArray), .int .i64 0, .int .i64 0, .bool false]) (t := 60) ?hr ?_; (case hd => rfl); (case hg => rfl); (case hr => first | (go_simp; done) | (go_simp; rfl)); intro gb123 hg w5 hbox hb; have n0_ := Aside0.mk (blk_below (blk_below BK122.out bll) hb); have n1_ := Aside0.mk (below_step (bel) hb); have n2_ := Aside0.mk (hbox); have n3_ := Aside0.mk ((by rw [hg]; exact bsz : w.heap.size ≤ gb123)); have n4_ := Aside0.mk ((by rw [hg]; exact bsz : w.heap.size ≤ gb123)); have n5_ := Aside0.mk ((by rw [hg]; exact Nat.ne_of_lt (blk_lt (blk_below BK122.out bll)) : gb122 ≠ gb123)); have n6_ := Aside0.mk ((by rw [hg]; exact Nat.ne_of_gt (blk_lt (blk_below BK122.out bll)) : gb123 ≠ gb122)); clear BK122; clear HB; have BK122 := n0_; have HB := n1_; have BK123 := n2_; have GW123 := n3_; have GE123 := n4_; have NB122_123 := n5_; have NB123_122 := n6_; clear n0_ n1_ n2_ n3_ n4_ n5_ n6_; clear hb hbox hg; have hnb6 := NB122_123.out; have hnc6 := NB123_122.out; have hcz7_3 := cl3 BK122.out; have hfz7_3 := blk_frozen BK122.out 3; have hcz8_0 := cl0 BK122.out; have hcz8_1 := cl1 BK122.out; have hcz8_2 := cl2 BK122.out; have hcz8_3 := cl3 BK122.out; have hfz8_0 := blk_frozen BK122.out 0; have hfz8_1 := blk_frozen BK122.out 1; have hfz8_2 := blk_frozen BK122.out 2; have hfz8_3 := blk_frozen BK122.out 3; have hcz9_0 := cl0 BK123.out; have hfz9_0 := blk_frozen BK123.out 0; have hcz10_1 := cl1 BK123.out; have hfz10_1 := blk_frozen BK123.out 1; have hcz11_2 := cl2 BK123.out; have hfz11_2 := blk_frozen BK123.out 2; have hcz12_3 := cl3 BK123.out; have hfz12_3 := blk_frozen BK123.out 3))
    refine bodyPost_ret (results_ct rfl _ _ gb123 60 #[.string a0_0, .int .i64 a0_1, .int .i64 a0_2, .bool true] (0, 0) _ rfl (blk) Try.underlying60 rfl (by kernel_rfl)) rfl ?_
    exact ⟨rtE, bel⟩
  · replace c3 := Bool.eq_false_iff.mpr c3
    subst c3
    have H1 : (if a1 < 0 then (some (a0_0, a0_1, a0_2, true, false)) else (if a1 > (wrap64 (a0_2 - a0_1)) then (some (a0_0, a0_1, a0_2, true, false)) else (some (a0_0, wrap64 (a0_1 + a1), a0_2, false, true)))) = some (r1, r2, r3, r4, r5) := by rw [if_neg (show ¬ (false = true) by decide)] at H; exact H
    clear H
    have H := H1
    clear H1
    by_cases c13 : a1 < 0
    · rw [if_pos c13] at H
      have c13b0 : decide (a1 < 0) = true := decide_eq_true c13
      clear c13
      simp only [Option.some.injEq, Prod.mk.injEq] at H
      obtain ⟨rfl, rfl, rfl, rfl, rfl⟩ := H
      go_enter Try.func60, Try.ntmps60
      go_wp2_with (first | ((with_reducible refine gate_dst (N := 2) rfl ?_); refine box_event ?hg (N := 2) ?hd (cs := #[.string a0_0, .int .i64 a0_1, .int .i64 a0_2, .bool false]) (t := 60) ?hr ?_; (case hd => rfl); (case hg => rfl); (case hr => first | (go_simp; done) | (go_simp; rfl)); intro gb122 hg w14 hbox hb; have n0_ := Aside0.mk (below_step (bel) hb); have n1_ := Aside0.mk (hbox); have n2_ := Aside0.mk ((by rw [hg]; exact bsz : w.heap.size ≤ gb122)); have n3_ := Aside0.mk ((by rw [hg]; exact bsz : w.heap.size ≤ gb122)); clear HB; have HB := n0_; have BK122 := n1_; have GW122 := n2_; have GE122 := n3_; clear n0_ n1_ n2_ n3_; clear hb hbox hg) | ((with_reducible refine gate_dst (N := 4) rfl ?_); refine box_event ?hg (N := 4) ?hd (cs := #[.string (⟨#[]⟩ : ByteArray), .int .i64 0, .int .i64 0, .bool false]) (t := 60) ?hr ?_; (case hd => rfl); (case hg => rfl); (case hr => first | (go_simp; done) | (go_simp; rfl)); intro gb123 hg w15 hbox hb; have n0_ := Aside0.mk (blk_below (blk_below BK122.out bll) hb); have n1_ := Aside0.mk (below_step (bel) hb); have n2_ := Aside0.mk (hbox); have n3_ := Aside0.mk ((by rw [hg]; exact bsz : w.heap.size ≤ gb123)); have n4_ := Aside0.mk ((by rw [hg]; exact bsz : w.heap.size ≤ gb123)); have n5_ := Aside0.mk ((by rw [hg]; exact Nat.ne_of_lt (blk_lt (blk_below BK122.out bll)) : gb122 ≠ gb123)); have n6_ := Aside0.mk ((by rw [hg]; exact Nat.ne_of_gt (blk_lt (blk_below BK122.out bll)) : gb123 ≠ gb122)); clear BK122; clear HB; have BK122 := n0_; have HB := n1_; have BK123 := n2_; have GW123 := n3_; have GE123 := n4_; have NB122_123 := n5_; have NB123_122 := n6_; clear n0_ n1_ n2_ n3_ n4_ n5_ n6_; clear hb hbox hg; have hnb16 := NB122_123.out; have hnc16 := NB123_122.out; have hcz17_3 := cl3 BK122.out; have hfz17_3 := blk_frozen BK122.out 3; have hcz18_0 := cl0 BK122.out; have hcz18_1 := cl1 BK122.out; have hcz18_2 := cl2 BK122.out; have hcz18_3 := cl3 BK122.out; have hfz18_0 := blk_frozen BK122.out 0; have hfz18_1 := blk_frozen BK122.out 1; have hfz18_2 := blk_frozen BK122.out 2; have hfz18_3 := blk_frozen BK122.out 3; have hcz19_0 := cl0 BK123.out; have hfz19_0 := blk_frozen BK123.out 0; have hcz20_1 := cl1 BK123.out; have hfz20_1 := blk_frozen BK123.out 1; have hcz21_2 := cl2 BK123.out; have hfz21_2 := blk_frozen BK123.out 2; have hcz22_3 := cl3 BK123.out; have hfz22_3 := blk_frozen BK123.out 3))
      refine bodyPost_ret (results_ct rfl _ _ gb123 60 #[.string a0_0, .int .i64 a0_1, .int .i64 a0_2, .bool true] (0, 0) _ rfl (blk) Try.underlying60 rfl (by kernel_rfl)) rfl ?_
      exact ⟨rtE, bel⟩
    · rw [if_neg c13] at H
      have c13b0 : decide (a1 < 0) = false := decide_eq_false c13
      clear c13
      by_cases c23 : a1 > (wrap64 (a0_2 - a0_1))
      · rw [if_pos c23] at H
        have c23b0 : decide ((wrap64 (a0_2 - a0_1)) < a1) = true := decide_eq_true c23
        clear c23
        simp only [Option.some.injEq, Prod.mk.injEq] at H
        obtain ⟨rfl, rfl, rfl, rfl, rfl⟩ := H
        go_enter Try.func60, Try.ntmps60
        go_wp2_with (first | ((with_reducible refine gate_dst (N := 2) rfl ?_); refine box_event ?hg (N := 2) ?hd (cs := #[.string a0_0, .int .i64 a0_1, .int .i64 a0_2, .bool false]) (t := 60) ?hr ?_; (case hd => rfl); (case hg => rfl); (case hr => first | (go_simp; done) | (go_simp; rfl)); intro gb122 hg w24 hbox hb; have n0_ := Aside0.mk (below_step (bel) hb); have n1_ := Aside0.mk (hbox); have n2_ := Aside0.mk ((by rw [hg]; exact bsz : w.heap.size ≤ gb122)); have n3_ := Aside0.mk ((by rw [hg]; exact bsz : w.heap.size ≤ gb122)); clear HB; have HB := n0_; have BK122 := n1_; have GW122 := n2_; have GE122 := n3_; clear n0_ n1_ n2_ n3_; clear hb hbox hg) | ((with_reducible refine gate_dst (N := 4) rfl ?_); refine box_event ?hg (N := 4) ?hd (cs := #[.string (⟨#[]⟩ : ByteArray), .int .i64 0, .int .i64 0, .bool false]) (t := 60) ?hr ?_; (case hd => rfl); (case hg => rfl); (case hr => first | (go_simp; done) | (go_simp; rfl)); intro gb123 hg w25 hbox hb; have n0_ := Aside0.mk (blk_below (blk_below BK122.out bll) hb); have n1_ := Aside0.mk (below_step (bel) hb); have n2_ := Aside0.mk (hbox); have n3_ := Aside0.mk ((by rw [hg]; exact bsz : w.heap.size ≤ gb123)); have n4_ := Aside0.mk ((by rw [hg]; exact bsz : w.heap.size ≤ gb123)); have n5_ := Aside0.mk ((by rw [hg]; exact Nat.ne_of_lt (blk_lt (blk_below BK122.out bll)) : gb122 ≠ gb123)); have n6_ := Aside0.mk ((by rw [hg]; exact Nat.ne_of_gt (blk_lt (blk_below BK122.out bll)) : gb123 ≠ gb122)); clear BK122; clear HB; have BK122 := n0_; have HB := n1_; have BK123 := n2_; have GW123 := n3_; have GE123 := n4_; have NB122_123 := n5_; have NB123_122 := n6_; clear n0_ n1_ n2_ n3_ n4_ n5_ n6_; clear hb hbox hg; have hnb26 := NB122_123.out; have hnc26 := NB123_122.out; have hcz27_3 := cl3 BK122.out; have hfz27_3 := blk_frozen BK122.out 3; have hcz28_2 := cl2 BK122.out; have hfz28_2 := blk_frozen BK122.out 2; have hcz29_1 := cl1 BK122.out; have hfz29_1 := blk_frozen BK122.out 1; have hcz30_0 := cl0 BK122.out; have hcz30_1 := cl1 BK122.out; have hcz30_2 := cl2 BK122.out; have hcz30_3 := cl3 BK122.out; have hfz30_0 := blk_frozen BK122.out 0; have hfz30_1 := blk_frozen BK122.out 1; have hfz30_2 := blk_frozen BK122.out 2; have hfz30_3 := blk_frozen BK122.out 3; have hcz31_0 := cl0 BK123.out; have hfz31_0 := blk_frozen BK123.out 0; have hcz32_1 := cl1 BK123.out; have hfz32_1 := blk_frozen BK123.out 1; have hcz33_2 := cl2 BK123.out; have hfz33_2 := blk_frozen BK123.out 2; have hcz34_3 := cl3 BK123.out; have hfz34_3 := blk_frozen BK123.out 3))
        refine bodyPost_ret (results_ct rfl _ _ gb123 60 #[.string a0_0, .int .i64 a0_1, .int .i64 a0_2, .bool true] (0, 0) _ rfl (blk) Try.underlying60 rfl (by kernel_rfl)) rfl ?_
        exact ⟨rtE, bel⟩
      · rw [if_neg c23] at H
        have c23b0 : decide ((wrap64 (a0_2 - a0_1)) < a1) = false := decide_eq_false c23
        clear c23
        simp only [Option.some.injEq, Prod.mk.injEq] at H
        obtain ⟨rfl, rfl, rfl, rfl, rfl⟩ := H
        go_enter Try.func60, Try.ntmps60
        go_wp2_with (first | ((with_reducible refine gate_dst (N := 2) rfl ?_); refine box_event ?hg (N := 2) ?hd (cs := #[.string a0_0, .int .i64 a0_1, .int .i64 a0_2, .bool false]) (t := 60) ?hr ?_; (case hd => rfl); (case hg => rfl); (case hr => first | (go_simp; done) | (go_simp; rfl)); intro gb122 hg w35 hbox hb; have n0_ := Aside0.mk (below_step (bel) hb); have n1_ := Aside0.mk (hbox); have n2_ := Aside0.mk ((by rw [hg]; exact bsz : w.heap.size ≤ gb122)); have n3_ := Aside0.mk ((by rw [hg]; exact bsz : w.heap.size ≤ gb122)); clear HB; have HB := n0_; have BK122 := n1_; have GW122 := n2_; have GE122 := n3_; clear n0_ n1_ n2_ n3_; clear hb hbox hg) | ((with_reducible refine gate_dst (N := 4) rfl ?_); refine box_event ?hg (N := 4) ?hd (cs := #[.string (⟨#[]⟩ : ByteArray), .int .i64 0, .int .i64 0, .bool false]) (t := 60) ?hr ?_; (case hd => rfl); (case hg => rfl); (case hr => first | (go_simp; done) | (go_simp; rfl)); intro gb123 hg w36 hbox hb; have n0_ := Aside0.mk (blk_below (blk_below BK122.out bll) hb); have n1_ := Aside0.mk (below_step (bel) hb); have n2_ := Aside0.mk (hbox); have n3_ := Aside0.mk ((by rw [hg]; exact bsz : w.heap.size ≤ gb123)); have n4_ := Aside0.mk ((by rw [hg]; exact bsz : w.heap.size ≤ gb123)); have n5_ := Aside0.mk ((by rw [hg]; exact Nat.ne_of_lt (blk_lt (blk_below BK122.out bll)) : gb122 ≠ gb123)); have n6_ := Aside0.mk ((by rw [hg]; exact Nat.ne_of_gt (blk_lt (blk_below BK122.out bll)) : gb123 ≠ gb122)); clear BK122; clear HB; have BK122 := n0_; have HB := n1_; have BK123 := n2_; have GW123 := n3_; have GE123 := n4_; have NB122_123 := n5_; have NB123_122 := n6_; clear n0_ n1_ n2_ n3_ n4_ n5_ n6_; clear hb hbox hg; have hnb37 := NB122_123.out; have hnc37 := NB123_122.out; have hcz38_3 := cl3 BK122.out; have hfz38_3 := blk_frozen BK122.out 3; have hcz39_2 := cl2 BK122.out; have hfz39_2 := blk_frozen BK122.out 2; have hcz40_1 := cl1 BK122.out; have hfz40_1 := blk_frozen BK122.out 1; have hcz41_0 := cl0 BK122.out; have hcz41_1 := cl1 BK122.out; have hcz41_2 := cl2 BK122.out; have hcz41_3 := cl3 BK122.out; have hfz41_0 := blk_frozen BK122.out 0; have hfz41_1 := blk_frozen BK122.out 1; have hfz41_2 := blk_frozen BK122.out 2; have hfz41_3 := blk_frozen BK122.out 3; have hcz42_0 := cl0 BK123.out; have hfz42_0 := blk_frozen BK123.out 0; have hcz43_1 := cl1 BK123.out; have hfz43_1 := blk_frozen BK123.out 1; have hcz44_2 := cl2 BK123.out; have hfz44_2 := blk_frozen BK123.out 2; have hcz45_3 := cl3 BK123.out; have hfz45_3 := blk_frozen BK123.out 3))
        refine bodyPost_ret (results_ct rfl _ _ gb123 60 #[.string a0_0, .int .i64 (wrap64 (a0_1 + a1)), .int .i64 a0_2, .bool false] (0, 0) _ rfl (blk) Try.underlying60 rfl (by kernel_rfl)) rfl ?_
        exact ⟨rtE, bel⟩

/-! ### cursor_Num: function 55 -/
mutual
def cursor_Num.j0 : Nat → Int → Bool → ByteArray → Int → Int → Bool → Option (Int × ByteArray × Int × Int × Bool)
  | 0, _, _, _, _, _, _ => none
  | k + 1, x1, x16, x125000, x125001, x125002, x125003 => if x16 = true then (some (0, x125000, x125001, x125002, true)) else ((cursor_step.f x125000 x125001 x125002 x125003 x1).bind fun bt126 => (if bt126.2.2.2.2 = true then (if 0 ≤ x125001 then (if x125001 ≤ bt126.2.1 then (if bt126.2.1 ≤ (x125000.size : Int) then (if (x125000.extract (x125001 : Int).toNat (bt126.2.1 : Int).toNat).size ≤ 9223372036854775807 then ((some (bytesOf (x125000.extract (x125001 : Int).toNat (bt126.2.1 : Int).toNat) : List Int)).bind fun y132 => (cursor_Num.l0 k 0 y132 (y132.length : Int) 0 bt126.1 bt126.2.1 bt126.2.2.1 bt126.2.2.2.1)) else (none)) else (none)) else (none)) else (none)) else (some (0, bt126.1, bt126.2.1, bt126.2.2.1, bt126.2.2.2.1))))
def cursor_Num.l0 : Nat → Int → List Int → Int → Int → ByteArray → Int → Int → Bool → Option (Int × ByteArray × Int × Int × Bool)
  | 0, _, _, _, _, _, _, _, _ => none
  | k + 1, x8, x35, x36, x37, x132000, x132001, x132002, x132003 => if x37 < x36 then (if 0 ≤ x37 then (if x37 < (x35.length : Int) then (cursor_Num.l0 k (Go.bits .or .i64 (wrap64 (x8 * 256)) (wrap64 (rd x35 x37))) x35 x36 (wrap64 (x37 + 1)) x132000 x132001 x132002 x132003) else (none)) else (none)) else (some (x8, x132000, x132001, x132002, x132003))
end
def cursor_Num.f (k : Nat) (a0_0 : ByteArray) (a0_1 : Int) (a0_2 : Int) (a0_3 : Bool) (a1 : Int) : Option (Int × ByteArray × Int × Int × Bool) := if a1 < 1 then (cursor_Num.j0 k a1 true a0_0 a0_1 a0_2 a0_3) else (cursor_Num.j0 k a1 (decide (a1 > 7)) a0_0 a0_1 a0_2 a0_3)
theorem cursor_Num.mono_l : ∀ k, (∀ y0 y1 y2 y3 y4 y5, LeO (cursor_Num.j0 k y0 y1 y2 y3 y4 y5) (cursor_Num.j0 (k + 1) y0 y1 y2 y3 y4 y5)) ∧ (∀ y0 y1 y2 y3 y4 y5 y6 y7, LeO (cursor_Num.l0 k y0 y1 y2 y3 y4 y5 y6 y7) (cursor_Num.l0 (k + 1) y0 y1 y2 y3 y4 y5 y6 y7))
  | 0 => ⟨fun _ _ _ _ _ _ r h => by simp [cursor_Num.j0] at h, fun _ _ _ _ _ _ _ _ r h => by simp [cursor_Num.l0] at h⟩
  | k + 1 => by
    obtain ⟨ih0, ih1⟩ := cursor_Num.mono_l k
    refine ⟨?_, ?_⟩
    · intro y0 y1 y2 y3 y4 y5
      unfold cursor_Num.j0
      repeat' first
      | (with_reducible exact ih0 _ _ _ _ _ _)
      | (with_reducible exact ih1 _ _ _ _ _ _ _ _)
      | (with_reducible exact LeO.refl _)
      | (with_reducible exact LeO.none _)
      | (with_reducible refine LeO.ite ?_ ?_)
      | (with_reducible refine LeO.bind ?_ (fun _ => ?_))
      | exact ih0 _ _ _ _ _ _
      | exact ih1 _ _ _ _ _ _ _ _
      | exact LeO.none _
      | refine LeO.ite ?_ ?_
      | refine LeO.bind ?_ (fun _ => ?_)
    · intro y0 y1 y2 y3 y4 y5 y6 y7
      unfold cursor_Num.l0
      repeat' first
      | (with_reducible exact ih0 _ _ _ _ _ _)
      | (with_reducible exact ih1 _ _ _ _ _ _ _ _)
      | (with_reducible exact LeO.refl _)
      | (with_reducible exact LeO.none _)
      | (with_reducible refine LeO.ite ?_ ?_)
      | (with_reducible refine LeO.bind ?_ (fun _ => ?_))
      | exact ih0 _ _ _ _ _ _
      | exact ih1 _ _ _ _ _ _ _ _
      | exact LeO.none _
      | refine LeO.ite ?_ ?_
      | refine LeO.bind ?_ (fun _ => ?_)
theorem cursor_Num.mono : ∀ a0 a1 a2 a3 a4 k, LeO (cursor_Num.f k a0 a1 a2 a3 a4) (cursor_Num.f (k + 1) a0 a1 a2 a3 a4) := by
  intro a0 a1 a2 a3 a4 k
  obtain ⟨ih0, ih1⟩ := cursor_Num.mono_l k
  unfold cursor_Num.f
  repeat' first
      | (with_reducible exact ih0 _ _ _ _ _ _)
      | (with_reducible exact ih1 _ _ _ _ _ _ _ _)
      | (with_reducible exact LeO.refl _)
      | (with_reducible exact LeO.none _)
      | (with_reducible refine LeO.ite ?_ ?_)
      | (with_reducible refine LeO.bind ?_ (fun _ => ?_))
      | exact ih0 _ _ _ _ _ _
      | exact ih1 _ _ _ _ _ _ _ _
      | exact LeO.none _
      | refine LeO.ite ?_ ?_
      | refine LeO.bind ?_ (fun _ => ?_)
set_option maxHeartbeats 8000000 in
set_option maxRecDepth 100000 in
theorem cursor_Num.calls (k : Nat) (a0_0 : ByteArray) (a0_1 : Int) (a0_2 : Int) (a0_3 : Bool) (a1 : Int) (r1 : Int) (r2 : ByteArray) (r3 : Int) (r4 : Int) (r5 : Bool) (w : World) (h : cursor_Num.f k a0_0 a0_1 a0_2 a0_3 a1 = some (r1, r2, r3, r4, r5)) :
    Calls Try.prog 55 #[.agg #[.string a0_0, .int .i64 a0_1, .int .i64 a0_2, .bool a0_3], .int .i64 a1] w fun e w' => e = .returned (.tuple #[.int .i64 r1, .agg #[.string r2, .int .i64 r3, .int .i64 r4, .bool r5]]) ∧ Below w.heap.size w w' := by
  have hu60 := Try.underlying60
  have HB := Aside0.mk (Below.refl w.heap.size w)
  have H : (if a1 < 1 then (cursor_Num.j0 k a1 true a0_0 a0_1 a0_2 a0_3) else (cursor_Num.j0 k a1 (decide (a1 > 7)) a0_0 a0_1 a0_2 a0_3)) = some (r1, r2, r3, r4, r5) := h
  clear h
  have HC3 := Aside0.mk H
  clear H
  go_enter Try.func55, Try.ntmps55
  go_upto_region 1 with (first | ((with_reducible refine gate_dst (N := 2) rfl ?_); refine box_event ?hg (N := 2) ?hd (cs := #[.string a0_0, .int .i64 a0_1, .int .i64 a0_2, .bool a0_3]) (t := 60) ?hr ?_; (case hd => rfl); (case hg => rfl); (case hr => first | (go_simp; done) | (go_simp; rfl)); intro gb124 hg w4 hbox hb; have n0_ := Aside0.mk (below_step (bel) hb); have n1_ := Aside0.mk (hbox); have n2_ := Aside0.mk ((by rw [hg]; exact bsz : w.heap.size ≤ gb124)); have n3_ := Aside0.mk ((by rw [hg]; exact bsz : w.heap.size ≤ gb124)); clear HB; have HB := n0_; have BK124 := n1_; have GW124 := n2_; have GE124 := n3_; clear n0_ n1_ n2_ n3_; clear hb hbox hg) | ((with_reducible refine gate_dst (N := 5) rfl ?_); refine box_event ?hg (N := 5) ?hd (cs := #[.string (⟨#[]⟩ : ByteArray), .int .i64 0, .int .i64 0, .bool false]) (t := 60) ?hr ?_; (case hd => rfl); (case hg => rfl); (case hr => first | (go_simp; done) | (go_simp; rfl)); intro gb125 hg w5 hbox hb; have n0_ := Aside0.mk (blk_below (blk_below BK124.out bll) hb); have n1_ := Aside0.mk (below_step (bel) hb); have n2_ := Aside0.mk (hbox); have n3_ := Aside0.mk ((by rw [hg]; exact bsz : w.heap.size ≤ gb125)); have n4_ := Aside0.mk ((by rw [hg]; exact bsz : w.heap.size ≤ gb125)); have n5_ := Aside0.mk ((by rw [hg]; exact Nat.ne_of_lt (blk_lt (blk_below BK124.out bll)) : gb124 ≠ gb125)); have n6_ := Aside0.mk ((by rw [hg]; exact Nat.ne_of_gt (blk_lt (blk_below BK124.out bll)) : gb125 ≠ gb124)); clear BK124; clear HB; have BK124 := n0_; have HB := n1_; have BK125 := n2_; have GW125 := n3_; have GE125 := n4_; have NB124_125 := n5_; have NB125_124 := n6_; clear n0_ n1_ n2_ n3_ n4_ n5_ n6_; clear hb hbox hg))
  (try simp only [Act.put, List.setIfInBounds_toArray, List.set_cons_zero, List.set_cons_succ])
  go_cut [16] (fun v16 wc => ∃ (kq : Nat) (x16_2 : Bool), v16 = .bool x16_2 ∧ Aside0 (cursor_Num.j0 kq a1 x16_2 a0_0 a0_1 a0_2 a0_3 = some (r1, r2, r3, r4, r5)) ∧ Aside0 (kq ≤ k) ∧ Aside0 (wc.heap[gb124]? = some (.cells #[.string a0_0, .int .i64 a0_1, .int .i64 a0_2, .bool a0_3] 60 (0, 0))) ∧ Aside0 (wc.heap[gb125]? = some (.cells #[.string (⟨#[]⟩ : ByteArray), .int .i64 0, .int .i64 0, .bool false] 60 (0, 0))) ∧ Aside0 (Below w.heap.size w wc))
  case first =>
    have H := HC3.out
    clear HC3
    by_cases c6 : a1 < 1
    · rw [if_pos c6] at H
      have c6b0 : decide (a1 < 1) = true := decide_eq_true c6
      clear c6
      (first | rw [c6b0] | (simp only [i64_w, i32_w]; rw [c6b0]) | skip)
      have H' := Aside0.mk H
      clear H
      go_wp2
      go_meet
      case rel => exact ⟨_, (true), rfS, H', ⟨by first | omega | exact Nat.le_refl _⟩, ⟨blk_below BK124.out bll⟩, ⟨blk_below BK125.out bll⟩, ⟨bel⟩⟩
    · rw [if_neg c6] at H
      have c6b0 : decide (a1 < 1) = false := decide_eq_false c6
      clear c6
      (first | rw [c6b0] | (simp only [i64_w, i32_w]; rw [c6b0]) | skip)
      have H' := Aside0.mk H
      clear H
      go_wp2
      go_meet
      case rel => exact ⟨_, (decide (a1 > 7)), rfS, H', ⟨by first | omega | exact Nat.le_refl _⟩, ⟨blk_below BK124.out bll⟩, ⟨blk_below BK125.out bll⟩, ⟨bel⟩⟩
  case rest =>
    clear HC3
    try clear c6
    try clear c6b0
    obtain ⟨kq, x16_2, rfl, HA, HJ2, BK124, BK125, HB⟩ := hcut
    cases kq with
    | zero => exact absurd HA.out (by simp [cursor_Num.j0])
    | succ kj2 =>
      have H := HA.out
      clear HA
      simp only [cursor_Num.j0] at H
      by_cases c7 : x16_2 = true
      · subst c7
        have H1 : (some (0, a0_0, a0_1, a0_2, true)) = some (r1, r2, r3, r4, r5) := by rw [if_pos rfl] at H; exact H
        clear H
        have H := H1
        clear H1
        simp only [Option.some.injEq, Prod.mk.injEq] at H
        obtain ⟨rfl, rfl, rfl, rfl, rfl⟩ := H
        have hnb8 := NB124_125.out
        have hnc8 := NB125_124.out
        have hcz9_3 := cl3 BK124.out
        have hfz9_3 := blk_frozen BK124.out 3
        try go_wp2
        have n0_ : Aside0 ((wc.setCell ⟨gb124, 3, none⟩ (.bool true)).heap[gb124]? = some (.cells #[.string a0_0, .int .i64 a0_1, .int .i64 a0_2, .bool true] 60 (0, 0))) := ⟨blk⟩
        have n1_ : Aside0 ((wc.setCell ⟨gb124, 3, none⟩ (.bool true)).heap[gb125]? = some (.cells #[.string (⟨#[]⟩ : ByteArray), .int .i64 0, .int .i64 0, .bool false] 60 (0, 0))) := ⟨blk⟩
        have n2_ : Aside0 (Below w.heap.size w (wc.setCell ⟨gb124, 3, none⟩ (.bool true))) := ⟨bel⟩
        (try clear BK124)
        (try clear BK125)
        (try clear HB)
        generalize (wc.setCell ⟨gb124, 3, none⟩ (.bool true)) = w10 at n0_ n1_ n2_ ⊢
        have BK124 := n0_
        have BK125 := n1_
        have HB := n2_
        clear n0_ n1_ n2_
        have n0_ := Aside0.mk (blk_drew BK124.out)
        have n1_ := Aside0.mk (blk_drew BK125.out)
        have n2_ := Aside0.mk (below_drew1 HB.out)
        clear BK124
        clear BK125
        clear HB
        have BK124 := n0_
        have BK125 := n1_
        have HB := n2_
        clear n0_ n1_ n2_
        refine start_ (n := 3) (S := fun w' => w'.cell? ⟨gb124, 0, none⟩ = some (.string a0_0) ∧ w'.cell? ⟨gb124, 1, none⟩ = some (.int .i64 a0_1) ∧ w'.cell? ⟨gb124, 2, none⟩ = some (.int .i64 a0_2) ∧ w'.cell? ⟨gb124, 3, none⟩ = some (.bool true)) (ds := []) #[false, false, false] (by kernel_rfl) rfl rfl ⟨(blk_cell BK124.out 0).trans rfl, (blk_cell BK124.out 1).trans rfl, (blk_cell BK124.out 2).trans rfl, (blk_cell BK124.out 3).trans rfl⟩ (fun hHeld => ?_)
        generalize w10.drew = w11 at BK124 BK125 HB hHeld ⊢
        refine pure_ (i := 1) (N := some 4) (v := ?_) (a' := ?_) #[false, true, false] rfl rfl (by kernel_rfl) (fun _ _ _ h => h) (Or.inl ⟨by rfl, ?_⟩) ?_ ?_
        rotate_left
        · intro w'
          go_simp
          with_reducible rfl
        rotate_left
        · simp only [Act.put, List.setIfInBounds_toArray, List.set_cons_zero, List.set_cons_succ, i64_w, i32_w]
          rfl
        refine take_ (i := 0) (N := some 18) (v := ?_) (a' := ?_) #[true, true, false] rfl rfl (by kernel_rfl) (fun _ _ _ h => h) (Or.inl ⟨by rfl, ?_⟩) hHeld ?_ ?_
        rotate_left
        · rintro w' ⟨s0, s1, s2, s3⟩
          go_simp
          with_reducible rfl
        rotate_left
        · simp only [Act.put, List.setIfInBounds_toArray, List.set_cons_zero, List.set_cons_succ, i64_w, i32_w]
          rfl
        refine one_ (i := 2) (N := none) #[true, true, true] rfl rfl (by kernel_rfl) (by decide) (fun K hK => ?_)
        have hs12 : w11.cell? ⟨gb125, 0, none⟩ = some (.string (⟨#[]⟩ : ByteArray)) := (blk_cell BK125.out 0).trans rfl
        have hfs12 := blk_frozen BK125.out 0
        have hns12_0 := NB124_125.out
        have hms12_0 := NB125_124.out
        have hs13 : w11.cell? ⟨gb125, 1, none⟩ = some (.int .i64 0) := (blk_cell BK125.out 1).trans rfl
        have hfs13 := blk_frozen BK125.out 1
        have hns13_0 := NB124_125.out
        have hms13_0 := NB125_124.out
        have hs14 : w11.cell? ⟨gb125, 2, none⟩ = some (.int .i64 0) := (blk_cell BK125.out 2).trans rfl
        have hfs14 := blk_frozen BK125.out 2
        have hns14_0 := NB124_125.out
        have hms14_0 := NB125_124.out
        have hs15 : w11.cell? ⟨gb125, 3, none⟩ = some (.bool false) := (blk_cell BK125.out 3).trans rfl
        have hfs15 := blk_frozen BK125.out 3
        have hns15_0 := NB124_125.out
        have hms15_0 := NB125_124.out
        refine skip_ (w1 := ?_) (by rfl) rfl ?_ ?_
        rotate_left
        · go_simp
          rfl
        refine hK.out _ _ ⟨((cell_far (p := ⟨gb125, _, none⟩) NB124_125.out _).trans (((cell_far (p := ⟨gb125, _, none⟩) NB124_125.out _).trans (((cell_far (p := ⟨gb125, _, none⟩) NB124_125.out _).trans (((cell_far (p := ⟨gb125, _, none⟩) NB124_125.out _).trans (hHeld.1)))))))), ((cell_far (p := ⟨gb125, _, none⟩) NB124_125.out _).trans (((cell_far (p := ⟨gb125, _, none⟩) NB124_125.out _).trans (((cell_far (p := ⟨gb125, _, none⟩) NB124_125.out _).trans (((cell_far (p := ⟨gb125, _, none⟩) NB124_125.out _).trans (hHeld.2.1)))))))), ((cell_far (p := ⟨gb125, _, none⟩) NB124_125.out _).trans (((cell_far (p := ⟨gb125, _, none⟩) NB124_125.out _).trans (((cell_far (p := ⟨gb125, _, none⟩) NB124_125.out _).trans (((cell_far (p := ⟨gb125, _, none⟩) NB124_125.out _).trans (hHeld.2.2.1)))))))), ((cell_far (p := ⟨gb125, _, none⟩) NB124_125.out _).trans (((cell_far (p := ⟨gb125, _, none⟩) NB124_125.out _).trans (((cell_far (p := ⟨gb125, _, none⟩) NB124_125.out _).trans (((cell_far (p := ⟨gb125, _, none⟩) NB124_125.out _).trans (hHeld.2.2.2))))))))⟩ (fun hHeld => ?_)
        clear hK K
        refine done_ (by kernel_rfl) ?_
        try go_wp2
        refine bodyPost_ret (results_tc rfl _ _ gb125 60 #[.string a0_0, .int .i64 a0_1, .int .i64 a0_2, .bool true] (0, 0) _ rfl (blk) Try.underlying60 rfl (by kernel_rfl)) rfl ?_
        exact ⟨rtE, bel⟩
      · replace c7 := Bool.eq_false_iff.mpr c7
        subst c7
        have H1 : ((cursor_step.f a0_0 a0_1 a0_2 a0_3 a1).bind fun bt126 => (if bt126.2.2.2.2 = true then (if 0 ≤ a0_1 then (if a0_1 ≤ bt126.2.1 then (if bt126.2.1 ≤ (a0_0.size : Int) then (if (a0_0.extract (a0_1 : Int).toNat (bt126.2.1 : Int).toNat).size ≤ 9223372036854775807 then ((some (bytesOf (a0_0.extract (a0_1 : Int).toNat (bt126.2.1 : Int).toNat) : List Int)).bind fun y132 => (cursor_Num.l0 kj2 0 y132 (y132.length : Int) 0 bt126.1 bt126.2.1 bt126.2.2.1 bt126.2.2.2.1)) else (none)) else (none)) else (none)) else (none)) else (some (0, bt126.1, bt126.2.1, bt126.2.2.1, bt126.2.2.2.1)))) = some (r1, r2, r3, r4, r5) := by rw [if_neg (show ¬ (false = true) by decide)] at H; exact H
        clear H
        have H := H1
        clear H1
        replace H := Option.bind_eq_some_iff.mp H
        obtain ⟨⟨t126, t127, t128, t129, t130⟩, A160, H⟩ := H
        replace H : (if t130 = true then (if 0 ≤ a0_1 then (if a0_1 ≤ t127 then (if t127 ≤ (a0_0.size : Int) then (if (a0_0.extract (a0_1 : Int).toNat (t127 : Int).toNat).size ≤ 9223372036854775807 then ((some (bytesOf (a0_0.extract (a0_1 : Int).toNat (t127 : Int).toNat) : List Int)).bind fun y132 => (cursor_Num.l0 kj2 0 y132 (y132.length : Int) 0 t126 t127 t128 t129)) else (none)) else (none)) else (none)) else (none)) else (some (0, t126, t127, t128, t129))) = some (r1, r2, r3, r4, r5) := H
        have A16 := Aside0.mk A160
        clear A160
        by_cases c17 : t130 = true
        · subst c17
          have H1 : (if 0 ≤ a0_1 then (if a0_1 ≤ t127 then (if t127 ≤ (a0_0.size : Int) then (if (a0_0.extract (a0_1 : Int).toNat (t127 : Int).toNat).size ≤ 9223372036854775807 then ((some (bytesOf (a0_0.extract (a0_1 : Int).toNat (t127 : Int).toNat) : List Int)).bind fun y132 => (cursor_Num.l0 kj2 0 y132 (y132.length : Int) 0 t126 t127 t128 t129)) else (none)) else (none)) else (none)) else (none)) = some (r1, r2, r3, r4, r5) := by rw [if_pos rfl] at H; exact H
          clear H
          have H := H1
          clear H1
          by_cases c18 : 0 ≤ a0_1
          · rw [if_pos c18] at H
            have c18b0 := eq_true c18
            have c18b1 : decide (0 ≤ a0_1) = true := decide_eq_true c18
            clear c18
            by_cases c19 : a0_1 ≤ t127
            · rw [if_pos c19] at H
              have c19b0 := eq_true c19
              have c19b1 : decide (a0_1 ≤ t127) = true := decide_eq_true c19
              clear c19
              by_cases c20 : t127 ≤ (a0_0.size : Int)
              · rw [if_pos c20] at H
                have c20b0 := eq_true c20
                have c20b1 : decide (t127 ≤ (a0_0.size : Int)) = true := decide_eq_true c20
                clear c20
                by_cases c21 : (a0_0.extract (a0_1 : Int).toNat (t127 : Int).toNat).size ≤ 9223372036854775807
                · rw [if_pos c21] at H
                  have c21b0 := eq_true c21
                  have c21b1 : decide ((a0_0.extract (a0_1 : Int).toNat (t127 : Int).toNat).size ≤ 9223372036854775807) = true := decide_eq_true c21
                  try have c21b2 : (9223372036854775807 < (a0_0.extract (a0_1 : Int).toNat (t127 : Int).toNat).size) = False := eq_false (Nat.not_lt.2 c21)
                  clear c21
                  obtain ⟨y132, hy132⟩ : ∃ y_ : List Int, y_ = (bytesOf (a0_0.extract (a0_1 : Int).toNat (t127 : Int).toNat)) := ⟨_, rfl⟩
                  replace H : (cursor_Num.l0 kj2 0 y132 (y132.length : Int) 0 t126 t127 t128 t129) = some (r1, r2, r3, r4, r5) := by first | (rw [hy132]; with_reducible exact H) | (have H2_ := (Option.bind_some _ _).symm.trans H; rw [hy132]; with_reducible exact H2_) | (have H2_ := (Option.bind_some _ _).symm.trans H; with_reducible exact H2_) | with_reducible exact H | (rw [hy132]; exact H) | exact H
                  have Ny132 := Aside0.mk hy132
                  clear hy132
                  have H' := Aside0.mk H
                  clear H
                  have hnb22 := NB124_125.out
                  have hnc22 := NB125_124.out
                  have hcz23_0 := cl0 BK124.out
                  have hcz23_1 := cl1 BK124.out
                  have hcz23_2 := cl2 BK124.out
                  have hcz23_3 := cl3 BK124.out
                  have hfz23_0 := blk_frozen BK124.out 0
                  have hfz23_1 := blk_frozen BK124.out 1
                  have hfz23_2 := blk_frozen BK124.out 2
                  have hfz23_3 := blk_frozen BK124.out 3
                  go_wp2_with (first | ((with_reducible refine gate_callee (f := 60) rfl ?_); refine goesL_ (some 22) rfl rfl Try.func60 (by kernel_rfl) rfl #[.agg #[.string a0_0, .int .i64 a0_1, .int .i64 a0_2, .bool a0_3], .int .i64 a1] rfl gAr ?_; (with_reducible refine (cursor_step.calls a0_0 a0_1 a0_2 a0_3 a1 t126 t127 t128 t129 true _ A16.out).mono ?_); rintro e w24 ⟨rfl, hb⟩; refine ⟨_, rfl, ?_⟩; have n0_ := Aside0.mk (blk_below (blk_below BK124.out bll) hb); have n1_ := Aside0.mk (blk_below (blk_below BK125.out bll) hb); have n2_ := Aside0.mk (below_step (bel) hb); clear BK124; clear BK125; clear HB; have BK124 := n0_; have BK125 := n1_; have HB := n2_; clear n0_ n1_ n2_; (try clear hb)) | ((with_reducible refine gate_dst (N := 6) rfl ?_); refine box_event ?hg (N := 6) ?hd (cs := #[.string (⟨#[]⟩ : ByteArray), .int .i64 0, .int .i64 0, .bool false]) (t := 60) ?hr ?_; (case hd => rfl); (case hg => rfl); (case hr => first | (go_simp; done) | (go_simp; rfl)); intro gb131 hg w25 hbox hb; have n0_ := Aside0.mk (blk_below (blk_below BK124.out bll) hb); have n1_ := Aside0.mk (blk_below (blk_below BK125.out bll) hb); have n2_ := Aside0.mk (below_step (bel) hb); have n3_ := Aside0.mk (hbox); have n4_ := Aside0.mk ((by rw [hg]; exact bsz : w.heap.size ≤ gb131)); have n5_ := Aside0.mk ((by rw [hg]; exact bsz : w.heap.size ≤ gb131)); have n6_ := Aside0.mk ((by rw [hg]; exact Nat.ne_of_lt (blk_lt (blk_below BK124.out bll)) : gb124 ≠ gb131)); have n7_ := Aside0.mk ((by rw [hg]; exact Nat.ne_of_gt (blk_lt (blk_below BK124.out bll)) : gb131 ≠ gb124)); have n8_ := Aside0.mk ((by rw [hg]; exact Nat.ne_of_lt (blk_lt (blk_below BK125.out bll)) : gb125 ≠ gb131)); have n9_ := Aside0.mk ((by rw [hg]; exact Nat.ne_of_gt (blk_lt (blk_below BK125.out bll)) : gb131 ≠ gb125)); clear BK124; clear BK125; clear HB; have BK124 := n0_; have BK125 := n1_; have HB := n2_; have BK131 := n3_; have GW131 := n4_; have GE131 := n5_; have NB124_131 := n6_; have NB131_124 := n7_; have NB125_131 := n8_; have NB131_125 := n9_; clear n0_ n1_ n2_ n3_ n4_ n5_ n6_ n7_ n8_ n9_; clear hb hbox hg; have hnb26 := NB131_124.out; have hnc26 := NB124_131.out; have hnb27 := NB131_125.out; have hnc27 := NB125_131.out; have hcz28_0 := cl0 BK131.out; have hfz28_0 := blk_frozen BK131.out 0; have hcz29_1 := cl1 BK131.out; have hfz29_1 := blk_frozen BK131.out 1; have hcz30_2 := cl2 BK131.out; have hfz30_2 := blk_frozen BK131.out 2; have hcz31_3 := cl3 BK131.out; have hfz31_3 := blk_frozen BK131.out 3; have hcz32_0 := cl0 BK124.out; have hfz32_0 := blk_frozen BK124.out 0; have hcz33_1 := cl1 BK124.out; have hfz33_1 := blk_frozen BK124.out 1) | ((with_reducible refine gate_dst (N := 35) rfl ?_); refine Kd.V_bytes _ 5 rfl (N := 35) rfl 9 55 _ rfl (a0_0.extract (a0_1 : Int).toNat (t127 : Int).toNat) rfl Try.underlying9 Try.underlying55 Try.underlying5 (odt) (Below.refl _ _) (Nat.le_refl _) ?_; intro v133 w34 ho35 hb hg_ hnew_; clear hg_ hnew_; (first | rw [← Ny132.out] at ho35 | (simp only [Int.reduceToNat] at ho35; rw [← Ny132.out] at ho35)); have n0_ := Aside0.mk (Kd.V_lower (Kd.V_mono (ok' := fun k_ => k_ ≠ gb124 ∧ k_ ≠ gb125 ∧ k_ ≠ gb131) ho35 (fun k_ hk_ => ⟨(Kd.freshB (g := gb124) blk k_ hk_), (Kd.freshB (g := gb125) blk k_ hk_), (Kd.freshB (g := gb131) (o := .cells #[.string t126, .int .i64 t127, .int .i64 t128, .bool t129] 60 (0, 0)) (blk) k_ hk_)⟩)) bsz); have n1_ := Aside0.mk (blk_below (g := gb124) blk hb); have n2_ := Aside0.mk (blk_below (g := gb125) blk hb); have n3_ := Aside0.mk (blk_below (g := gb131) (o := .cells #[.string t126, .int .i64 t127, .int .i64 t128, .bool t129] 60 (0, 0)) (blk) hb); have n4_ := Aside0.mk (below_step (bel) hb); clear BK124; clear BK125; clear BK131; clear HB; have HO134 := n0_; have BK124 := n1_; have BK125 := n2_; have BK131 := n3_; have HB := n4_; clear n0_ n1_ n2_ n3_ n4_; clear hb ho35; obtain ⟨Ao36, co36, eo36⟩ := Kd.V_slice HO134.out; subst eo36))
                  go_loopg [8, 37] kj2 (fun kq v8 v37 w' => ∃ (x8_2 : Int) (x37_2 : Int), v8 = .int .i64 x8_2 ∧ v37 = .int .i64 x37_2 ∧ Aside0 (cursor_Num.l0 kq x8_2 y132 (y132.length : Int) x37_2 t126 t127 t128 t129 = some (r1, r2, r3, r4, r5)) ∧ Aside0 (kq ≤ kj2) ∧ Aside0 (Kd.V (Kd.int .u8) 5 w' w.heap.size (fun k_ => k_ ≠ gb124 ∧ k_ ≠ gb125 ∧ k_ ≠ gb131) (.slice Ao36 y132.length co36) y132) ∧ Aside0 (w'.heap[gb124]? = some (.cells #[.string a0_0, .int .i64 a0_1, .int .i64 a0_2, .bool a0_3] 60 (0, 0))) ∧ Aside0 (w'.heap[gb125]? = some (.cells #[.string (⟨#[]⟩ : ByteArray), .int .i64 0, .int .i64 0, .bool false] 60 (0, 0))) ∧ Aside0 (w'.heap[gb131]? = some (.cells #[.string t126, .int .i64 t127, .int .i64 t128, .bool t129] 60 (0, 0))) ∧ Aside0 (Below w.heap.size w w'))
                  case atStart => exact ⟨(0), (0), rfS, rfS, H', ⟨Nat.le_refl _⟩, ⟨Kd.V_below HO134.out bll⟩, ⟨blk_below BK124.out bll⟩, ⟨blk_below BK125.out bll⟩, ⟨blk_below BK131.out bll⟩, ⟨bel⟩⟩
                  case round =>
                    clear H'
                    try clear c6
                    try clear c6b0
                    try clear c7
                    try clear c17
                    try clear c18
                    try clear c18b0
                    try clear c18b1
                    try clear c19
                    try clear c19b0
                    try clear c19b1
                    try clear c20
                    try clear c20b0
                    try clear c20b1
                    try clear c21
                    try clear c21b0
                    try clear c21b1
                    try clear c21b2
                    try clear hcz23_0
                    try clear hcz23_1
                    try clear hcz23_2
                    try clear hcz23_3
                    try clear hcz28_0
                    try clear hcz29_1
                    try clear hcz30_2
                    try clear hcz31_3
                    try clear hcz32_0
                    try clear hcz33_1
                    try clear hcz9_3
                    try clear hfz23_0
                    try clear hfz23_1
                    try clear hfz23_2
                    try clear hfz23_3
                    try clear hfz28_0
                    try clear hfz29_1
                    try clear hfz30_2
                    try clear hfz31_3
                    try clear hfz32_0
                    try clear hfz33_1
                    try clear hfz9_3
                    obtain ⟨x8_2, x37_2, rfl, rfl, HA, HK2, HO_35, BK124, BK125, BK131, HB⟩ := hrel
                    cases gk with
                    | zero => exact absurd HA.out (by simp [cursor_Num.l0])
                    | succ k2 =>
                      have H := HA.out
                      clear HA
                      simp only [cursor_Num.l0] at H
                      by_cases c37 : x37_2 < (y132.length : Int)
                      · rw [if_pos c37] at H
                        have c37b0 : decide (x37_2 < (y132.length : Int)) = true := decide_eq_true c37
                        clear c37
                        by_cases c38 : 0 ≤ x37_2
                        · rw [if_pos c38] at H
                          have c38b0 : decide (0 ≤ x37_2) = true := decide_eq_true c38
                          clear c38
                          by_cases c39 : x37_2 < (y132.length : Int)
                          · rw [if_pos c39] at H
                            have c39b0 : decide (x37_2 < (y132.length : Int)) = true := decide_eq_true c39
                            clear c39
                            have H' := Aside0.mk H
                            clear H
                            have p135 : 0 ≤ (x37_2 : Int) := odt
                            have q135 : x37_2 < (y132.length : Int) := odt
                            obtain ⟨ad135, e135, hx135_0⟩ := Kd.at_int (Kd.V_reads' HO_35.out).2.2 x37_2 p135 q135
                            cases e135
                            replace p135 := eq_true p135
                            replace q135 := eq_true q135
                            go_wp2
                            go_roundg k2
                            case measure => have := HJ2.out; have := HK2.out; omega
                            case rel => exact ⟨(Go.bits .or .i64 (wrap64 (x8_2 * 256)) (wrap64 (rd y132 x37_2))), (wrap64 (x37_2 + 1)), rfS, rfS, H', ⟨by have := HJ2.out; have := HK2.out; omega⟩, ⟨Kd.V_below HO_35.out bll⟩, ⟨blk_below BK124.out bll⟩, ⟨blk_below BK125.out bll⟩, ⟨blk_below BK131.out bll⟩, ⟨bel⟩⟩
                          · rw [if_neg c39] at H
                            exact absurd H (by simp)
                        · rw [if_neg c38] at H
                          exact absurd H (by simp)
                      · rw [if_neg c37] at H
                        have c37b0 : decide (x37_2 < (y132.length : Int)) = false := decide_eq_false c37
                        clear c37
                        simp only [Option.some.injEq, Prod.mk.injEq] at H
                        obtain ⟨rfl, rfl, rfl, rfl, rfl⟩ := H
                        try go_wp2
                        have n0_ := Aside0.mk (Kd.V_drew HO_35.out)
                        have n1_ := Aside0.mk (blk_drew BK124.out)
                        have n2_ := Aside0.mk (blk_drew BK125.out)
                        have n3_ := Aside0.mk (blk_drew BK131.out)
                        have n4_ := Aside0.mk (below_drew1 HB.out)
                        clear HO_35
                        clear BK124
                        clear BK125
                        clear BK131
                        clear HB
                        have HO_35 := n0_
                        have BK124 := n1_
                        have BK125 := n2_
                        have BK131 := n3_
                        have HB := n4_
                        clear n0_ n1_ n2_ n3_ n4_
                        refine start_ (n := 4) (S := fun w' => w'.cell? ⟨gb131, 0, none⟩ = some (.string t126) ∧ w'.cell? ⟨gb131, 1, none⟩ = some (.int .i64 t127) ∧ w'.cell? ⟨gb131, 2, none⟩ = some (.int .i64 t128) ∧ w'.cell? ⟨gb131, 3, none⟩ = some (.bool t129)) (ds := []) #[false, false, false, false] (by kernel_rfl) rfl rfl ⟨(blk_cell BK131.out 0).trans rfl, (blk_cell BK131.out 1).trans rfl, (blk_cell BK131.out 2).trans rfl, (blk_cell BK131.out 3).trans rfl⟩ (fun hHeld => ?_)
                        generalize wr.drew = w40 at HO_35 BK124 BK125 BK131 HB hHeld ⊢
                        refine pure_ (i := 0) (N := some 47) (v := ?_) (a' := ?_) #[true, false, false, false] rfl rfl (by kernel_rfl) (fun _ _ _ h => h) (Or.inl ⟨by rfl, ?_⟩) ?_ ?_
                        rotate_left
                        · intro w'
                          go_simp
                          with_reducible rfl
                        rotate_left
                        · simp only [Act.put, List.setIfInBounds_toArray, List.set_cons_zero, List.set_cons_succ, i64_w, i32_w]
                          rfl
                        refine pure_ (i := 2) (N := some 4) (v := ?_) (a' := ?_) #[true, false, true, false] rfl rfl (by kernel_rfl) (fun _ _ _ h => h) (Or.inl ⟨by rfl, ?_⟩) ?_ ?_
                        rotate_left
                        · intro w'
                          go_simp
                          with_reducible rfl
                        rotate_left
                        · simp only [Act.put, List.setIfInBounds_toArray, List.set_cons_zero, List.set_cons_succ, i64_w, i32_w]
                          rfl
                        refine take_ (i := 1) (N := some 48) (v := ?_) (a' := ?_) #[true, true, true, false] rfl rfl (by kernel_rfl) (fun _ _ _ h => h) (Or.inl ⟨by rfl, ?_⟩) hHeld ?_ ?_
                        rotate_left
                        · rintro w' ⟨s0, s1, s2, s3⟩
                          go_simp
                          with_reducible rfl
                        rotate_left
                        · simp only [Act.put, List.setIfInBounds_toArray, List.set_cons_zero, List.set_cons_succ, i64_w, i32_w]
                          rfl
                        refine one_ (i := 3) (N := none) #[true, true, true, true] rfl rfl (by kernel_rfl) (by decide) (fun K hK => ?_)
                        have hs41 : w40.cell? ⟨gb125, 0, none⟩ = some (.string (⟨#[]⟩ : ByteArray)) := (blk_cell BK125.out 0).trans rfl
                        have hfs41 := blk_frozen BK125.out 0
                        have hns41_0 := NB124_125.out
                        have hns41_2 := NB131_125.out
                        have hms41_0 := NB125_124.out
                        have hms41_2 := NB125_131.out
                        have hs42 : w40.cell? ⟨gb125, 1, none⟩ = some (.int .i64 0) := (blk_cell BK125.out 1).trans rfl
                        have hfs42 := blk_frozen BK125.out 1
                        have hns42_0 := NB124_125.out
                        have hns42_2 := NB131_125.out
                        have hms42_0 := NB125_124.out
                        have hms42_2 := NB125_131.out
                        have hs43 : w40.cell? ⟨gb125, 2, none⟩ = some (.int .i64 0) := (blk_cell BK125.out 2).trans rfl
                        have hfs43 := blk_frozen BK125.out 2
                        have hns43_0 := NB124_125.out
                        have hns43_2 := NB131_125.out
                        have hms43_0 := NB125_124.out
                        have hms43_2 := NB125_131.out
                        have hs44 : w40.cell? ⟨gb125, 3, none⟩ = some (.bool false) := (blk_cell BK125.out 3).trans rfl
                        have hfs44 := blk_frozen BK125.out 3
                        have hns44_0 := NB124_125.out
                        have hns44_2 := NB131_125.out
                        have hms44_0 := NB125_124.out
                        have hms44_2 := NB125_131.out
                        refine skip_ (w1 := ?_) (by rfl) rfl ?_ ?_
                        rotate_left
                        · go_simp
                          rfl
                        refine hK.out _ _ ⟨((cell_far (p := ⟨gb125, _, none⟩) NB131_125.out _).trans (((cell_far (p := ⟨gb125, _, none⟩) NB131_125.out _).trans (((cell_far (p := ⟨gb125, _, none⟩) NB131_125.out _).trans (((cell_far (p := ⟨gb125, _, none⟩) NB131_125.out _).trans (hHeld.1)))))))), ((cell_far (p := ⟨gb125, _, none⟩) NB131_125.out _).trans (((cell_far (p := ⟨gb125, _, none⟩) NB131_125.out _).trans (((cell_far (p := ⟨gb125, _, none⟩) NB131_125.out _).trans (((cell_far (p := ⟨gb125, _, none⟩) NB131_125.out _).trans (hHeld.2.1)))))))), ((cell_far (p := ⟨gb125, _, none⟩) NB131_125.out _).trans (((cell_far (p := ⟨gb125, _, none⟩) NB131_125.out _).trans (((cell_far (p := ⟨gb125, _, none⟩) NB131_125.out _).trans (((cell_far (p := ⟨gb125, _, none⟩) NB131_125.out _).trans (hHeld.2.2.1)))))))), ((cell_far (p := ⟨gb125, _, none⟩) NB131_125.out _).trans (((cell_far (p := ⟨gb125, _, none⟩) NB131_125.out _).trans (((cell_far (p := ⟨gb125, _, none⟩) NB131_125.out _).trans (((cell_far (p := ⟨gb125, _, none⟩) NB131_125.out _).trans (hHeld.2.2.2))))))))⟩ (fun hHeld => ?_)
                        clear hK K
                        refine done_ (by kernel_rfl) ?_
                        try go_wp2
                        refine bodyPost_ret (results_tc rfl _ _ gb125 60 #[.string t126, .int .i64 t127, .int .i64 t128, .bool t129] (0, 0) _ rfl (blk) Try.underlying60 rfl (by kernel_rfl)) rfl ?_
                        exact ⟨rtE, bel⟩
                · rw [if_neg c21] at H
                  exact absurd H (by simp)
              · rw [if_neg c20] at H
                exact absurd H (by simp)
            · rw [if_neg c19] at H
              exact absurd H (by simp)
          · rw [if_neg c18] at H
            exact absurd H (by simp)
        · replace c17 := Bool.eq_false_iff.mpr c17
          subst c17
          have H1 : (some (0, t126, t127, t128, t129)) = some (r1, r2, r3, r4, r5) := by rw [if_neg (show ¬ (false = true) by decide)] at H; exact H
          clear H
          have H := H1
          clear H1
          simp only [Option.some.injEq, Prod.mk.injEq] at H
          obtain ⟨rfl, rfl, rfl, rfl, rfl⟩ := H
          have hnb45 := NB124_125.out
          have hnc45 := NB125_124.out
          have hcz46_0 := cl0 BK124.out
          have hcz46_1 := cl1 BK124.out
          have hcz46_2 := cl2 BK124.out
          have hcz46_3 := cl3 BK124.out
          have hfz46_0 := blk_frozen BK124.out 0
          have hfz46_1 := blk_frozen BK124.out 1
          have hfz46_2 := blk_frozen BK124.out 2
          have hfz46_3 := blk_frozen BK124.out 3
          try go_wp2_with (first | ((with_reducible refine gate_callee (f := 60) rfl ?_); refine goesL_ (some 22) rfl rfl Try.func60 (by kernel_rfl) rfl #[.agg #[.string a0_0, .int .i64 a0_1, .int .i64 a0_2, .bool a0_3], .int .i64 a1] rfl gAr ?_; (with_reducible refine (cursor_step.calls a0_0 a0_1 a0_2 a0_3 a1 t126 t127 t128 t129 false _ A16.out).mono ?_); rintro e w47 ⟨rfl, hb⟩; refine ⟨_, rfl, ?_⟩; have n0_ := Aside0.mk (blk_below (blk_below BK124.out bll) hb); have n1_ := Aside0.mk (blk_below (blk_below BK125.out bll) hb); have n2_ := Aside0.mk (below_step (bel) hb); clear BK124; clear BK125; clear HB; have BK124 := n0_; have BK125 := n1_; have HB := n2_; clear n0_ n1_ n2_; (try clear hb)) | ((with_reducible refine gate_dst (N := 6) rfl ?_); refine box_event ?hg (N := 6) ?hd (cs := #[.string (⟨#[]⟩ : ByteArray), .int .i64 0, .int .i64 0, .bool false]) (t := 60) ?hr ?_; (case hd => rfl); (case hg => rfl); (case hr => first | (go_simp; done) | (go_simp; rfl)); intro gb131 hg w48 hbox hb; have n0_ := Aside0.mk (blk_below (blk_below BK124.out bll) hb); have n1_ := Aside0.mk (blk_below (blk_below BK125.out bll) hb); have n2_ := Aside0.mk (below_step (bel) hb); have n3_ := Aside0.mk (hbox); have n4_ := Aside0.mk ((by rw [hg]; exact bsz : w.heap.size ≤ gb131)); have n5_ := Aside0.mk ((by rw [hg]; exact bsz : w.heap.size ≤ gb131)); have n6_ := Aside0.mk ((by rw [hg]; exact Nat.ne_of_lt (blk_lt (blk_below BK124.out bll)) : gb124 ≠ gb131)); have n7_ := Aside0.mk ((by rw [hg]; exact Nat.ne_of_gt (blk_lt (blk_below BK124.out bll)) : gb131 ≠ gb124)); have n8_ := Aside0.mk ((by rw [hg]; exact Nat.ne_of_lt (blk_lt (blk_below BK125.out bll)) : gb125 ≠ gb131)); have n9_ := Aside0.mk ((by rw [hg]; exact Nat.ne_of_gt (blk_lt (blk_below BK125.out bll)) : gb131 ≠ gb125)); clear BK124; clear BK125; clear HB; have BK124 := n0_; have BK125 := n1_; have HB := n2_; have BK131 := n3_; have GW131 := n4_; have GE131 := n5_; have NB124_131 := n6_; have NB131_124 := n7_; have NB125_131 := n8_; have NB131_125 := n9_; clear n0_ n1_ n2_ n3_ n4_ n5_ n6_ n7_ n8_ n9_; clear hb hbox hg; have hnb49 := NB131_124.out; have hnc49 := NB124_131.out; have hnb50 := NB131_125.out; have hnc50 := NB125_131.out; have hcz51_0 := cl0 BK131.out; have hfz51_0 := blk_frozen BK131.out 0; have hcz52_1 := cl1 BK131.out; have hfz52_1 := blk_frozen BK131.out 1; have hcz53_2 := cl2 BK131.out; have hfz53_2 := blk_frozen BK131.out 2; have hcz54_3 := cl3 BK131.out; have hfz54_3 := blk_frozen BK131.out 3))
          have n0_ : Aside0 (((((w48.setCell ⟨gb131, 0, none⟩ (.string t126)).setCell ⟨gb131, 1, none⟩ (.int .i64 t127)).setCell ⟨gb131, 2, none⟩ (.int .i64 t128)).setCell ⟨gb131, 3, none⟩ (.bool t129)).heap[gb124]? = some (.cells #[.string a0_0, .int .i64 a0_1, .int .i64 a0_2, .bool a0_3] 60 (0, 0))) := ⟨blk⟩
          have n1_ : Aside0 (((((w48.setCell ⟨gb131, 0, none⟩ (.string t126)).setCell ⟨gb131, 1, none⟩ (.int .i64 t127)).setCell ⟨gb131, 2, none⟩ (.int .i64 t128)).setCell ⟨gb131, 3, none⟩ (.bool t129)).heap[gb125]? = some (.cells #[.string (⟨#[]⟩ : ByteArray), .int .i64 0, .int .i64 0, .bool false] 60 (0, 0))) := ⟨blk⟩
          have n2_ : Aside0 (((((w48.setCell ⟨gb131, 0, none⟩ (.string t126)).setCell ⟨gb131, 1, none⟩ (.int .i64 t127)).setCell ⟨gb131, 2, none⟩ (.int .i64 t128)).setCell ⟨gb131, 3, none⟩ (.bool t129)).heap[gb131]? = some (.cells #[.string t126, .int .i64 t127, .int .i64 t128, .bool t129] 60 (0, 0))) := ⟨blk⟩
          have n3_ : Aside0 (Below w.heap.size w ((((w48.setCell ⟨gb131, 0, none⟩ (.string t126)).setCell ⟨gb131, 1, none⟩ (.int .i64 t127)).setCell ⟨gb131, 2, none⟩ (.int .i64 t128)).setCell ⟨gb131, 3, none⟩ (.bool t129))) := ⟨bel⟩
          (try clear BK124)
          (try clear BK125)
          (try clear BK131)
          (try clear HB)
          generalize ((((w48.setCell ⟨gb131, 0, none⟩ (.string t126)).setCell ⟨gb131, 1, none⟩ (.int .i64 t127)).setCell ⟨gb131, 2, none⟩ (.int .i64 t128)).setCell ⟨gb131, 3, none⟩ (.bool t129)) = w55 at n0_ n1_ n2_ n3_ ⊢
          have BK124 := n0_
          have BK125 := n1_
          have BK131 := n2_
          have HB := n3_
          clear n0_ n1_ n2_ n3_
          have n0_ := Aside0.mk (blk_drew BK124.out)
          have n1_ := Aside0.mk (blk_drew BK125.out)
          have n2_ := Aside0.mk (blk_drew BK131.out)
          have n3_ := Aside0.mk (below_drew1 HB.out)
          clear BK124
          clear BK125
          clear BK131
          clear HB
          have BK124 := n0_
          have BK125 := n1_
          have BK131 := n2_
          have HB := n3_
          clear n0_ n1_ n2_ n3_
          refine start_ (n := 3) (S := fun w' => w'.cell? ⟨gb131, 0, none⟩ = some (.string t126) ∧ w'.cell? ⟨gb131, 1, none⟩ = some (.int .i64 t127) ∧ w'.cell? ⟨gb131, 2, none⟩ = some (.int .i64 t128) ∧ w'.cell? ⟨gb131, 3, none⟩ = some (.bool t129)) (ds := []) #[false, false, false] (by kernel_rfl) rfl rfl ⟨(blk_cell BK131.out 0).trans rfl, (blk_cell BK131.out 1).trans rfl, (blk_cell BK131.out 2).trans rfl, (blk_cell BK131.out 3).trans rfl⟩ (fun hHeld => ?_)
          generalize w55.drew = w56 at BK124 BK125 BK131 HB hHeld ⊢
          refine pure_ (i := 1) (N := some 4) (v := ?_) (a' := ?_) #[false, true, false] rfl rfl (by kernel_rfl) (fun _ _ _ h => h) (Or.inl ⟨by rfl, ?_⟩) ?_ ?_
          rotate_left
          · intro w'
            go_simp
            with_reducible rfl
          rotate_left
          · simp only [Act.put, List.setIfInBounds_toArray, List.set_cons_zero, List.set_cons_succ, i64_w, i32_w]
            rfl
          refine take_ (i := 0) (N := some 27) (v := ?_) (a' := ?_) #[true, true, false] rfl rfl (by kernel_rfl) (fun _ _ _ h => h) (Or.inl ⟨by rfl, ?_⟩) hHeld ?_ ?_
          rotate_left
          · rintro w' ⟨s0, s1, s2, s3⟩
            go_simp
            with_reducible rfl
          rotate_left
          · simp only [Act.put, List.setIfInBounds_toArray, List.set_cons_zero, List.set_cons_succ, i64_w, i32_w]
            rfl
          refine one_ (i := 2) (N := none) #[true, true, true] rfl rfl (by kernel_rfl) (by decide) (fun K hK => ?_)
          have hs57 : w56.cell? ⟨gb125, 0, none⟩ = some (.string (⟨#[]⟩ : ByteArray)) := (blk_cell BK125.out 0).trans rfl
          have hfs57 := blk_frozen BK125.out 0
          have hns57_0 := NB124_125.out
          have hns57_2 := NB131_125.out
          have hms57_0 := NB125_124.out
          have hms57_2 := NB125_131.out
          have hs58 : w56.cell? ⟨gb125, 1, none⟩ = some (.int .i64 0) := (blk_cell BK125.out 1).trans rfl
          have hfs58 := blk_frozen BK125.out 1
          have hns58_0 := NB124_125.out
          have hns58_2 := NB131_125.out
          have hms58_0 := NB125_124.out
          have hms58_2 := NB125_131.out
          have hs59 : w56.cell? ⟨gb125, 2, none⟩ = some (.int .i64 0) := (blk_cell BK125.out 2).trans rfl
          have hfs59 := blk_frozen BK125.out 2
          have hns59_0 := NB124_125.out
          have hns59_2 := NB131_125.out
          have hms59_0 := NB125_124.out
          have hms59_2 := NB125_131.out
          have hs60 : w56.cell? ⟨gb125, 3, none⟩ = some (.bool false) := (blk_cell BK125.out 3).trans rfl
          have hfs60 := blk_frozen BK125.out 3
          have hns60_0 := NB124_125.out
          have hns60_2 := NB131_125.out
          have hms60_0 := NB125_124.out
          have hms60_2 := NB125_131.out
          refine skip_ (w1 := ?_) (by rfl) rfl ?_ ?_
          rotate_left
          · go_simp
            rfl
          refine hK.out _ _ ⟨((cell_far (p := ⟨gb125, _, none⟩) NB131_125.out _).trans (((cell_far (p := ⟨gb125, _, none⟩) NB131_125.out _).trans (((cell_far (p := ⟨gb125, _, none⟩) NB131_125.out _).trans (((cell_far (p := ⟨gb125, _, none⟩) NB131_125.out _).trans (hHeld.1)))))))), ((cell_far (p := ⟨gb125, _, none⟩) NB131_125.out _).trans (((cell_far (p := ⟨gb125, _, none⟩) NB131_125.out _).trans (((cell_far (p := ⟨gb125, _, none⟩) NB131_125.out _).trans (((cell_far (p := ⟨gb125, _, none⟩) NB131_125.out _).trans (hHeld.2.1)))))))), ((cell_far (p := ⟨gb125, _, none⟩) NB131_125.out _).trans (((cell_far (p := ⟨gb125, _, none⟩) NB131_125.out _).trans (((cell_far (p := ⟨gb125, _, none⟩) NB131_125.out _).trans (((cell_far (p := ⟨gb125, _, none⟩) NB131_125.out _).trans (hHeld.2.2.1)))))))), ((cell_far (p := ⟨gb125, _, none⟩) NB131_125.out _).trans (((cell_far (p := ⟨gb125, _, none⟩) NB131_125.out _).trans (((cell_far (p := ⟨gb125, _, none⟩) NB131_125.out _).trans (((cell_far (p := ⟨gb125, _, none⟩) NB131_125.out _).trans (hHeld.2.2.2))))))))⟩ (fun hHeld => ?_)
          clear hK K
          refine done_ (by kernel_rfl) ?_
          try go_wp2
          refine bodyPost_ret (results_tc rfl _ _ gb125 60 #[.string t126, .int .i64 t127, .int .i64 t128, .bool t129] (0, 0) _ rfl (blk) Try.underlying60 rfl (by kernel_rfl)) rfl ?_
          exact ⟨rtE, bel⟩

/-- A state of type 63 at block g of W; what its slices lead to came in by w0. -/
def IsS63 (w0 W : World) (g : Nat) (f0 : ByteArray) (f1 : Int) (f2 : Int) (f3 : Bool) : Prop := W.heap[g]? = some (.cells #[.string f0, .int .i64 f1, .int .i64 f2, .bool f3] 63 (0, 0)) ∧ w0.heap.size ≤ g
theorem IsS63.grown {w0 W : World} {g : Nat} {f0 : ByteArray} {f1 : Int} {f2 : Int} {f3 : Bool} {W1 : World} {row : Option Nat} (h : IsS63 w0 W g f0 f1 f2 f3) (hw : W.grownBy W1 row) (hne : some g ≠ row) : IsS63 w0 W1 g f0 f1 f2 f3 := by
  obtain ⟨hb, hg⟩ := h
  exact ⟨blk_grown hb hw hne, hg⟩
theorem IsS63.own_neN {w0 W : World} {g : Nat} {f0 : ByteArray} {f1 : Int} {f2 : Int} {f3 : Bool} {α : Type} {d : Kd α} {e : Nat} {base : Nat} {ok : Nat → Prop} {v : Value} {xs : List α} (h : IsS63 w0 W g f0 f1 f2 f3) (ho : Kd.N d e W base ok v xs) (ht : e ≠ 63) : some g ≠ v.ownBlock := by
  obtain ⟨hb, hg⟩ := h
  exact Kd.N_ne ho hb ht
theorem IsS63.fresh {w0 W : World} {g : Nat} {f0 : ByteArray} {f1 : Int} {f2 : Int} {f3 : Bool} (h : IsS63 w0 W g f0 f1 f2 f3) : ∀ k, W.heap.size ≤ k → k ≠ g := by
  obtain ⟨hb, hg⟩ := h
  exact Kd.freshB hb
theorem IsS63.kept {w0 W : World} {g : Nat} {f0 : ByteArray} {f1 : Int} {f2 : Int} {f3 : Bool} {W1 : World} {S : Nat → Prop} (h : IsS63 w0 W g f0 f1 f2 f3) (hk : Kept W W1 S) (hne : ¬ S g) : IsS63 w0 W1 g f0 f1 f2 f3 := by
  obtain ⟨hb, hg⟩ := h
  exact ⟨blk_kept hb hk hne, hg⟩
theorem IsS63.below {w0 W : World} {g : Nat} {f0 : ByteArray} {f1 : Int} {f2 : Int} {f3 : Bool} {W1 : World} (h : IsS63 w0 W g f0 f1 f2 f3) (hw : Below W.heap.size W W1) : IsS63 w0 W1 g f0 f1 f2 f3 := h.grown (grown_of_below hw none) (by simp)
theorem IsS63.alloc {w0 W : World} {g : Nat} {f0 : ByteArray} {f1 : Int} {f2 : Int} {f3 : Bool} (h : IsS63 w0 W g f0 f1 f2 f3) (o : Obj) : IsS63 w0 (W.alloc o) g f0 f1 f2 f3 := h.below (below_alloc (Below.refl _ _) o)
theorem IsS63.drewN {w0 W : World} {g : Nat} {f0 : ByteArray} {f1 : Int} {f2 : Int} {f3 : Bool} (h : IsS63 w0 W g f0 f1 f2 f3) (m : Nat) : IsS63 w0 (W.drewN m) g f0 f1 f2 f3 := h
theorem IsS63.drew {w0 W : World} {g : Nat} {f0 : ByteArray} {f1 : Int} {f2 : Int} {f3 : Bool} (h : IsS63 w0 W g f0 f1 f2 f3) : IsS63 w0 W.drew g f0 f1 f2 f3 := h
theorem IsS63.at_ {w0 W : World} {g : Nat} {f0 : ByteArray} {f1 : Int} {f2 : Int} {f3 : Bool} {w' : World} {m : Nat} (hq : W.drewN m = w') (h : IsS63 w0 W g f0 f1 f2 f3) : IsS63 w0 w' g f0 f1 f2 f3 := by subst hq; exact IsS63.drewN h m
theorem IsS63.apart {w0 W : World} {g : Nat} {f0 : ByteArray} {f1 : Int} {f2 : Int} {f3 : Bool} {α : Type} {d : Kd α} {e : Nat} {base : Nat} {ok : Nat → Prop} {v : Value} {xs : List α} (h : IsS63 w0 W g f0 f1 f2 f3) (ho : d.R e W base ok v xs) (ht : ∀ q, q ∈ e :: d.E → q ≠ 63) : d.R e W base (fun k => ok k ∧ k ≠ g) v xs := by
  obtain ⟨hb, hg⟩ := h
  exact Kd.R_types ho hb ht
theorem IsS63.own_ne {w0 W : World} {g : Nat} {f0 : ByteArray} {f1 : Int} {f2 : Int} {f3 : Bool} {α : Type} {d : Kd α} {e : Nat} {base : Nat} {ok : Nat → Prop} {v : Value} {xs : List α} (h : IsS63 w0 W g f0 f1 f2 f3) (ho : d.R e W base ok v xs) (ht : e ≠ 63) : some g ≠ v.ownBlock := by
  obtain ⟨hb, hg⟩ := h
  exact Kd.R_ne ho hb ht
theorem IsS63.apartQ {w0 W : World} {g : Nat} {f0 : ByteArray} {f1 : Int} {f2 : Int} {f3 : Bool} {α : Type} {d : Kd α} {e : Nat} {base : Nat} {ok : Nat → Prop} {v : Value} {xs : List α} (h : IsS63 w0 W g f0 f1 f2 f3) (ho : d.Q e W base ok v xs) (ht : ∀ q, q ∈ e :: d.E → q ≠ 63) : d.Q e W base (fun k => ok k ∧ k ≠ g) v xs := by
  obtain ⟨hb, hg⟩ := h
  exact Kd.Q_types ho hb ht
theorem IsS63.own_neQ {w0 W : World} {g : Nat} {f0 : ByteArray} {f1 : Int} {f2 : Int} {f3 : Bool} {α : Type} {d : Kd α} {e : Nat} {base : Nat} {ok : Nat → Prop} {v : Value} {xs : List α} (h : IsS63 w0 W g f0 f1 f2 f3) (ho : d.Q e W base ok v xs) (ht : e ≠ 63) : some g ≠ v.ownBlock := by
  obtain ⟨hb, hg⟩ := h
  exact Kd.Q_ne ho hb ht
theorem IsS63.apartS {w0 W : World} {g : Nat} {f0 : ByteArray} {f1 : Int} {f2 : Int} {f3 : Bool} {α : Type} {d : Kd α} {e : Nat} {base : Nat} {ok : Nat → Prop} {v : Value} {xs : List α} (h : IsS63 w0 W g f0 f1 f2 f3) (ho : d.S e W base ok v xs) (ht : ∀ q, q ∈ e :: d.E → q ≠ 63) : d.S e W base (fun k => ok k ∧ k ≠ g) v xs := by
  obtain ⟨hb, hg⟩ := h
  exact Kd.S_types ho hb ht
theorem IsS63.own_neS {w0 W : World} {g : Nat} {f0 : ByteArray} {f1 : Int} {f2 : Int} {f3 : Bool} {α : Type} {d : Kd α} {e : Nat} {base : Nat} {ok : Nat → Prop} {v : Value} {xs : List α} (h : IsS63 w0 W g f0 f1 f2 f3) (ho : d.S e W base ok v xs) (ht : e ≠ 63) : some g ≠ v.ownBlock := by
  obtain ⟨hb, hg⟩ := h
  exact Kd.S_ne ho hb ht
theorem IsS63.lt {w0 W : World} {g : Nat} {f0 : ByteArray} {f1 : Int} {f2 : Int} {f3 : Bool} (h : IsS63 w0 W g f0 f1 f2 f3) : g < W.heap.size := by
  obtain ⟨hb, hg⟩ := h
  exact blk_lt hb
theorem IsS63.ge {w0 W : World} {g : Nat} {f0 : ByteArray} {f1 : Int} {f2 : Int} {f3 : Bool} (h : IsS63 w0 W g f0 f1 f2 f3) : w0.heap.size ≤ g := by
  obtain ⟨hb, hg⟩ := h
  exact hg
theorem IsS63.ne_blk {w0 W : World} {g : Nat} {f0 : ByteArray} {f1 : Int} {f2 : Int} {f3 : Bool} {a : Nat} {cs : Array Value} {t : TypeId} {fr : Nat × Nat} (h : IsS63 w0 W g f0 f1 f2 f3) (hb2 : W.heap[a]? = some (.cells cs t fr)) (ht : t ≠ 63) : g ≠ a := by
  obtain ⟨hb, hg⟩ := h
  rintro rfl
  rw [hb] at hb2
  injection hb2 with hb2
  injection hb2 with _ ht2
  exact ht ht2.symm
theorem IsS63.farB {w0 W : World} {g : Nat} {f0 : ByteArray} {f1 : Int} {f2 : Int} {f3 : Bool} {b j : Nat} {u : Value} (hne : g ≠ b) (h : IsS63 w0 W g f0 f1 f2 f3) : IsS63 w0 (W.setCell ⟨b, j, none⟩ u) g f0 f1 f2 f3 := by
  obtain ⟨hb, hg⟩ := h
  exact ⟨blk_far hb hne u, hg⟩
theorem IsS63.far {w0 W : World} {g : Nat} {f0 : ByteArray} {f1 : Int} {f2 : Int} {f3 : Bool} {p : Addr} (h : IsS63 w0 W g f0 f1 f2 f3) (hne : g ≠ p.block) (u : Value) : IsS63 w0 (W.setCell p u) g f0 f1 f2 f3 := by
  obtain ⟨hb, hg⟩ := h
  exact ⟨blk_far hb hne u, hg⟩
theorem cellS63_0 {W : World} {g : Nat} {f0 : ByteArray} {f1 : Int} {f2 : Int} {f3 : Bool} (h : W.heap[g]? = some (.cells #[.string f0, .int .i64 f1, .int .i64 f2, .bool f3] 63 (0, 0))) : W.cell? ⟨g, 0, none⟩ = some (.string f0) := (blk_cell h 0).trans rfl
theorem IsS63.set_0 {w0 W : World} {g : Nat} {f0 : ByteArray} {f1 : Int} {f2 : Int} {f3 : Bool} (h : IsS63 w0 W g f0 f1 f2 f3) (x : ByteArray) : IsS63 w0 (W.setCell ⟨g, 0, none⟩ (.string x)) g x f1 f2 f3 := by
  obtain ⟨hb, hg⟩ := h
  exact ⟨by simpa using blk_set hb 0 (.string x), hg⟩
theorem cellS63_1 {W : World} {g : Nat} {f0 : ByteArray} {f1 : Int} {f2 : Int} {f3 : Bool} (h : W.heap[g]? = some (.cells #[.string f0, .int .i64 f1, .int .i64 f2, .bool f3] 63 (0, 0))) : W.cell? ⟨g, 1, none⟩ = some (.int .i64 f1) := (blk_cell h 1).trans rfl
theorem IsS63.set_1 {w0 W : World} {g : Nat} {f0 : ByteArray} {f1 : Int} {f2 : Int} {f3 : Bool} (h : IsS63 w0 W g f0 f1 f2 f3) (x : Int) : IsS63 w0 (W.setCell ⟨g, 1, none⟩ (.int .i64 x)) g f0 x f2 f3 := by
  obtain ⟨hb, hg⟩ := h
  exact ⟨by simpa using blk_set hb 1 (.int .i64 x), hg⟩
theorem cellS63_2 {W : World} {g : Nat} {f0 : ByteArray} {f1 : Int} {f2 : Int} {f3 : Bool} (h : W.heap[g]? = some (.cells #[.string f0, .int .i64 f1, .int .i64 f2, .bool f3] 63 (0, 0))) : W.cell? ⟨g, 2, none⟩ = some (.int .i64 f2) := (blk_cell h 2).trans rfl
theorem IsS63.set_2 {w0 W : World} {g : Nat} {f0 : ByteArray} {f1 : Int} {f2 : Int} {f3 : Bool} (h : IsS63 w0 W g f0 f1 f2 f3) (x : Int) : IsS63 w0 (W.setCell ⟨g, 2, none⟩ (.int .i64 x)) g f0 f1 x f3 := by
  obtain ⟨hb, hg⟩ := h
  exact ⟨by simpa using blk_set hb 2 (.int .i64 x), hg⟩
theorem cellS63_3 {W : World} {g : Nat} {f0 : ByteArray} {f1 : Int} {f2 : Int} {f3 : Bool} (h : W.heap[g]? = some (.cells #[.string f0, .int .i64 f1, .int .i64 f2, .bool f3] 63 (0, 0))) : W.cell? ⟨g, 3, none⟩ = some (.bool f3) := (blk_cell h 3).trans rfl
theorem IsS63.set_3 {w0 W : World} {g : Nat} {f0 : ByteArray} {f1 : Int} {f2 : Int} {f3 : Bool} (h : IsS63 w0 W g f0 f1 f2 f3) (x : Bool) : IsS63 w0 (W.setCell ⟨g, 3, none⟩ (.bool x)) g f0 f1 f2 x := by
  obtain ⟨hb, hg⟩ := h
  exact ⟨by simpa using blk_set hb 3 (.bool x), hg⟩
theorem IsS63.new (w0 W : World) (f0 : ByteArray) (f1 : Int) (f2 : Int) (f3 : Bool) (hB : Below w0.heap.size w0 W) : IsS63 w0 (W.alloc (.cells #[.string f0, .int .i64 f1, .int .i64 f2, .bool f3] 63)) W.heap.size f0 f1 f2 f3 := ⟨by simpa using heap_alloc_new W _, hB.size⟩

/-! ### entry_reader_num: function 39 -/
def entry_reader_num.f (k : Nat) (s0_0 : ByteArray) (s0_1 : Int) (s0_2 : Int) (s0_3 : Bool) (a1 : Int) : Option (Int × ByteArray × Int × Int × Bool) := (cursor_Num.f k s0_0 s0_1 s0_2 s0_3 a1).bind fun bt136 => (some (bt136.1, bt136.2.1, bt136.2.2.1, bt136.2.2.2.1, bt136.2.2.2.2))
theorem entry_reader_num.mono : ∀ a0 a1 a2 a3 a4 k, LeO (entry_reader_num.f k a0 a1 a2 a3 a4) (entry_reader_num.f (k + 1) a0 a1 a2 a3 a4) := by
  intro a0 a1 a2 a3 a4 k
  unfold entry_reader_num.f
  repeat' first
      | (with_reducible exact cursor_Num.mono _ _ _ _ _ _)
      | (with_reducible exact LeO.refl _)
      | (with_reducible exact LeO.none _)
      | (with_reducible refine LeO.ite ?_ ?_)
      | (with_reducible refine LeO.bind ?_ (fun _ => ?_))
      | exact cursor_Num.mono _ _ _ _ _ _
      | exact LeO.none _
      | refine LeO.ite ?_ ?_
      | refine LeO.bind ?_ (fun _ => ?_)
set_option maxHeartbeats 8000000 in
set_option maxRecDepth 100000 in
theorem entry_reader_num.calls (k : Nat) (g : Nat) (s0_0 : ByteArray) (s0_1 : Int) (s0_2 : Int) (s0_3 : Bool) (a1 : Int) (r1 : Int) (r2 : ByteArray) (r3 : Int) (r4 : Int) (r5 : Bool) (w0 w : World) (hI : IsS63 w0 w g s0_0 s0_1 s0_2 s0_3) (hB : Below w0.heap.size w0 w) (h : entry_reader_num.f k s0_0 s0_1 s0_2 s0_3 a1 = some (r1, r2, r3, r4, r5)) :
    Calls Try.prog 39 #[.pointer (some ⟨g, 0, none⟩), .int .i64 a1] w fun e w' => e = .returned (.int .i64 r1) ∧ IsS63 w0 w' g r2 r3 r4 r5 ∧ Below w0.heap.size w0 w' ∧ KeepBut w w' g none := by
  have hu60 := Try.underlying60
  have HI0 := Aside0.mk hI
  have HK := Aside0.mk (KeepBut.refl w g none)
  have HL := Aside0.mk hB.size
  clear hI
  have HW0 := Aside0.mk hB.size
  have HB := Aside0.mk hB
  clear hB
  have H : ((cursor_Num.f k s0_0 s0_1 s0_2 s0_3 a1).bind fun bt136 => (some (bt136.1, bt136.2.1, bt136.2.2.1, bt136.2.2.2.1, bt136.2.2.2.2))) = some (r1, r2, r3, r4, r5) := h
  clear h
  replace H := Option.bind_eq_some_iff.mp H
  obtain ⟨⟨t136, t137, t138, t139, t140⟩, A30, H⟩ := H
  replace H : (some (t136, t137, t138, t139, t140)) = some (r1, r2, r3, r4, r5) := H
  have A3 := Aside0.mk A30
  clear A30
  simp only [Option.some.injEq, Prod.mk.injEq] at H
  obtain ⟨rfl, rfl, rfl, rfl, rfl⟩ := H
  obtain ⟨HGz4, hgz4⟩ := HI0.out
  have hcz4_0 := cellS63_0 HGz4
  have hcz4_1 := cellS63_1 HGz4
  have hcz4_2 := cellS63_2 HGz4
  have hcz4_3 := cellS63_3 HGz4
  have hfz4_0 := blk_frozen HGz4 0
  have hfz4_1 := blk_frozen HGz4 1
  have hfz4_2 := blk_frozen HGz4 2
  have hfz4_3 := blk_frozen HGz4 3
  clear HGz4 hgz4
  go_enter Try.func39, Try.ntmps39
  go_wp2_with (first | ((with_reducible refine gate_callee (f := 55) rfl ?_); refine goesL_ (some 13) rfl rfl Try.func55 (by kernel_rfl) rfl #[.agg #[.string s0_0, .int .i64 s0_1, .int .i64 s0_2, .bool s0_3], .int .i64 a1] rfl gAr ?_; (with_reducible refine (cursor_Num.calls k s0_0 s0_1 s0_2 s0_3 a1 t136 t137 t138 t139 t140 _ A3.out).mono ?_); rintro e w5 ⟨rfl, hb⟩; refine ⟨_, rfl, ?_⟩; have n0_ := Aside0.mk (IsS63.below (by repeat (first | (with_reducible first | exact HI0.out | apply IsS63.alloc | apply IsS63.drewN | apply IsS63.drew | apply IsS63.set_0 | apply IsS63.set_1 | apply IsS63.set_2 | apply IsS63.set_3) | exact HI0.out)) hb); have n1_ := Aside0.mk (KeepBut.trans (by repeat (first | (with_reducible first | exact HK.out | apply KeepBut.set_ | apply keep_drewN | apply keep_drew | apply keep_alloc) | exact HK.out)) (KeepBut.of_below hb g none) (.inl rfl)); have n2_ := Aside0.mk (below_step (by repeat (first | (with_reducible first | exact HB.out | apply below_alloc | apply pw_below_drewN | apply below_drew1 | refine below_set ?_ (IsS63.ge HI0.out)) | exact HB.out)) hb); clear HI0; clear HK; clear HB; have HI0 := n0_; have HK := n1_; have HB := n2_; clear n0_ n1_ n2_; (try clear hb)) | ((with_reducible refine gate_dst (N := 6) rfl ?_); refine box_event ?hg (N := 6) ?hd (cs := #[.string (⟨#[]⟩ : ByteArray), .int .i64 0, .int .i64 0, .bool false]) (t := 60) ?hr ?_; (case hd => rfl); (case hg => rfl); (case hr => first | (go_simp; done) | (go_simp; rfl)); intro gb141 hg w6 hbox hb; have n0_ := Aside0.mk (IsS63.below (by repeat (first | (with_reducible first | exact HI0.out | apply IsS63.alloc | apply IsS63.drewN | apply IsS63.drew | apply IsS63.set_0 | apply IsS63.set_1 | apply IsS63.set_2 | apply IsS63.set_3) | exact HI0.out)) hb); have n1_ := Aside0.mk (KeepBut.trans (by repeat (first | (with_reducible first | exact HK.out | apply KeepBut.set_ | apply keep_drewN | apply keep_drew | apply keep_alloc) | exact HK.out)) (KeepBut.of_below hb g none) (.inl rfl)); have n2_ := Aside0.mk (below_step (by repeat (first | (with_reducible first | exact HB.out | apply below_alloc | apply pw_below_drewN | apply below_drew1 | refine below_set ?_ (IsS63.ge HI0.out)) | exact HB.out)) hb); have n3_ := Aside0.mk (hbox); have n4_ := Aside0.mk ((by rw [hg]; exact (keep_size (w := w) (g := g) (row := none) (by repeat (first | (with_reducible first | exact HK.out | apply KeepBut.set_ | apply keep_drewN | apply keep_drew | apply keep_alloc) | exact HK.out))) : w.heap.size ≤ gb141)); have n5_ := Aside0.mk ((Nat.le_trans HW0.out (by rw [hg]; exact (keep_size (w := w) (g := g) (row := none) (by repeat (first | (with_reducible first | exact HK.out | apply KeepBut.set_ | apply keep_drewN | apply keep_drew | apply keep_alloc) | exact HK.out))) : w.heap.size ≤ gb141) : w0.heap.size ≤ gb141)); have n6_ := Aside0.mk ((by rw [hg]; exact Nat.ne_of_lt (IsS63.lt (show IsS63 w0 _ g s0_0 s0_1 s0_2 s0_3 from by repeat (first | (with_reducible first | exact HI0.out | apply IsS63.alloc | apply IsS63.drewN | apply IsS63.drew | apply IsS63.set_0 | apply IsS63.set_1 | apply IsS63.set_2 | apply IsS63.set_3) | exact HI0.out))) : g ≠ gb141)); have n7_ := Aside0.mk ((by rw [hg]; exact Nat.ne_of_gt (IsS63.lt (show IsS63 w0 _ g s0_0 s0_1 s0_2 s0_3 from by repeat (first | (with_reducible first | exact HI0.out | apply IsS63.alloc | apply IsS63.drewN | apply IsS63.drew | apply IsS63.set_0 | apply IsS63.set_1 | apply IsS63.set_2 | apply IsS63.set_3) | exact HI0.out))) : gb141 ≠ g)); clear HI0; clear HK; clear HB; have HI0 := n0_; have HK := n1_; have HB := n2_; have BK141 := n3_; have GW141 := n4_; have GE141 := n5_; have NB0_141 := n6_; have NB141_0 := n7_; clear n0_ n1_ n2_ n3_ n4_ n5_ n6_ n7_; clear hb hbox hg; have hnb7 := NB141_0.out; have hnc7 := NB0_141.out; have hcz8_0 := cl0 BK141.out; have hfz8_0 := blk_frozen BK141.out 0; have hcz9_1 := cl1 BK141.out; have hfz9_1 := blk_frozen BK141.out 1; have hcz10_2 := cl2 BK141.out; have hfz10_2 := blk_frozen BK141.out 2; have hcz11_3 := cl3 BK141.out; have hfz11_3 := blk_frozen BK141.out 3; have hcz12_0 := cl0 BK141.out; have hcz12_1 := cl1 BK141.out; have hcz12_2 := cl2 BK141.out; have hcz12_3 := cl3 BK141.out; have hfz12_0 := blk_frozen BK141.out 0; have hfz12_1 := blk_frozen BK141.out 1; have hfz12_2 := blk_frozen BK141.out 2; have hfz12_3 := blk_frozen BK141.out 3; obtain ⟨HGz13, hgz13⟩ := HI0.out; have hcz13_0 := cellS63_0 HGz13; have hfz13_0 := blk_frozen HGz13 0; clear HGz13 hgz13; obtain ⟨HGz14, hgz14⟩ := HI0.out; have hcz14_1 := cellS63_1 HGz14; have hfz14_1 := blk_frozen HGz14 1; clear HGz14 hgz14; obtain ⟨HGz15, hgz15⟩ := HI0.out; have hcz15_2 := cellS63_2 HGz15; have hfz15_2 := blk_frozen HGz15 2; clear HGz15 hgz15; obtain ⟨HGz16, hgz16⟩ := HI0.out; have hcz16_3 := cellS63_3 HGz16; have hfz16_3 := blk_frozen HGz16 3; clear HGz16 hgz16))
  go_ret
  exact ⟨rtE, by repeat (first | (with_reducible first | exact HI0.out | apply IsS63.alloc | apply IsS63.drewN | apply IsS63.drew | apply IsS63.set_0 | apply IsS63.set_1 | apply IsS63.set_2 | apply IsS63.set_3 | apply IsS63.farB NB0_141.out) | exact HI0.out), by repeat (first | (with_reducible first | exact HB.out | apply below_alloc | apply pw_below_drewN | apply below_drew1 | refine below_set ?_ (IsS63.ge HI0.out) | refine below_set ?_ GE141.out) | exact HB.out), by repeat (first | (with_reducible first | exact HK.out | apply KeepBut.set_ | apply keep_drewN | apply keep_drew | apply keep_alloc | refine keep_far ?_ GW141.out _) | exact HK.out)⟩

end Go.Proofs.Ytjgnpggpgkkknaa.Pr
