-- Written by wip/tools/xprint.py of this repo over the kit's printer, out of the translation. Lean checks it.
import Derived.Test.YtjgnpggpgkkknaaPr0
import Derived.Test.YtjgnpggpgkkknaaPr2
import Derived.Test.YtjgnpggpgkkknaaPr5
import Derived.Test.YtjgnpggpgkkknaaPr7
import Derived.Test.YtjgnpggpgkkknaaPr9
namespace Go.Proofs.Ytjgnpggpgkkknaa.Pr
open Go.RowKit Go.Proofs.YtjgnpggpgkkknaaW.PrintWords Go.Proofs.YtjgnpggpgkkknaaW.PrintLast
set_option linter.unusedVariables false
set_option linter.unusedSimpArgs false

attribute [local go_sem high] eqA47
/-! ### frame_Split: function 18 -/
def frame_Split.l0 : Nat → Int → List (S47) → ByteArray → Int → Int → Bool → Option ((List (S47)) × Int × Int)
  | 0, _, _, _, _, _, _ => none
  | k + 1, x1, x7, x279000, x279001, x279002, x279003 => (cursor_Left.f x279000 x279001 x279002 x279003).bind fun t279 => (if t279 > 0 then ((frame_next.f k x279000 x279001 x279002 x279003).bind fun bt280 => (if bt280.2.2.2.2.2.2 = true then (some (([] : List (S47)), wrap64 (bt280.2.1 + x1), 2)) else (if x7.length < 4398046511104 then (frame_Split.l0 k x1 (x7 ++ [(⟨bt280.1, wrap64 (bt280.2.1 + x1), bt280.2.2.1⟩ : S47)]) bt280.2.2.2.1 bt280.2.2.2.2.1 bt280.2.2.2.2.2.1 bt280.2.2.2.2.2.2) else (none)))) else (some (x7, 0, 0)))
def frame_Split.f (k : Nat) (a0 : ByteArray) (a1 : Int) : Option ((List (S47)) × Int × Int) := (cursor_New.f a0).bind fun bt274 => (frame_Split.l0 k a1 ([] : List (S47)) bt274.1 bt274.2.1 bt274.2.2.1 bt274.2.2.2)
theorem frame_Split.mono_l : ∀ k, (∀ y0 y1 y2 y3 y4 y5, LeO (frame_Split.l0 k y0 y1 y2 y3 y4 y5) (frame_Split.l0 (k + 1) y0 y1 y2 y3 y4 y5))
  | 0 => fun _ _ _ _ _ _ r h => by simp [frame_Split.l0] at h
  | k + 1 => by
    have ih0 := frame_Split.mono_l k
    · intro y0 y1 y2 y3 y4 y5
      unfold frame_Split.l0
      repeat' first
      | (with_reducible exact ih0 _ _ _ _ _ _)
      | (with_reducible exact frame_next.mono _ _ _ _ _)
      | (with_reducible exact LeO.refl _)
      | (with_reducible exact LeO.none _)
      | (with_reducible refine LeO.ite ?_ ?_)
      | (with_reducible refine LeO.bind ?_ (fun _ => ?_))
      | exact ih0 _ _ _ _ _ _
      | exact frame_next.mono _ _ _ _ _
      | exact LeO.none _
      | refine LeO.ite ?_ ?_
      | refine LeO.bind ?_ (fun _ => ?_)
theorem frame_Split.mono : ∀ a0 a1 k, LeO (frame_Split.f k a0 a1) (frame_Split.f (k + 1) a0 a1) := by
  intro a0 a1 k
  have ih0 := frame_Split.mono_l k
  unfold frame_Split.f
  repeat' first
      | (with_reducible exact ih0 _ _ _ _ _ _)
      | (with_reducible exact frame_next.mono _ _ _ _ _)
      | (with_reducible exact LeO.refl _)
      | (with_reducible exact LeO.none _)
      | (with_reducible refine LeO.ite ?_ ?_)
      | (with_reducible refine LeO.bind ?_ (fun _ => ?_))
      | exact ih0 _ _ _ _ _ _
      | exact frame_next.mono _ _ _ _ _
      | exact LeO.none _
      | refine LeO.ite ?_ ?_
      | refine LeO.bind ?_ (fun _ => ?_)
set_option maxHeartbeats 8000000 in
set_option maxRecDepth 100000 in
theorem frame_Split.calls (k : Nat) (a0 : ByteArray) (a1 : Int) (r1 : List (S47)) (r2 : Int) (r3 : Int) (w : World) (h : frame_Split.f k a0 a1 = some (r1, r2, r3)) :
    Calls Try.prog 18 #[.string a0, .int .i64 a1] w fun e w' => ∃ v0_ : Value, e = .returned (.tuple #[v0_, .int .i64 r2, .int .i64 r3]) ∧ Kd.R k47 47 w' w.heap.size (fun _ => True) v0_ r1 ∧ Below w.heap.size w w' := by
  have hu60 := Try.underlying60
  have hu47 := Try.underlying47
  have HB := Aside0.mk (Below.refl w.heap.size w)
  have H : ((cursor_New.f a0).bind fun bt274 => (frame_Split.l0 k a1 ([] : List (S47)) bt274.1 bt274.2.1 bt274.2.2.1 bt274.2.2.2)) = some (r1, r2, r3) := h
  clear h
  replace H := Option.bind_eq_some_iff.mp H
  obtain ⟨⟨t274, t275, t276, t277⟩, A30, H⟩ := H
  replace H : (frame_Split.l0 k a1 ([] : List (S47)) t274 t275 t276 t277) = some (r1, r2, r3) := H
  have A3 := Aside0.mk A30
  clear A30
  have H' := Aside0.mk H
  clear H
  go_enter Try.func18, Try.ntmps18
  go_wp2_with (first | ((with_reducible refine gate_callee (f := 38) rfl ?_); refine goesL_ (some 12) rfl rfl Try.func38 (by kernel_rfl) rfl #[.string a0] rfl gAr ?_; (with_reducible refine (cursor_New.calls a0 t274 t275 t276 t277 _ A3.out).mono ?_); rintro e w4 ⟨rfl, hb⟩; refine ⟨_, rfl, ?_⟩; have n0_ := Aside0.mk (below_step (bel) hb); clear HB; have HB := n0_; clear n0_; (try clear hb)) | ((with_reducible refine gate_dst (N := 8) rfl ?_); refine box_event ?hg (N := 8) ?hd (cs := #[.string (⟨#[]⟩ : ByteArray), .int .i64 0, .int .i64 0, .bool false]) (t := 60) ?hr ?_; (case hd => rfl); (case hg => rfl); (case hr => first | (go_simp; done) | (go_simp; rfl)); intro gb278 hg w5 hbox hb; have n0_ := Aside0.mk (below_step (bel) hb); have n1_ := Aside0.mk (hbox); have n2_ := Aside0.mk ((by rw [hg]; exact bsz : w.heap.size ≤ gb278)); have n3_ := Aside0.mk ((by rw [hg]; exact bsz : w.heap.size ≤ gb278)); clear HB; have HB := n0_; have BK278 := n1_; have GW278 := n2_; have GE278 := n3_; clear n0_ n1_ n2_ n3_; clear hb hbox hg; have hcz6_0 := cl0 BK278.out; have hfz6_0 := blk_frozen BK278.out 0; have hcz7_1 := cl1 BK278.out; have hfz7_1 := blk_frozen BK278.out 1; have hcz8_2 := cl2 BK278.out; have hfz8_2 := blk_frozen BK278.out 2; have hcz9_3 := cl3 BK278.out; have hfz9_3 := blk_frozen BK278.out 3))
  go_loopg [7, 8] k (fun kq v7 v8 w' => ∃ (x7_1 : List (S47)) (x279000_1 : ByteArray) (x279001_1 : Int) (x279002_1 : Int) (x279003_1 : Bool) (gb278 : Nat), v8 = .pointer (some ⟨gb278, 0, none⟩) ∧ Aside0 (frame_Split.l0 kq a1 x7_1 x279000_1 x279001_1 x279002_1 x279003_1 = some (r1, r2, r3)) ∧ Aside0 (kq ≤ k) ∧ Aside0 (Kd.R k47 47 w' w.heap.size (fun _ => True) v7 x7_1) ∧ Aside0 (w'.heap[gb278]? = some (.cells #[.string x279000_1, .int .i64 x279001_1, .int .i64 x279002_1, .bool x279003_1] 60 (0, 0))) ∧ Aside0 (w.heap.size ≤ gb278) ∧ Aside0 (w.heap.size ≤ gb278) ∧ Aside0 (Below w.heap.size w w'))
  case atStart => exact ⟨(([] : List (S47))), (t274), (t275), (t276), (t277), (gb278), (by first | rfl | (simp; done)), H', ⟨Nat.le_refl _⟩, ⟨by first | exact Kd.R_nil _ _ _ _ _ | exact Kd.N_nil _ _ _ _ _ | exact Kd.V_nil _ _ _ _ _ | exact Kd.Q_nil _ _ _ _ _ | exact Kd.S_nil _ _ _ _ _⟩, ⟨blk⟩, GW278, GE278, ⟨bel⟩⟩
  case round =>
    clear H'
    try clear hcz6_0
    try clear hcz7_1
    try clear hcz8_2
    try clear hcz9_3
    try clear hfz6_0
    try clear hfz7_1
    try clear hfz8_2
    try clear hfz9_3
    obtain ⟨x7_1, x279000_1, x279001_1, x279002_1, x279003_1, gb278, rfl, HA, HK1, HO_7, BK278, GW278, GE278, HB⟩ := hrel
    cases gk with
    | zero => exact absurd HA.out (by simp [frame_Split.l0])
    | succ k1 =>
      have H := HA.out
      clear HA
      simp only [frame_Split.l0] at H
      replace H := Option.bind_eq_some_iff.mp H
      obtain ⟨t279, A100, H⟩ := H
      replace H : (if t279 > 0 then ((frame_next.f k1 x279000_1 x279001_1 x279002_1 x279003_1).bind fun bt280 => (if bt280.2.2.2.2.2.2 = true then (some (([] : List (S47)), wrap64 (bt280.2.1 + a1), 2)) else (if x7_1.length < 4398046511104 then (frame_Split.l0 k1 a1 (x7_1 ++ [(⟨bt280.1, wrap64 (bt280.2.1 + a1), bt280.2.2.1⟩ : S47)]) bt280.2.2.2.1 bt280.2.2.2.2.1 bt280.2.2.2.2.2.1 bt280.2.2.2.2.2.2) else (none)))) else (some (x7_1, 0, 0))) = some (r1, r2, r3) := H
      have A10 := Aside0.mk A100
      clear A100
      by_cases c11 : t279 > 0
      · rw [if_pos c11] at H
        have c11b0 : decide (0 < t279) = true := decide_eq_true c11
        clear c11
        replace H := Option.bind_eq_some_iff.mp H
        obtain ⟨⟨t280, t281, t282, t283, t284, t285, t286⟩, A120, H⟩ := H
        replace H : (if t286 = true then (some (([] : List (S47)), wrap64 (t281 + a1), 2)) else (if x7_1.length < 4398046511104 then (frame_Split.l0 k1 a1 (x7_1 ++ [(⟨t280, wrap64 (t281 + a1), t282⟩ : S47)]) t283 t284 t285 t286) else (none))) = some (r1, r2, r3) := H
        have A12 := Aside0.mk A120
        clear A120
        by_cases c13 : t286 = true
        · subst c13
          have H1 : (some (([] : List (S47)), wrap64 (t281 + a1), 2)) = some (r1, r2, r3) := by rw [if_pos rfl] at H; exact H
          clear H
          have H := H1
          clear H1
          simp only [Option.some.injEq, Prod.mk.injEq] at H
          obtain ⟨rfl, rfl, rfl⟩ := H
          have hcz14_0 := cl0 BK278.out
          have hcz14_1 := cl1 BK278.out
          have hcz14_2 := cl2 BK278.out
          have hcz14_3 := cl3 BK278.out
          have hfz14_0 := blk_frozen BK278.out 0
          have hfz14_1 := blk_frozen BK278.out 1
          have hfz14_2 := blk_frozen BK278.out 2
          have hfz14_3 := blk_frozen BK278.out 3
          try go_wp2_with (first | ((with_reducible refine gate_callee (f := 45) rfl ?_); refine goesL_ (some 14) rfl rfl Try.func45 (by kernel_rfl) rfl #[.agg #[.string x279000_1, .int .i64 x279001_1, .int .i64 x279002_1, .bool x279003_1]] rfl gAr ?_; (with_reducible refine (cursor_Left.calls x279000_1 x279001_1 x279002_1 x279003_1 t279 _ A10.out).mono ?_); rintro e w15 ⟨rfl, hb⟩; refine ⟨_, rfl, ?_⟩; have n0_ := Aside0.mk (Kd.R_below (Kd.R_below HO_7.out bll) hb); have n1_ := Aside0.mk (blk_below (blk_below BK278.out bll) hb); have n2_ := Aside0.mk (below_step (bel) hb); clear HO_7; clear BK278; clear HB; have HO_7 := n0_; have BK278 := n1_; have HB := n2_; clear n0_ n1_ n2_; (try clear hb); have hcz16_0 := cl0 BK278.out; have hcz16_1 := cl1 BK278.out; have hcz16_2 := cl2 BK278.out; have hcz16_3 := cl3 BK278.out; have hfz16_0 := blk_frozen BK278.out 0; have hfz16_1 := blk_frozen BK278.out 1; have hfz16_2 := blk_frozen BK278.out 2; have hfz16_3 := blk_frozen BK278.out 3) | ((with_reducible refine gate_callee (f := 46) rfl ?_); refine goesL_ (some 18) rfl rfl Try.func46 (by kernel_rfl) rfl #[.agg #[.string x279000_1, .int .i64 x279001_1, .int .i64 x279002_1, .bool x279003_1]] rfl gAr ?_; (with_reducible refine (frame_next.calls k1 x279000_1 x279001_1 x279002_1 x279003_1 t280 t281 t282 t283 t284 t285 true _ A12.out).mono ?_); rintro e w17 ⟨rfl, hb⟩; refine ⟨_, rfl, ?_⟩; have n0_ := Aside0.mk (Kd.R_below (Kd.R_below HO_7.out bll) hb); have n1_ := Aside0.mk (blk_below (blk_below BK278.out bll) hb); have n2_ := Aside0.mk (below_step (bel) hb); clear HO_7; clear BK278; clear HB; have HO_7 := n0_; have BK278 := n1_; have HB := n2_; clear n0_ n1_ n2_; (try clear hb)) | ((with_reducible refine gate_dst (N := 9) rfl ?_); refine box_event ?hg (N := 9) ?hd (cs := #[.int .i64 0, .int .i64 0, .string (⟨#[]⟩ : ByteArray)]) (t := 47) ?hr ?_; (case hd => rfl); (case hg => rfl); (case hr => first | (go_simp; done) | (go_simp; rfl)); intro gb287 hg w18 hbox hb; have n0_ := Aside0.mk (Kd.R_below (Kd.R_elderB (Kd.R_below HO_7.out bll) gb287 (Nat.le_of_eq hg.symm)) hb); have n1_ := Aside0.mk (blk_below (blk_below BK278.out bll) hb); have n2_ := Aside0.mk (below_step (bel) hb); have n3_ := Aside0.mk (hbox); have n4_ := Aside0.mk ((by rw [hg]; exact bsz : w.heap.size ≤ gb287)); have n5_ := Aside0.mk ((by rw [hg]; exact bsz : w.heap.size ≤ gb287)); have n6_ := Aside0.mk ((by rw [hg]; exact Nat.ne_of_lt (blk_lt (blk_below BK278.out bll)) : gb278 ≠ gb287)); have n7_ := Aside0.mk ((by rw [hg]; exact Nat.ne_of_gt (blk_lt (blk_below BK278.out bll)) : gb287 ≠ gb278)); clear HO_7; clear BK278; clear HB; have HO_7 := n0_; have BK278 := n1_; have HB := n2_; have BK287 := n3_; have GW287 := n4_; have GE287 := n5_; have NB278_287 := n6_; have NB287_278 := n7_; clear n0_ n1_ n2_ n3_ n4_ n5_ n6_ n7_; clear hb hbox hg) | ((with_reducible refine gate_dst (N := 10) rfl ?_); refine box_event ?hg (N := 10) ?hd (cs := #[.string (⟨#[]⟩ : ByteArray), .int .i64 0, .int .i64 0, .bool false]) (t := 60) ?hr ?_; (case hd => rfl); (case hg => rfl); (case hr => first | (go_simp; done) | (go_simp; rfl)); intro gb288 hg w19 hbox hb; have n0_ := Aside0.mk (Kd.R_below (Kd.R_below HO_7.out bll) hb); have n1_ := Aside0.mk (blk_below (blk_below BK278.out bll) hb); have n2_ := Aside0.mk (blk_below (blk_below BK287.out bll) hb); have n3_ := Aside0.mk (below_step (bel) hb); have n4_ := Aside0.mk (hbox); have n5_ := Aside0.mk ((by rw [hg]; exact bsz : w.heap.size ≤ gb288)); have n6_ := Aside0.mk ((by rw [hg]; exact bsz : w.heap.size ≤ gb288)); have n7_ := Aside0.mk ((by rw [hg]; exact Nat.ne_of_lt (blk_lt (blk_below BK278.out bll)) : gb278 ≠ gb288)); have n8_ := Aside0.mk ((by rw [hg]; exact Nat.ne_of_gt (blk_lt (blk_below BK278.out bll)) : gb288 ≠ gb278)); have n9_ := Aside0.mk ((by rw [hg]; exact Nat.ne_of_lt (blk_lt (blk_below BK287.out bll)) : gb287 ≠ gb288)); have n10_ := Aside0.mk ((by rw [hg]; exact Nat.ne_of_gt (blk_lt (blk_below BK287.out bll)) : gb288 ≠ gb287)); clear HO_7; clear BK278; clear BK287; clear HB; have HO_7 := n0_; have BK278 := n1_; have BK287 := n2_; have HB := n3_; have BK288 := n4_; have GW288 := n5_; have GE288 := n6_; have NB278_288 := n7_; have NB288_278 := n8_; have NB287_288 := n9_; have NB288_287 := n10_; clear n0_ n1_ n2_ n3_ n4_ n5_ n6_ n7_ n8_ n9_ n10_; clear hb hbox hg; have hnb20 := NB287_278.out; have hnc20 := NB278_287.out; have hnb21 := NB287_288.out; have hnc21 := NB288_287.out; have hcz22_0 := cl0 BK287.out; have hfz22_0 := blk_frozen BK287.out 0; have hcz23_1 := cl1 BK287.out; have hfz23_1 := blk_frozen BK287.out 1; have hcz24_2 := cl2 BK287.out; have hfz24_2 := blk_frozen BK287.out 2; have hnb25 := NB288_278.out; have hnc25 := NB278_288.out; have hcz26_0 := cl0 BK288.out; have hfz26_0 := blk_frozen BK288.out 0; have hcz27_1 := cl1 BK288.out; have hfz27_1 := blk_frozen BK288.out 1; have hcz28_2 := cl2 BK288.out; have hfz28_2 := blk_frozen BK288.out 2; have hcz29_3 := cl3 BK288.out; have hfz29_3 := blk_frozen BK288.out 3))
          have n0_ : Aside0 (Kd.R k47 47 ((((((((w19.setCell ⟨gb287, 0, none⟩ (.int .i64 t280)).setCell ⟨gb287, 1, none⟩ (.int .i64 t281)).setCell ⟨gb287, 2, none⟩ (.string t282)).setCell ⟨gb288, 0, none⟩ (.string t283)).setCell ⟨gb288, 1, none⟩ (.int .i64 t284)).setCell ⟨gb288, 2, none⟩ (.int .i64 t285)).setCell ⟨gb288, 3, none⟩ (.bool true)).setCell ⟨gb287, 1, none⟩ (.int .i64 (wrap64 (t281 + a1)))) w.heap.size (fun k_ => k_ ≠ gb287) u7 x7_1) := ⟨by (with_reducible repeat (first | apply Kd.R_alloc | apply Kd.R_drewN | apply Kd.R_drew)); exact Kd.R_mono (Kd.R_far (p := ⟨gb287, 1, none⟩) (Kd.R_far (p := ⟨gb288, 3, none⟩) (Kd.R_far (p := ⟨gb288, 2, none⟩) (Kd.R_far (p := ⟨gb288, 1, none⟩) (Kd.R_far (p := ⟨gb288, 0, none⟩) (Kd.R_far (p := ⟨gb287, 2, none⟩) (Kd.R_far (p := ⟨gb287, 1, none⟩) (Kd.R_far (p := ⟨gb287, 0, none⟩) (Kd.R_types (Kd.R_mono HO_7.out (fun k_ hk => (⟨hk, hk.2⟩ : _ ∧ k_ ≠ gb287))) BK288.out (by decide)) (fun _ hk => hk.1.2) (.int .i64 t280)) (fun _ hk => hk.1.2) (.int .i64 t281)) (fun _ hk => hk.1.2) (.string t282)) (fun _ hk => hk.2) (.string t283)) (fun _ hk => hk.2) (.int .i64 t284)) (fun _ hk => hk.2) (.int .i64 t285)) (fun _ hk => hk.2) (.bool true)) (fun _ hk => hk.1.2) (.int .i64 (wrap64 (t281 + a1)))) (fun _ hk => hk.1.1.2)⟩
          have n1_ : Aside0 (((((((((w19.setCell ⟨gb287, 0, none⟩ (.int .i64 t280)).setCell ⟨gb287, 1, none⟩ (.int .i64 t281)).setCell ⟨gb287, 2, none⟩ (.string t282)).setCell ⟨gb288, 0, none⟩ (.string t283)).setCell ⟨gb288, 1, none⟩ (.int .i64 t284)).setCell ⟨gb288, 2, none⟩ (.int .i64 t285)).setCell ⟨gb288, 3, none⟩ (.bool true)).setCell ⟨gb287, 1, none⟩ (.int .i64 (wrap64 (t281 + a1)))).heap[gb278]? = some (.cells #[.string x279000_1, .int .i64 x279001_1, .int .i64 x279002_1, .bool x279003_1] 60 (0, 0))) := ⟨blk⟩
          have n2_ : Aside0 (((((((((w19.setCell ⟨gb287, 0, none⟩ (.int .i64 t280)).setCell ⟨gb287, 1, none⟩ (.int .i64 t281)).setCell ⟨gb287, 2, none⟩ (.string t282)).setCell ⟨gb288, 0, none⟩ (.string t283)).setCell ⟨gb288, 1, none⟩ (.int .i64 t284)).setCell ⟨gb288, 2, none⟩ (.int .i64 t285)).setCell ⟨gb288, 3, none⟩ (.bool true)).setCell ⟨gb287, 1, none⟩ (.int .i64 (wrap64 (t281 + a1)))).heap[gb287]? = some (.cells #[.int .i64 t280, .int .i64 (wrap64 (t281 + a1)), .string t282] 47 (0, 0))) := ⟨blk⟩
          have n3_ : Aside0 (((((((((w19.setCell ⟨gb287, 0, none⟩ (.int .i64 t280)).setCell ⟨gb287, 1, none⟩ (.int .i64 t281)).setCell ⟨gb287, 2, none⟩ (.string t282)).setCell ⟨gb288, 0, none⟩ (.string t283)).setCell ⟨gb288, 1, none⟩ (.int .i64 t284)).setCell ⟨gb288, 2, none⟩ (.int .i64 t285)).setCell ⟨gb288, 3, none⟩ (.bool true)).setCell ⟨gb287, 1, none⟩ (.int .i64 (wrap64 (t281 + a1)))).heap[gb288]? = some (.cells #[.string t283, .int .i64 t284, .int .i64 t285, .bool true] 60 (0, 0))) := ⟨blk⟩
          have n4_ : Aside0 (Below w.heap.size w ((((((((w19.setCell ⟨gb287, 0, none⟩ (.int .i64 t280)).setCell ⟨gb287, 1, none⟩ (.int .i64 t281)).setCell ⟨gb287, 2, none⟩ (.string t282)).setCell ⟨gb288, 0, none⟩ (.string t283)).setCell ⟨gb288, 1, none⟩ (.int .i64 t284)).setCell ⟨gb288, 2, none⟩ (.int .i64 t285)).setCell ⟨gb288, 3, none⟩ (.bool true)).setCell ⟨gb287, 1, none⟩ (.int .i64 (wrap64 (t281 + a1))))) := ⟨bel⟩
          (try clear HO_7)
          (try clear BK278)
          (try clear BK287)
          (try clear BK288)
          (try clear HB)
          generalize ((((((((w19.setCell ⟨gb287, 0, none⟩ (.int .i64 t280)).setCell ⟨gb287, 1, none⟩ (.int .i64 t281)).setCell ⟨gb287, 2, none⟩ (.string t282)).setCell ⟨gb288, 0, none⟩ (.string t283)).setCell ⟨gb288, 1, none⟩ (.int .i64 t284)).setCell ⟨gb288, 2, none⟩ (.int .i64 t285)).setCell ⟨gb288, 3, none⟩ (.bool true)).setCell ⟨gb287, 1, none⟩ (.int .i64 (wrap64 (t281 + a1)))) = w30 at n0_ n1_ n2_ n3_ n4_ ⊢
          have HO_7 := n0_
          have BK278 := n1_
          have BK287 := n2_
          have BK288 := n3_
          have HB := n4_
          clear n0_ n1_ n2_ n3_ n4_
          have n0_ := Aside0.mk (Kd.R_drew HO_7.out)
          have n1_ := Aside0.mk (blk_drew BK278.out)
          have n2_ := Aside0.mk (blk_drew BK287.out)
          have n3_ := Aside0.mk (blk_drew BK288.out)
          have n4_ := Aside0.mk (below_drew1 HB.out)
          clear HO_7
          clear BK278
          clear BK287
          clear BK288
          clear HB
          have HO_7 := n0_
          have BK278 := n1_
          have BK287 := n2_
          have BK288 := n3_
          have HB := n4_
          clear n0_ n1_ n2_ n3_ n4_
          refine start_ (n := 5) (S := fun w' => w'.cell? ⟨gb287, 0, none⟩ = some (.int .i64 t280) ∧ w'.cell? ⟨gb287, 1, none⟩ = some (.int .i64 (wrap64 (t281 + a1))) ∧ w'.cell? ⟨gb287, 2, none⟩ = some (.string t282)) (ds := []) #[false, false, false, false, false] (by kernel_rfl) rfl rfl ⟨(blk_cell BK287.out 0).trans rfl, (blk_cell BK287.out 1).trans rfl, (blk_cell BK287.out 2).trans rfl⟩ (fun hHeld => ?_)
          generalize w30.drew = w31 at HO_7 BK278 BK287 BK288 HB hHeld ⊢
          refine pure_ (i := 0) (N := some 28) (v := ?_) (a' := ?_) #[true, false, false, false, false] rfl rfl (by kernel_rfl) (fun _ _ _ h => h) (Or.inl ⟨by rfl, ?_⟩) ?_ ?_
          rotate_left
          · intro w'
            go_simp
            with_reducible rfl
          rotate_left
          · simp only [Act.put, List.setIfInBounds_toArray, List.set_cons_zero, List.set_cons_succ, i64_w, i32_w]
            rfl
          refine pure_ (i := 2) (N := some 4) (v := ?_) (a' := ?_) #[true, false, true, false, false] rfl rfl (by kernel_rfl) (fun _ _ _ h => h) (Or.inl ⟨by rfl, ?_⟩) ?_ ?_
          rotate_left
          · intro w'
            go_simp
            with_reducible rfl
          rotate_left
          · simp only [Act.put, List.setIfInBounds_toArray, List.set_cons_zero, List.set_cons_succ, i64_w, i32_w]
            rfl
          refine take_ (i := 1) (N := some 29) (v := ?_) (a' := ?_) #[true, true, true, false, false] rfl rfl (by kernel_rfl) (fun _ _ _ h => h) (Or.inl ⟨by rfl, ?_⟩) hHeld ?_ ?_
          rotate_left
          · rintro w' ⟨s0, s1, s2⟩
            go_simp
            with_reducible rfl
          rotate_left
          · simp only [Act.put, List.setIfInBounds_toArray, List.set_cons_zero, List.set_cons_succ, i64_w, i32_w]
            rfl
          refine pure_ (i := 3) (N := some 5) (v := ?_) (a' := ?_) #[true, true, true, true, false] rfl rfl (by kernel_rfl) (fun _ _ _ h => h) (Or.inl ⟨by rfl, ?_⟩) ?_ ?_
          rotate_left
          · intro w'
            go_simp
            with_reducible rfl
          rotate_left
          · simp only [Act.put, List.setIfInBounds_toArray, List.set_cons_zero, List.set_cons_succ, i64_w, i32_w]
            rfl
          refine pure_ (i := 4) (N := some 6) (v := ?_) (a' := ?_) #[true, true, true, true, true] rfl rfl (by kernel_rfl) (fun _ _ _ h => h) (Or.inl ⟨by rfl, ?_⟩) ?_ ?_
          rotate_left
          · intro w'
            go_simp
            with_reducible rfl
          rotate_left
          · simp only [Act.put, List.setIfInBounds_toArray, List.set_cons_zero, List.set_cons_succ, i64_w, i32_w]
            rfl
          refine done_ (by kernel_rfl) ?_
          try go_wp2
          go_ret3
          exact ⟨_, rtE, by first | exact Kd.R_nil _ _ _ _ _ | exact Kd.N_nil _ _ _ _ _ | exact Kd.V_nil _ _ _ _ _ | exact Kd.Q_nil _ _ _ _ _ | exact Kd.S_nil _ _ _ _ _, bel⟩
        · replace c13 := Bool.eq_false_iff.mpr c13
          subst c13
          have H1 : (if x7_1.length < 4398046511104 then (frame_Split.l0 k1 a1 (x7_1 ++ [(⟨t280, wrap64 (t281 + a1), t282⟩ : S47)]) t283 t284 t285 false) else (none)) = some (r1, r2, r3) := by rw [if_neg (show ¬ (false = true) by decide)] at H; exact H
          clear H
          have H := H1
          clear H1
          by_cases c32 : x7_1.length < 4398046511104
          · rw [if_pos c32] at H
            have LMc32 := Aside0.mk c32
            clear c32
            obtain ⟨y289, hy289⟩ : ∃ y_ : List (S47), y_ = (x7_1 ++ [(⟨t280, wrap64 (t281 + a1), t282⟩ : S47)]) := ⟨_, rfl⟩
            replace H : (frame_Split.l0 k1 a1 y289 t283 t284 t285 false) = some (r1, r2, r3) := by first | (rw [hy289]; with_reducible exact H) | (have H2_ := (Option.bind_some _ _).symm.trans H; rw [hy289]; with_reducible exact H2_) | (have H2_ := (Option.bind_some _ _).symm.trans H; with_reducible exact H2_) | with_reducible exact H | (rw [hy289]; exact H) | exact H
            have Ny289 := Aside0.mk hy289
            clear hy289
            have H' := Aside0.mk H
            clear H
            have hcz33_0 := cl0 BK278.out
            have hcz33_1 := cl1 BK278.out
            have hcz33_2 := cl2 BK278.out
            have hcz33_3 := cl3 BK278.out
            have hfz33_0 := blk_frozen BK278.out 0
            have hfz33_1 := blk_frozen BK278.out 1
            have hfz33_2 := blk_frozen BK278.out 2
            have hfz33_3 := blk_frozen BK278.out 3
            try go_wp2_with (first | ((with_reducible refine gate_callee (f := 45) rfl ?_); refine goesL_ (some 14) rfl rfl Try.func45 (by kernel_rfl) rfl #[.agg #[.string x279000_1, .int .i64 x279001_1, .int .i64 x279002_1, .bool x279003_1]] rfl gAr ?_; (with_reducible refine (cursor_Left.calls x279000_1 x279001_1 x279002_1 x279003_1 t279 _ A10.out).mono ?_); rintro e w34 ⟨rfl, hb⟩; refine ⟨_, rfl, ?_⟩; have n0_ := Aside0.mk (Kd.R_below (Kd.R_below HO_7.out bll) hb); have n1_ := Aside0.mk (blk_below (blk_below BK278.out bll) hb); have n2_ := Aside0.mk (below_step (bel) hb); clear HO_7; clear BK278; clear HB; have HO_7 := n0_; have BK278 := n1_; have HB := n2_; clear n0_ n1_ n2_; (try clear hb); have hcz35_0 := cl0 BK278.out; have hcz35_1 := cl1 BK278.out; have hcz35_2 := cl2 BK278.out; have hcz35_3 := cl3 BK278.out; have hfz35_0 := blk_frozen BK278.out 0; have hfz35_1 := blk_frozen BK278.out 1; have hfz35_2 := blk_frozen BK278.out 2; have hfz35_3 := blk_frozen BK278.out 3) | ((with_reducible refine gate_callee (f := 46) rfl ?_); refine goesL_ (some 18) rfl rfl Try.func46 (by kernel_rfl) rfl #[.agg #[.string x279000_1, .int .i64 x279001_1, .int .i64 x279002_1, .bool x279003_1]] rfl gAr ?_; (with_reducible refine (frame_next.calls k1 x279000_1 x279001_1 x279002_1 x279003_1 t280 t281 t282 t283 t284 t285 false _ A12.out).mono ?_); rintro e w36 ⟨rfl, hb⟩; refine ⟨_, rfl, ?_⟩; have n0_ := Aside0.mk (Kd.R_below (Kd.R_below HO_7.out bll) hb); have n1_ := Aside0.mk (blk_below (blk_below BK278.out bll) hb); have n2_ := Aside0.mk (below_step (bel) hb); clear HO_7; clear BK278; clear HB; have HO_7 := n0_; have BK278 := n1_; have HB := n2_; clear n0_ n1_ n2_; (try clear hb)) | ((with_reducible refine gate_dst (N := 9) rfl ?_); refine box_event ?hg (N := 9) ?hd (cs := #[.int .i64 0, .int .i64 0, .string (⟨#[]⟩ : ByteArray)]) (t := 47) ?hr ?_; (case hd => rfl); (case hg => rfl); (case hr => first | (go_simp; done) | (go_simp; rfl)); intro gb287 hg w37 hbox hb; have n0_ := Aside0.mk (Kd.R_below (Kd.R_elderB (Kd.R_below HO_7.out bll) gb287 (Nat.le_of_eq hg.symm)) hb); have n1_ := Aside0.mk (blk_below (blk_below BK278.out bll) hb); have n2_ := Aside0.mk (below_step (bel) hb); have n3_ := Aside0.mk (hbox); have n4_ := Aside0.mk ((by rw [hg]; exact bsz : w.heap.size ≤ gb287)); have n5_ := Aside0.mk ((by rw [hg]; exact bsz : w.heap.size ≤ gb287)); have n6_ := Aside0.mk ((by rw [hg]; exact Nat.ne_of_lt (blk_lt (blk_below BK278.out bll)) : gb278 ≠ gb287)); have n7_ := Aside0.mk ((by rw [hg]; exact Nat.ne_of_gt (blk_lt (blk_below BK278.out bll)) : gb287 ≠ gb278)); clear HO_7; clear BK278; clear HB; have HO_7 := n0_; have BK278 := n1_; have HB := n2_; have BK287 := n3_; have GW287 := n4_; have GE287 := n5_; have NB278_287 := n6_; have NB287_278 := n7_; clear n0_ n1_ n2_ n3_ n4_ n5_ n6_ n7_; clear hb hbox hg) | ((with_reducible refine gate_dst (N := 10) rfl ?_); refine box_event ?hg (N := 10) ?hd (cs := #[.string (⟨#[]⟩ : ByteArray), .int .i64 0, .int .i64 0, .bool false]) (t := 60) ?hr ?_; (case hd => rfl); (case hg => rfl); (case hr => first | (go_simp; done) | (go_simp; rfl)); intro gb288 hg w38 hbox hb; have n0_ := Aside0.mk (Kd.R_below (Kd.R_below HO_7.out bll) hb); have n1_ := Aside0.mk (blk_below (blk_below BK278.out bll) hb); have n2_ := Aside0.mk (blk_below (blk_below BK287.out bll) hb); have n3_ := Aside0.mk (below_step (bel) hb); have n4_ := Aside0.mk (hbox); have n5_ := Aside0.mk ((by rw [hg]; exact bsz : w.heap.size ≤ gb288)); have n6_ := Aside0.mk ((by rw [hg]; exact bsz : w.heap.size ≤ gb288)); have n7_ := Aside0.mk ((by rw [hg]; exact Nat.ne_of_lt (blk_lt (blk_below BK278.out bll)) : gb278 ≠ gb288)); have n8_ := Aside0.mk ((by rw [hg]; exact Nat.ne_of_gt (blk_lt (blk_below BK278.out bll)) : gb288 ≠ gb278)); have n9_ := Aside0.mk ((by rw [hg]; exact Nat.ne_of_lt (blk_lt (blk_below BK287.out bll)) : gb287 ≠ gb288)); have n10_ := Aside0.mk ((by rw [hg]; exact Nat.ne_of_gt (blk_lt (blk_below BK287.out bll)) : gb288 ≠ gb287)); clear HO_7; clear BK278; clear BK287; clear HB; have HO_7 := n0_; have BK278 := n1_; have BK287 := n2_; have HB := n3_; have BK288 := n4_; have GW288 := n5_; have GE288 := n6_; have NB278_288 := n7_; have NB288_278 := n8_; have NB287_288 := n9_; have NB288_287 := n10_; clear n0_ n1_ n2_ n3_ n4_ n5_ n6_ n7_ n8_ n9_ n10_; clear hb hbox hg; have hnb39 := NB287_278.out; have hnc39 := NB278_287.out; have hnb40 := NB287_288.out; have hnc40 := NB288_287.out; have hcz41_0 := cl0 BK287.out; have hfz41_0 := blk_frozen BK287.out 0; have hcz42_1 := cl1 BK287.out; have hfz42_1 := blk_frozen BK287.out 1; have hcz43_2 := cl2 BK287.out; have hfz43_2 := blk_frozen BK287.out 2; have hnb44 := NB288_278.out; have hnc44 := NB278_288.out; have hcz45_0 := cl0 BK288.out; have hfz45_0 := blk_frozen BK288.out 0; have hcz46_1 := cl1 BK288.out; have hfz46_1 := blk_frozen BK288.out 1; have hcz47_2 := cl2 BK288.out; have hfz47_2 := blk_frozen BK288.out 2; have hcz48_3 := cl3 BK288.out; have hfz48_3 := blk_frozen BK288.out 3))
            have n0_ : Aside0 (Kd.R k47 47 ((((((((w38.setCell ⟨gb287, 0, none⟩ (.int .i64 t280)).setCell ⟨gb287, 1, none⟩ (.int .i64 t281)).setCell ⟨gb287, 2, none⟩ (.string t282)).setCell ⟨gb288, 0, none⟩ (.string t283)).setCell ⟨gb288, 1, none⟩ (.int .i64 t284)).setCell ⟨gb288, 2, none⟩ (.int .i64 t285)).setCell ⟨gb288, 3, none⟩ (.bool false)).setCell ⟨gb287, 1, none⟩ (.int .i64 (wrap64 (t281 + a1)))) w.heap.size (fun k_ => k_ ≠ gb287) u7 x7_1) := ⟨by (with_reducible repeat (first | apply Kd.R_alloc | apply Kd.R_drewN | apply Kd.R_drew)); exact Kd.R_mono (Kd.R_far (p := ⟨gb287, 1, none⟩) (Kd.R_far (p := ⟨gb288, 3, none⟩) (Kd.R_far (p := ⟨gb288, 2, none⟩) (Kd.R_far (p := ⟨gb288, 1, none⟩) (Kd.R_far (p := ⟨gb288, 0, none⟩) (Kd.R_far (p := ⟨gb287, 2, none⟩) (Kd.R_far (p := ⟨gb287, 1, none⟩) (Kd.R_far (p := ⟨gb287, 0, none⟩) (Kd.R_types (Kd.R_mono HO_7.out (fun k_ hk => (⟨hk, hk.2⟩ : _ ∧ k_ ≠ gb287))) BK288.out (by decide)) (fun _ hk => hk.1.2) (.int .i64 t280)) (fun _ hk => hk.1.2) (.int .i64 t281)) (fun _ hk => hk.1.2) (.string t282)) (fun _ hk => hk.2) (.string t283)) (fun _ hk => hk.2) (.int .i64 t284)) (fun _ hk => hk.2) (.int .i64 t285)) (fun _ hk => hk.2) (.bool false)) (fun _ hk => hk.1.2) (.int .i64 (wrap64 (t281 + a1)))) (fun _ hk => hk.1.1.2)⟩
            have n1_ : Aside0 (((((((((w38.setCell ⟨gb287, 0, none⟩ (.int .i64 t280)).setCell ⟨gb287, 1, none⟩ (.int .i64 t281)).setCell ⟨gb287, 2, none⟩ (.string t282)).setCell ⟨gb288, 0, none⟩ (.string t283)).setCell ⟨gb288, 1, none⟩ (.int .i64 t284)).setCell ⟨gb288, 2, none⟩ (.int .i64 t285)).setCell ⟨gb288, 3, none⟩ (.bool false)).setCell ⟨gb287, 1, none⟩ (.int .i64 (wrap64 (t281 + a1)))).heap[gb278]? = some (.cells #[.string x279000_1, .int .i64 x279001_1, .int .i64 x279002_1, .bool x279003_1] 60 (0, 0))) := ⟨blk⟩
            have n2_ : Aside0 (((((((((w38.setCell ⟨gb287, 0, none⟩ (.int .i64 t280)).setCell ⟨gb287, 1, none⟩ (.int .i64 t281)).setCell ⟨gb287, 2, none⟩ (.string t282)).setCell ⟨gb288, 0, none⟩ (.string t283)).setCell ⟨gb288, 1, none⟩ (.int .i64 t284)).setCell ⟨gb288, 2, none⟩ (.int .i64 t285)).setCell ⟨gb288, 3, none⟩ (.bool false)).setCell ⟨gb287, 1, none⟩ (.int .i64 (wrap64 (t281 + a1)))).heap[gb287]? = some (.cells #[.int .i64 t280, .int .i64 (wrap64 (t281 + a1)), .string t282] 47 (0, 0))) := ⟨blk⟩
            have n3_ : Aside0 (((((((((w38.setCell ⟨gb287, 0, none⟩ (.int .i64 t280)).setCell ⟨gb287, 1, none⟩ (.int .i64 t281)).setCell ⟨gb287, 2, none⟩ (.string t282)).setCell ⟨gb288, 0, none⟩ (.string t283)).setCell ⟨gb288, 1, none⟩ (.int .i64 t284)).setCell ⟨gb288, 2, none⟩ (.int .i64 t285)).setCell ⟨gb288, 3, none⟩ (.bool false)).setCell ⟨gb287, 1, none⟩ (.int .i64 (wrap64 (t281 + a1)))).heap[gb288]? = some (.cells #[.string t283, .int .i64 t284, .int .i64 t285, .bool false] 60 (0, 0))) := ⟨blk⟩
            have n4_ : Aside0 (Below w.heap.size w ((((((((w38.setCell ⟨gb287, 0, none⟩ (.int .i64 t280)).setCell ⟨gb287, 1, none⟩ (.int .i64 t281)).setCell ⟨gb287, 2, none⟩ (.string t282)).setCell ⟨gb288, 0, none⟩ (.string t283)).setCell ⟨gb288, 1, none⟩ (.int .i64 t284)).setCell ⟨gb288, 2, none⟩ (.int .i64 t285)).setCell ⟨gb288, 3, none⟩ (.bool false)).setCell ⟨gb287, 1, none⟩ (.int .i64 (wrap64 (t281 + a1))))) := ⟨bel⟩
            (try clear HO_7)
            (try clear BK278)
            (try clear BK287)
            (try clear BK288)
            (try clear HB)
            generalize ((((((((w38.setCell ⟨gb287, 0, none⟩ (.int .i64 t280)).setCell ⟨gb287, 1, none⟩ (.int .i64 t281)).setCell ⟨gb287, 2, none⟩ (.string t282)).setCell ⟨gb288, 0, none⟩ (.string t283)).setCell ⟨gb288, 1, none⟩ (.int .i64 t284)).setCell ⟨gb288, 2, none⟩ (.int .i64 t285)).setCell ⟨gb288, 3, none⟩ (.bool false)).setCell ⟨gb287, 1, none⟩ (.int .i64 (wrap64 (t281 + a1)))) = w49 at n0_ n1_ n2_ n3_ n4_ ⊢
            have HO_7 := n0_
            have BK278 := n1_
            have BK287 := n2_
            have BK288 := n3_
            have HB := n4_
            clear n0_ n1_ n2_ n3_ n4_
            have n0_ := Aside0.mk (Kd.R_drew HO_7.out)
            have n1_ := Aside0.mk (blk_drew BK278.out)
            have n2_ := Aside0.mk (blk_drew BK287.out)
            have n3_ := Aside0.mk (blk_drew BK288.out)
            have n4_ := Aside0.mk (below_drew1 HB.out)
            clear HO_7
            clear BK278
            clear BK287
            clear BK288
            clear HB
            have HO_7 := n0_
            have BK278 := n1_
            have BK287 := n2_
            have BK288 := n3_
            have HB := n4_
            clear n0_ n1_ n2_ n3_ n4_
            refine start_ (n := 7) (S := fun w' => w'.cell? ⟨gb287, 0, none⟩ = some (.int .i64 t280) ∧ w'.cell? ⟨gb287, 1, none⟩ = some (.int .i64 (wrap64 (t281 + a1))) ∧ w'.cell? ⟨gb287, 2, none⟩ = some (.string t282) ∧ w'.cell? ⟨gb288, 0, none⟩ = some (.string t283) ∧ w'.cell? ⟨gb288, 1, none⟩ = some (.int .i64 t284) ∧ w'.cell? ⟨gb288, 2, none⟩ = some (.int .i64 t285) ∧ w'.cell? ⟨gb288, 3, none⟩ = some (.bool false)) (ds := []) #[false, false, false, false, false, false, false] (by kernel_rfl) rfl rfl ⟨(blk_cell BK287.out 0).trans rfl, (blk_cell BK287.out 1).trans rfl, (blk_cell BK287.out 2).trans rfl, (blk_cell BK288.out 0).trans rfl, (blk_cell BK288.out 1).trans rfl, (blk_cell BK288.out 2).trans rfl, (blk_cell BK288.out 3).trans rfl⟩ (fun hHeld => ?_)
            generalize w49.drew = w50 at HO_7 BK278 BK287 BK288 HB hHeld ⊢
            refine pure_ (i := 0) (N := some 30) (v := ?_) (a' := ?_) #[true, false, false, false, false, false, false] rfl rfl (by kernel_rfl) (fun _ _ _ h => h) (Or.inl ⟨by rfl, ?_⟩) ?_ ?_
            rotate_left
            · intro w'
              go_simp
              with_reducible rfl
            rotate_left
            · simp only [Act.put, List.setIfInBounds_toArray, List.set_cons_zero, List.set_cons_succ, i64_w, i32_w]
              rfl
            refine take_ (i := 1) (N := some 31) (v := ?_) (a' := ?_) #[true, true, false, false, false, false, false] rfl rfl (by kernel_rfl) (fun _ _ _ h => h) (Or.inl ⟨by rfl, ?_⟩) hHeld ?_ ?_
            rotate_left
            · rintro w' ⟨s0, s1, s2, s3, s4, s5, s6⟩
              go_simp
              with_reducible rfl
            rotate_left
            · simp only [Act.put, List.setIfInBounds_toArray, List.set_cons_zero, List.set_cons_succ, i64_w, i32_w]
              rfl
            refine take_ (i := 4) (N := some 34) (v := ?_) (a' := ?_) #[true, true, false, false, true, false, false] rfl rfl (by kernel_rfl) (fun _ _ _ h => h) (Or.inl ⟨by rfl, ?_⟩) hHeld ?_ ?_
            rotate_left
            · rintro w' ⟨s0, s1, s2, s3, s4, s5, s6⟩
              go_simp
              with_reducible rfl
            rotate_left
            · simp only [Act.put, List.setIfInBounds_toArray, List.set_cons_zero, List.set_cons_succ, i64_w, i32_w]
              rfl
            refine one_ (i := 2) (N := some 32) #[true, true, true, false, true, false, false] rfl rfl (by kernel_rfl) (by decide) (fun K hK => ?_)
            refine value_ (w1 := ?_) (v := ?_) (by rfl) rfl ?_ ?_
            rotate_left 2
            · go_simp
              constructor
              · rfl
              · rfl
            refine hK.out _ _ ⟨(blk_cell (blk_alloc BK287.out _) 0).trans rfl, (blk_cell (blk_alloc BK287.out _) 1).trans rfl, (blk_cell (blk_alloc BK287.out _) 2).trans rfl, (blk_cell (blk_alloc BK288.out _) 0).trans rfl, (blk_cell (blk_alloc BK288.out _) 1).trans rfl, (blk_cell (blk_alloc BK288.out _) 2).trans rfl, (blk_cell (blk_alloc BK288.out _) 3).trans rfl⟩ (fun hHeld => ?_)
            clear hK K
            refine norm_ (a' := ?_) ?_ ?_
            rotate_left
            · show Act.put _ (some 32) _ = _
              simp only [Act.put, List.setIfInBounds_toArray, List.set_cons_zero, List.set_cons_succ, i64_w, i32_w]
              rfl
            refine one_ (i := 3) (N := some 33) #[true, true, true, true, true, false, false] rfl rfl (by kernel_rfl) (by decide) (fun K hK => ?_)
            refine Kd.R_append_step k47 (w0 := w) w.heap.size (by rfl) (.tmp 30) (.tmp 32) 30 47 (.agg #[(.int .i64 0), (.int .i64 0), (.string ⟨#[]⟩)]) 32 rfl Try.underlying30 info47 rfl (by decide) (by omega) u7 x7_1 (⟨t280, wrap64 (t281 + a1), t282⟩ : S47) [.int .i64 t280, .int .i64 (wrap64 (t281 + a1)), .string t282] (fun k_ => k_ ≠ gb287) (fun _ => False) rfl rfl ?aP (fun _ hk => hk.elim) ?aF ?aO ?aB ?aS ?aL ?_
            (case aP => exact k47_mkM _ _ _ (⟨t280, wrap64 (t281 + a1), t282⟩ : S47))
            (case aB => exact (bel))
            (case aF => exact (fun k_ hk => Kd.freshB (blk_below BK287.out bll) k_ hk))
            (case aO => exact (Kd.R_below HO_7.out bll))
            (case aS => exact bsz)
            (case aL => have := LMc32.out; omega)
            intro v290 w51 ho hb hg hat
            rw [← Ny289.out] at ho
            have n0_ := Aside0.mk (blk_grown (blk_below BK278.out bll) hg (Kd.R_ne HO_7.out BK278.out (by decide)))
            have n1_ := Aside0.mk (blk_grown (blk_below BK287.out bll) hg (Kd.R_away HO_7.out (fun _ hk => hk)))
            have n2_ := Aside0.mk (blk_grown (blk_below BK288.out bll) hg (Kd.R_ne HO_7.out BK288.out (by decide)))
            have n3_ := Aside0.mk (hb)
            have n4_ := Aside0.mk (ho)
            clear BK278
            clear BK287
            clear BK288
            clear HB
            clear HO_7
            have BK278 := n0_
            have BK287 := n1_
            have BK288 := n2_
            have HB := n3_
            have HO291 := n4_
            clear n0_ n1_ n2_ n3_ n4_
            clear ho hb hg hat
            refine hK.out _ _ ⟨(blk_cell BK287.out 0).trans rfl, (blk_cell BK287.out 1).trans rfl, (blk_cell BK287.out 2).trans rfl, (blk_cell BK288.out 0).trans rfl, (blk_cell BK288.out 1).trans rfl, (blk_cell BK288.out 2).trans rfl, (blk_cell BK288.out 3).trans rfl⟩ (fun hHeld => ?_)
            clear hK K
            refine norm_ (a' := ?_) ?_ ?_
            rotate_left
            · show Act.put _ (some 33) _ = _
              simp only [Act.put, List.setIfInBounds_toArray, List.set_cons_zero, List.set_cons_succ, i64_w, i32_w]
              rfl
            refine pure_ (i := 5) (N := some 7) (v := ?_) (a' := ?_) #[true, true, true, true, true, true, false] rfl rfl (by kernel_rfl) (fun _ _ _ h => h) (Or.inl ⟨by rfl, ?_⟩) ?_ ?_
            rotate_left
            · intro w'
              go_simp
              with_reducible rfl
            rotate_left
            · simp only [Act.put, List.setIfInBounds_toArray, List.set_cons_zero, List.set_cons_succ, i64_w, i32_w]
              rfl
            refine one_ (i := 6) (N := none) #[true, true, true, true, true, true, true] rfl rfl (by kernel_rfl) (by decide) (fun K hK => ?_)
            have hs52 : w51.cell? ⟨gb278, 0, none⟩ = some (.string x279000_1) := (blk_cell BK278.out 0).trans rfl
            have hfs52 := blk_frozen BK278.out 0
            have hns52_1 := NB287_278.out
            have hns52_2 := NB288_278.out
            have hms52_1 := NB278_287.out
            have hms52_2 := NB278_288.out
            have hs53 : w51.cell? ⟨gb278, 1, none⟩ = some (.int .i64 x279001_1) := (blk_cell BK278.out 1).trans rfl
            have hfs53 := blk_frozen BK278.out 1
            have hns53_1 := NB287_278.out
            have hns53_2 := NB288_278.out
            have hms53_1 := NB278_287.out
            have hms53_2 := NB278_288.out
            have hs54 : w51.cell? ⟨gb278, 2, none⟩ = some (.int .i64 x279002_1) := (blk_cell BK278.out 2).trans rfl
            have hfs54 := blk_frozen BK278.out 2
            have hns54_1 := NB287_278.out
            have hns54_2 := NB288_278.out
            have hms54_1 := NB278_287.out
            have hms54_2 := NB278_288.out
            have hs55 : w51.cell? ⟨gb278, 3, none⟩ = some (.bool x279003_1) := (blk_cell BK278.out 3).trans rfl
            have hfs55 := blk_frozen BK278.out 3
            have hns55_1 := NB287_278.out
            have hns55_2 := NB288_278.out
            have hms55_1 := NB278_287.out
            have hms55_2 := NB278_288.out
            refine skip_ (w1 := ?_) (by rfl) rfl ?_ ?_
            rotate_left
            · go_simp
              rfl
            refine hK.out _ _ ⟨((cell_far (p := ⟨gb278, _, none⟩) NB287_278.out _).trans (((cell_far (p := ⟨gb278, _, none⟩) NB287_278.out _).trans (((cell_far (p := ⟨gb278, _, none⟩) NB287_278.out _).trans (((cell_far (p := ⟨gb278, _, none⟩) NB287_278.out _).trans (hHeld.1)))))))), ((cell_far (p := ⟨gb278, _, none⟩) NB287_278.out _).trans (((cell_far (p := ⟨gb278, _, none⟩) NB287_278.out _).trans (((cell_far (p := ⟨gb278, _, none⟩) NB287_278.out _).trans (((cell_far (p := ⟨gb278, _, none⟩) NB287_278.out _).trans (hHeld.2.1)))))))), ((cell_far (p := ⟨gb278, _, none⟩) NB287_278.out _).trans (((cell_far (p := ⟨gb278, _, none⟩) NB287_278.out _).trans (((cell_far (p := ⟨gb278, _, none⟩) NB287_278.out _).trans (((cell_far (p := ⟨gb278, _, none⟩) NB287_278.out _).trans (hHeld.2.2.1)))))))), ((cell_far (p := ⟨gb278, _, none⟩) NB288_278.out _).trans (((cell_far (p := ⟨gb278, _, none⟩) NB288_278.out _).trans (((cell_far (p := ⟨gb278, _, none⟩) NB288_278.out _).trans (((cell_far (p := ⟨gb278, _, none⟩) NB288_278.out _).trans (hHeld.2.2.2.1)))))))), ((cell_far (p := ⟨gb278, _, none⟩) NB288_278.out _).trans (((cell_far (p := ⟨gb278, _, none⟩) NB288_278.out _).trans (((cell_far (p := ⟨gb278, _, none⟩) NB288_278.out _).trans (((cell_far (p := ⟨gb278, _, none⟩) NB288_278.out _).trans (hHeld.2.2.2.2.1)))))))), ((cell_far (p := ⟨gb278, _, none⟩) NB288_278.out _).trans (((cell_far (p := ⟨gb278, _, none⟩) NB288_278.out _).trans (((cell_far (p := ⟨gb278, _, none⟩) NB288_278.out _).trans (((cell_far (p := ⟨gb278, _, none⟩) NB288_278.out _).trans (hHeld.2.2.2.2.2.1)))))))), ((cell_far (p := ⟨gb278, _, none⟩) NB288_278.out _).trans (((cell_far (p := ⟨gb278, _, none⟩) NB288_278.out _).trans (((cell_far (p := ⟨gb278, _, none⟩) NB288_278.out _).trans (((cell_far (p := ⟨gb278, _, none⟩) NB288_278.out _).trans (hHeld.2.2.2.2.2.2))))))))⟩ (fun hHeld => ?_)
            clear hK K
            refine done_ (by kernel_rfl) ?_
            have hcz56_0 := cl0 BK278.out
            have hcz56_1 := cl1 BK278.out
            have hcz56_2 := cl2 BK278.out
            have hcz56_3 := cl3 BK278.out
            have hfz56_0 := blk_frozen BK278.out 0
            have hfz56_1 := blk_frozen BK278.out 1
            have hfz56_2 := blk_frozen BK278.out 2
            have hfz56_3 := blk_frozen BK278.out 3
            try go_wp2_with (first | ((with_reducible refine gate_dst (N := 8) rfl ?_); refine box_event ?hg (N := 8) ?hd (cs := #[.string (⟨#[]⟩ : ByteArray), .int .i64 0, .int .i64 0, .bool false]) (t := 60) ?hr ?_; (case hd => rfl); (case hg => rfl); (case hr => first | (go_simp; done) | (go_simp; rfl)); intro gb292 hg w57 hbox hb; have n0_ := Aside0.mk (Kd.R_below (by (with_reducible repeat (first | apply Kd.R_alloc | apply Kd.R_drewN | apply Kd.R_drew)); exact (Kd.R_mono (Kd.R_far (p := ⟨gb278, 3, none⟩) (Kd.R_far (p := ⟨gb278, 2, none⟩) (Kd.R_far (p := ⟨gb278, 1, none⟩) (Kd.R_far (p := ⟨gb278, 0, none⟩) (Kd.R_types HO291.out BK278.out (by decide)) (fun _ hk => hk.2) (.string t283)) (fun _ hk => hk.2) (.int .i64 t284)) (fun _ hk => hk.2) (.int .i64 t285)) (fun _ hk => hk.2) (.bool false)) (fun _ h_ => h_.1))) hb); have n1_ := Aside0.mk (blk_below (g := gb278) (o := .cells #[.string t283, .int .i64 t284, .int .i64 t285, .bool false] 60 (0, 0)) (blk) hb); have n2_ := Aside0.mk (blk_below (g := gb287) blk hb); have n3_ := Aside0.mk (blk_below (g := gb288) blk hb); have n4_ := Aside0.mk (below_step (bel) hb); have n5_ := Aside0.mk (hbox); have n6_ := Aside0.mk ((by rw [hg]; exact bsz : w.heap.size ≤ gb292)); have n7_ := Aside0.mk ((by rw [hg]; exact bsz : w.heap.size ≤ gb292)); have n8_ := Aside0.mk ((by rw [hg]; exact Nat.ne_of_lt (blk_lt (g := gb278) (o := .cells #[.string t283, .int .i64 t284, .int .i64 t285, .bool false] 60 (0, 0)) (blk)) : gb278 ≠ gb292)); have n9_ := Aside0.mk ((by rw [hg]; exact Nat.ne_of_gt (blk_lt (g := gb278) (o := .cells #[.string t283, .int .i64 t284, .int .i64 t285, .bool false] 60 (0, 0)) (blk)) : gb292 ≠ gb278)); have n10_ := Aside0.mk ((by rw [hg]; exact Nat.ne_of_lt (blk_lt (g := gb287) blk) : gb287 ≠ gb292)); have n11_ := Aside0.mk ((by rw [hg]; exact Nat.ne_of_gt (blk_lt (g := gb287) blk) : gb292 ≠ gb287)); have n12_ := Aside0.mk ((by rw [hg]; exact Nat.ne_of_lt (blk_lt (g := gb288) blk) : gb288 ≠ gb292)); have n13_ := Aside0.mk ((by rw [hg]; exact Nat.ne_of_gt (blk_lt (g := gb288) blk) : gb292 ≠ gb288)); clear HO291; clear BK278; clear BK287; clear BK288; clear HB; have HO291 := n0_; have BK278 := n1_; have BK287 := n2_; have BK288 := n3_; have HB := n4_; have BK292 := n5_; have GW292 := n6_; have GE292 := n7_; have NB278_292 := n8_; have NB292_278 := n9_; have NB287_292 := n10_; have NB292_287 := n11_; have NB288_292 := n12_; have NB292_288 := n13_; clear n0_ n1_ n2_ n3_ n4_ n5_ n6_ n7_ n8_ n9_ n10_ n11_ n12_ n13_; clear hb hbox hg; have hnb58 := NB292_278.out; have hnc58 := NB278_292.out; have hnb59 := NB292_287.out; have hnc59 := NB287_292.out; have hnb60 := NB292_288.out; have hnc60 := NB288_292.out; have hcz61_0 := cl0 BK292.out; have hfz61_0 := blk_frozen BK292.out 0; have hcz62_1 := cl1 BK292.out; have hfz62_1 := blk_frozen BK292.out 1; have hcz63_2 := cl2 BK292.out; have hfz63_2 := blk_frozen BK292.out 2; have hcz64_3 := cl3 BK292.out; have hfz64_3 := blk_frozen BK292.out 3))
            go_roundg k1
            case measure => have := HK1.out; omega
            case rel => exact ⟨(y289), (t283), (t284), (t285), (false), (gb292), (by first | rfl | (simp; done)), H', ⟨by have := HK1.out; omega⟩, ⟨by (with_reducible repeat (first | apply Kd.R_alloc | apply Kd.R_drewN | apply Kd.R_drew)); exact Kd.R_mono (Kd.R_far (p := ⟨gb292, 3, none⟩) (Kd.R_far (p := ⟨gb292, 2, none⟩) (Kd.R_far (p := ⟨gb292, 1, none⟩) (Kd.R_far (p := ⟨gb292, 0, none⟩) (Kd.R_types HO291.out BK292.out (by decide)) (fun _ hk => hk.2) (.string t283)) (fun _ hk => hk.2) (.int .i64 t284)) (fun _ hk => hk.2) (.int .i64 t285)) (fun _ hk => hk.2) (.bool false)) (fun _ hk => trivial)⟩, ⟨blk⟩, GW292, GE292, ⟨bel⟩⟩
          · rw [if_neg c32] at H
            exact absurd H (by simp)
      · rw [if_neg c11] at H
        have c11b0 : decide (0 < t279) = false := decide_eq_false c11
        clear c11
        simp only [Option.some.injEq, Prod.mk.injEq] at H
        obtain ⟨rfl, rfl, rfl⟩ := H
        have hcz65_0 := cl0 BK278.out
        have hcz65_1 := cl1 BK278.out
        have hcz65_2 := cl2 BK278.out
        have hcz65_3 := cl3 BK278.out
        have hfz65_0 := blk_frozen BK278.out 0
        have hfz65_1 := blk_frozen BK278.out 1
        have hfz65_2 := blk_frozen BK278.out 2
        have hfz65_3 := blk_frozen BK278.out 3
        go_wp2_with (first | ((with_reducible refine gate_callee (f := 45) rfl ?_); refine goesL_ (some 14) rfl rfl Try.func45 (by kernel_rfl) rfl #[.agg #[.string x279000_1, .int .i64 x279001_1, .int .i64 x279002_1, .bool x279003_1]] rfl gAr ?_; (with_reducible refine (cursor_Left.calls x279000_1 x279001_1 x279002_1 x279003_1 t279 _ A10.out).mono ?_); rintro e w66 ⟨rfl, hb⟩; refine ⟨_, rfl, ?_⟩; have n0_ := Aside0.mk (Kd.R_below (Kd.R_below HO_7.out bll) hb); have n1_ := Aside0.mk (blk_below (blk_below BK278.out bll) hb); have n2_ := Aside0.mk (below_step (bel) hb); clear HO_7; clear BK278; clear HB; have HO_7 := n0_; have BK278 := n1_; have HB := n2_; clear n0_ n1_ n2_; (try clear hb)))
        go_ret3
        exact ⟨_, rtE, by (with_reducible repeat (first | apply Kd.R_alloc | apply Kd.R_drewN | apply Kd.R_drew)); exact HO_7.out, bel⟩

/-! ### frame_size: function 47 -/
def frame_size.f (a0 : ByteArray) : Option (Int) := if 2 < (a0.size : Int) then (if 3 < (a0.size : Int) then (some (Go.bits .or .i64 (wrap64 ((wrap64 (bt a0 2)) * 256)) (wrap64 (bt a0 3)))) else (none)) else (none)
set_option maxHeartbeats 8000000 in
set_option maxRecDepth 100000 in
theorem frame_size.calls (a0 : ByteArray) (r : Int) (w : World) (h : frame_size.f a0 = some r) :
    Calls Try.prog 47 #[.string a0] w fun e w' => e = .returned (.int .i64 r) ∧ Drawn0 w w' := by
  have H : (if 2 < (a0.size : Int) then (if 3 < (a0.size : Int) then (some (Go.bits .or .i64 (wrap64 ((wrap64 (bt a0 2)) * 256)) (wrap64 (bt a0 3)))) else (none)) else (none)) = some r := h
  clear h
  by_cases c2 : 2 < (a0.size : Int)
  · rw [if_pos c2] at H
    have c2b0 : decide (2 < (a0.size : Int)) = true := decide_eq_true c2
    have c2b1 : decide (2 < a0.size) = true := decide_eq_true (by omega)
    clear c2
    by_cases c4 : 3 < (a0.size : Int)
    · rw [if_pos c4] at H
      have c4b0 : decide (3 < (a0.size : Int)) = true := decide_eq_true c4
      have c4b1 : decide (3 < a0.size) = true := decide_eq_true (by omega)
      clear c4
      obtain rfl := Option.some.inj H
      have p3 : 0 ≤ (2 : Int) := (by omega)
      have q3 : 2 < a0.size := (by have : (2 : Int) < (a0.size : Int) := odt; omega)
      have hx3 : ∀ h : 2 < a0.size, ((a0[2]'h).toNat : Int) = bt a0 2 := bt_at a0 2
      clear p3
      have qi3 : (2 < (a0.size : Int)) = True := eq_true (odt)
      replace q3 := eq_true q3
      have p5 : 0 ≤ (3 : Int) := (by omega)
      have q5 : 3 < a0.size := (by have : (3 : Int) < (a0.size : Int) := odt; omega)
      have hx5 : ∀ h : 3 < a0.size, ((a0[3]'h).toNat : Int) = bt a0 3 := bt_at a0 3
      clear p5
      have qi5 : (3 < (a0.size : Int)) = True := eq_true (odt)
      replace q5 := eq_true q5
      go_enter Try.func47, Try.ntmps47
      go_wp2
      repeat (go_quiet (fail); try go_wp2)
      go_ret
      exact ⟨rfS, by repeat (first | exact Drawn0.refl _ | apply Drawn0.step)⟩
    · rw [if_neg c4] at H
      exact absurd H (by simp)
  · rw [if_neg c2] at H
    exact absurd H (by simp)

/-! ### frame_Body: function 20 -/
def frame_Body.f (a0 : ByteArray) : Option (ByteArray × Int × Int) := if (a0.size : Int) > 65535 then (some ((⟨#[]⟩ : ByteArray), 65535, 10)) else (if (a0.size : Int) < 4 then (some ((⟨#[]⟩ : ByteArray), (a0.size : Int), 2)) else (if 0 < (a0.size : Int) then (if (bt a0 0) = 42 then (if 1 < (a0.size : Int) then (if (bt a0 1) = 2 then ((frame_size.f a0).bind fun t293 => (if (a0.size : Int) < (wrap64 (4 + t293)) then (some ((⟨#[]⟩ : ByteArray), (a0.size : Int), 2)) else ((frame_size.f a0).bind fun t294 => (if 4 ≤ (wrap64 (4 + t294)) then (if (wrap64 (4 + t294)) ≤ (a0.size : Int) then (some (a0.extract 4 ((wrap64 (4 + t294)) : Int).toNat, 0, 0)) else (none)) else (none))))) else (some ((⟨#[]⟩ : ByteArray), 1, 4))) else (none)) else (some ((⟨#[]⟩ : ByteArray), 0, 4))) else (none)))
set_option maxHeartbeats 8000000 in
set_option maxRecDepth 100000 in
theorem frame_Body.calls (a0 : ByteArray) (r1 : ByteArray) (r2 : Int) (r3 : Int) (w : World) (h : frame_Body.f a0 = some (r1, r2, r3)) :
    Calls Try.prog 20 #[.string a0] w fun e w' => e = .returned (.tuple #[.string r1, .int .i64 r2, .int .i64 r3]) ∧ Drawn0 w w' := by
  have H : (if (a0.size : Int) > 65535 then (some ((⟨#[]⟩ : ByteArray), 65535, 10)) else (if (a0.size : Int) < 4 then (some ((⟨#[]⟩ : ByteArray), (a0.size : Int), 2)) else (if 0 < (a0.size : Int) then (if (bt a0 0) = 42 then (if 1 < (a0.size : Int) then (if (bt a0 1) = 2 then ((frame_size.f a0).bind fun t293 => (if (a0.size : Int) < (wrap64 (4 + t293)) then (some ((⟨#[]⟩ : ByteArray), (a0.size : Int), 2)) else ((frame_size.f a0).bind fun t294 => (if 4 ≤ (wrap64 (4 + t294)) then (if (wrap64 (4 + t294)) ≤ (a0.size : Int) then (some (a0.extract 4 ((wrap64 (4 + t294)) : Int).toNat, 0, 0)) else (none)) else (none))))) else (some ((⟨#[]⟩ : ByteArray), 1, 4))) else (none)) else (some ((⟨#[]⟩ : ByteArray), 0, 4))) else (none)))) = some (r1, r2, r3) := h
  clear h
  by_cases c2 : (a0.size : Int) > 65535
  · rw [if_pos c2] at H
    have c2b0 : decide (65535 < (a0.size : Int)) = true := decide_eq_true c2
    have c2b1 : decide (65535 < a0.size) = true := decide_eq_true (by omega)
    clear c2
    simp only [Option.some.injEq, Prod.mk.injEq] at H
    obtain ⟨rfl, rfl, rfl⟩ := H
    go_enter Try.func20, Try.ntmps20
    go_wp2
    go_ret3
    exact ⟨rfS, by repeat (first | exact Drawn0.refl _ | apply Drawn0.step)⟩
  · rw [if_neg c2] at H
    have c2b0 : decide (65535 < (a0.size : Int)) = false := decide_eq_false c2
    have c2b1 : decide (65535 < a0.size) = false := decide_eq_false (by omega)
    clear c2
    by_cases c3 : (a0.size : Int) < 4
    · rw [if_pos c3] at H
      have c3b0 : decide ((a0.size : Int) < 4) = true := decide_eq_true c3
      have c3b1 : decide (a0.size < 4) = true := decide_eq_true (by omega)
      clear c3
      simp only [Option.some.injEq, Prod.mk.injEq] at H
      obtain ⟨rfl, rfl, rfl⟩ := H
      go_enter Try.func20, Try.ntmps20
      go_wp2
      go_ret3
      exact ⟨rfS, by repeat (first | exact Drawn0.refl _ | apply Drawn0.step)⟩
    · rw [if_neg c3] at H
      have c3b0 : decide ((a0.size : Int) < 4) = false := decide_eq_false c3
      have c3b1 : decide (a0.size < 4) = false := decide_eq_false (by omega)
      clear c3
      by_cases c4 : 0 < (a0.size : Int)
      · rw [if_pos c4] at H
        have c4b0 : decide (0 < (a0.size : Int)) = true := decide_eq_true c4
        have c4b1 : decide (0 < a0.size) = true := decide_eq_true (by omega)
        clear c4
        by_cases c6 : (bt a0 0) = 42
        · rw [if_pos c6] at H
          have c6b0 : ((bt a0 0) == 42) = true := beq_iff_eq.mpr c6
          have c6b1 : ((bt a0 0) != 42) = false := bne_eq_false_iff_eq.mpr c6
          clear c6
          by_cases c7 : 1 < (a0.size : Int)
          · rw [if_pos c7] at H
            have c7b0 : decide (1 < (a0.size : Int)) = true := decide_eq_true c7
            have c7b1 : decide (1 < a0.size) = true := decide_eq_true (by omega)
            clear c7
            by_cases c9 : (bt a0 1) = 2
            · rw [if_pos c9] at H
              have c9b0 : ((bt a0 1) == 2) = true := beq_iff_eq.mpr c9
              have c9b1 : ((bt a0 1) != 2) = false := bne_eq_false_iff_eq.mpr c9
              clear c9
              replace H := Option.bind_eq_some_iff.mp H
              obtain ⟨t293, A100, H⟩ := H
              replace H : (if (a0.size : Int) < (wrap64 (4 + t293)) then (some ((⟨#[]⟩ : ByteArray), (a0.size : Int), 2)) else ((frame_size.f a0).bind fun t294 => (if 4 ≤ (wrap64 (4 + t294)) then (if (wrap64 (4 + t294)) ≤ (a0.size : Int) then (some (a0.extract 4 ((wrap64 (4 + t294)) : Int).toNat, 0, 0)) else (none)) else (none)))) = some (r1, r2, r3) := H
              have A10 := Aside0.mk A100
              clear A100
              by_cases c11 : (a0.size : Int) < (wrap64 (4 + t293))
              · rw [if_pos c11] at H
                have c11b0 : decide ((a0.size : Int) < (wrap64 (4 + t293))) = true := decide_eq_true c11
                clear c11
                simp only [Option.some.injEq, Prod.mk.injEq] at H
                obtain ⟨rfl, rfl, rfl⟩ := H
                have p5 : 0 ≤ (0 : Int) := (by omega)
                have q5 : 0 < a0.size := (by have : (0 : Int) < (a0.size : Int) := odt; omega)
                have hx5 : ∀ h : 0 < a0.size, ((a0[0]'h).toNat : Int) = bt a0 0 := bt_at a0 0
                clear p5
                have qi5 : (0 < (a0.size : Int)) = True := eq_true (odt)
                replace q5 := eq_true q5
                have p8 : 0 ≤ (1 : Int) := (by omega)
                have q8 : 1 < a0.size := (by have : (1 : Int) < (a0.size : Int) := odt; omega)
                have hx8 : ∀ h : 1 < a0.size, ((a0[1]'h).toNat : Int) = bt a0 1 := bt_at a0 1
                clear p8
                have qi8 : (1 < (a0.size : Int)) = True := eq_true (odt)
                replace q8 := eq_true q8
                go_enter Try.func20, Try.ntmps20
                go_wp2_with (first | ((with_reducible refine gate_callee (f := 47) rfl ?_); refine goesL_ (some 26) rfl rfl Try.func47 (by kernel_rfl) rfl #[.string a0] rfl gAr ?_; (with_reducible refine (frame_size.calls a0 t293 _ A10.out).mono ?_); rintro e w' ⟨rfl, ⟨nd, rfl⟩⟩; refine ⟨_, rfl, ?_⟩))
                go_ret3
                exact ⟨rfS, by repeat (first | exact Drawn0.refl _ | apply Drawn0.step)⟩
              · rw [if_neg c11] at H
                have c11b0 : decide ((a0.size : Int) < (wrap64 (4 + t293))) = false := decide_eq_false c11
                clear c11
                replace H := Option.bind_eq_some_iff.mp H
                obtain ⟨t294, A120, H⟩ := H
                replace H : (if 4 ≤ (wrap64 (4 + t294)) then (if (wrap64 (4 + t294)) ≤ (a0.size : Int) then (some (a0.extract 4 ((wrap64 (4 + t294)) : Int).toNat, 0, 0)) else (none)) else (none)) = some (r1, r2, r3) := H
                have A12 := Aside0.mk A120
                clear A120
                by_cases c13 : 4 ≤ (wrap64 (4 + t294))
                · rw [if_pos c13] at H
                  have c13b0 := eq_true c13
                  have c13b1 : decide (4 ≤ (wrap64 (4 + t294))) = true := decide_eq_true c13
                  by_cases c14 : (wrap64 (4 + t294)) ≤ (a0.size : Int)
                  · rw [if_pos c14] at H
                    have c14b0 := eq_true c14
                    have c14b1 : decide ((wrap64 (4 + t294)) ≤ (a0.size : Int)) = true := decide_eq_true c14
                    simp only [Option.some.injEq, Prod.mk.injEq] at H
                    obtain ⟨rfl, rfl, rfl⟩ := H
                    have p5 : 0 ≤ (0 : Int) := (by omega)
                    have q5 : 0 < a0.size := (by have : (0 : Int) < (a0.size : Int) := odt; omega)
                    have hx5 : ∀ h : 0 < a0.size, ((a0[0]'h).toNat : Int) = bt a0 0 := bt_at a0 0
                    clear p5
                    have qi5 : (0 < (a0.size : Int)) = True := eq_true (odt)
                    replace q5 := eq_true q5
                    have p8 : 0 ≤ (1 : Int) := (by omega)
                    have q8 : 1 < a0.size := (by have : (1 : Int) < (a0.size : Int) := odt; omega)
                    have hx8 : ∀ h : 1 < a0.size, ((a0[1]'h).toNat : Int) = bt a0 1 := bt_at a0 1
                    clear p8
                    have qi8 : (1 < (a0.size : Int)) = True := eq_true (odt)
                    replace q8 := eq_true q8
                    go_enter Try.func20, Try.ntmps20
                    go_wp2_with (first | ((with_reducible refine gate_callee (f := 47) rfl ?_); refine goesL_ (some 26) rfl rfl Try.func47 (by kernel_rfl) rfl #[.string a0] rfl gAr ?_; (with_reducible refine (frame_size.calls a0 t293 _ A10.out).mono ?_); rintro e w' ⟨rfl, ⟨nd, rfl⟩⟩; refine ⟨_, rfl, ?_⟩) | ((with_reducible refine gate_callee (f := 47) rfl ?_); refine goesL_ (some 32) rfl rfl Try.func47 (by kernel_rfl) rfl #[.string a0] rfl gAr ?_; (with_reducible refine (frame_size.calls a0 t294 _ A12.out).mono ?_); rintro e w' ⟨rfl, ⟨nd, rfl⟩⟩; refine ⟨_, rfl, ?_⟩))
                    go_ret3
                    exact ⟨rfS, by repeat (first | exact Drawn0.refl _ | apply Drawn0.step)⟩
                  · rw [if_neg c14] at H
                    exact absurd H (by simp)
                · rw [if_neg c13] at H
                  exact absurd H (by simp)
            · rw [if_neg c9] at H
              have c9b0 : ((bt a0 1) == 2) = false := beq_eq_false_iff_ne.mpr c9
              have c9b1 : ((bt a0 1) != 2) = true := bne_iff_ne.mpr c9
              simp only [Option.some.injEq, Prod.mk.injEq] at H
              obtain ⟨rfl, rfl, rfl⟩ := H
              have p5 : 0 ≤ (0 : Int) := (by omega)
              have q5 : 0 < a0.size := (by have : (0 : Int) < (a0.size : Int) := odt; omega)
              have hx5 : ∀ h : 0 < a0.size, ((a0[0]'h).toNat : Int) = bt a0 0 := bt_at a0 0
              clear p5
              have qi5 : (0 < (a0.size : Int)) = True := eq_true (odt)
              replace q5 := eq_true q5
              have p8 : 0 ≤ (1 : Int) := (by omega)
              have q8 : 1 < a0.size := (by have : (1 : Int) < (a0.size : Int) := odt; omega)
              have hx8 : ∀ h : 1 < a0.size, ((a0[1]'h).toNat : Int) = bt a0 1 := bt_at a0 1
              clear p8
              have qi8 : (1 < (a0.size : Int)) = True := eq_true (odt)
              replace q8 := eq_true q8
              go_enter Try.func20, Try.ntmps20
              go_wp2
              go_ret3
              exact ⟨rfS, by repeat (first | exact Drawn0.refl _ | apply Drawn0.step)⟩
          · rw [if_neg c7] at H
            exact absurd H (by simp)
        · rw [if_neg c6] at H
          have c6b0 : ((bt a0 0) == 42) = false := beq_eq_false_iff_ne.mpr c6
          have c6b1 : ((bt a0 0) != 42) = true := bne_iff_ne.mpr c6
          simp only [Option.some.injEq, Prod.mk.injEq] at H
          obtain ⟨rfl, rfl, rfl⟩ := H
          have p5 : 0 ≤ (0 : Int) := (by omega)
          have q5 : 0 < a0.size := (by have : (0 : Int) < (a0.size : Int) := odt; omega)
          have hx5 : ∀ h : 0 < a0.size, ((a0[0]'h).toNat : Int) = bt a0 0 := bt_at a0 0
          clear p5
          have qi5 : (0 < (a0.size : Int)) = True := eq_true (odt)
          replace q5 := eq_true q5
          go_enter Try.func20, Try.ntmps20
          go_wp2
          go_ret3
          exact ⟨rfS, by repeat (first | exact Drawn0.refl _ | apply Drawn0.step)⟩
      · rw [if_neg c4] at H
        exact absurd H (by simp)

/-! ### frame_Wrap: function 22 -/
def frame_Wrap.f (k : Nat) (a0 : ByteArray) : Option (ByteArray × Bool) := (octet_Put.f k (a0.size : Int) 2).bind fun bt295 => (if bt295.2 = true then (if (a0.size : Int) > 65531 then (some ((⟨#[]⟩ : ByteArray), false)) else (if 2 + bt295.1.size ≤ 9223372036854775807 then (if ((⟨#[42, 2]⟩ : ByteArray) ++ bt295.1).size + a0.size ≤ 9223372036854775807 then (some (((⟨#[42, 2]⟩ : ByteArray) ++ bt295.1) ++ a0, true)) else (none)) else (none))) else (some ((⟨#[]⟩ : ByteArray), false)))
theorem frame_Wrap.mono : ∀ a0 k, LeO (frame_Wrap.f k a0) (frame_Wrap.f (k + 1) a0) := by
  intro a0 k
  unfold frame_Wrap.f
  repeat' first
      | (with_reducible exact octet_Put.mono _ _ _)
      | (with_reducible exact LeO.refl _)
      | (with_reducible exact LeO.none _)
      | (with_reducible refine LeO.ite ?_ ?_)
      | (with_reducible refine LeO.bind ?_ (fun _ => ?_))
      | exact octet_Put.mono _ _ _
      | exact LeO.none _
      | refine LeO.ite ?_ ?_
      | refine LeO.bind ?_ (fun _ => ?_)
set_option maxHeartbeats 8000000 in
set_option maxRecDepth 100000 in
theorem frame_Wrap.calls (k : Nat) (a0 : ByteArray) (r1 : ByteArray) (r2 : Bool) (w : World) (h : frame_Wrap.f k a0 = some (r1, r2)) :
    Calls Try.prog 22 #[.string a0] w fun e w' => e = .returned (.tuple #[.string r1, .bool r2]) ∧ Below w.heap.size w w' := by
  have HB := Aside0.mk (Below.refl w.heap.size w)
  have H : ((octet_Put.f k (a0.size : Int) 2).bind fun bt295 => (if bt295.2 = true then (if (a0.size : Int) > 65531 then (some ((⟨#[]⟩ : ByteArray), false)) else (if 2 + bt295.1.size ≤ 9223372036854775807 then (if ((⟨#[42, 2]⟩ : ByteArray) ++ bt295.1).size + a0.size ≤ 9223372036854775807 then (some (((⟨#[42, 2]⟩ : ByteArray) ++ bt295.1) ++ a0, true)) else (none)) else (none))) else (some ((⟨#[]⟩ : ByteArray), false)))) = some (r1, r2) := h
  clear h
  replace H := Option.bind_eq_some_iff.mp H
  obtain ⟨⟨t295, t296⟩, A20, H⟩ := H
  replace H : (if t296 = true then (if (a0.size : Int) > 65531 then (some ((⟨#[]⟩ : ByteArray), false)) else (if 2 + t295.size ≤ 9223372036854775807 then (if ((⟨#[42, 2]⟩ : ByteArray) ++ t295).size + a0.size ≤ 9223372036854775807 then (some (((⟨#[42, 2]⟩ : ByteArray) ++ t295) ++ a0, true)) else (none)) else (none))) else (some ((⟨#[]⟩ : ByteArray), false))) = some (r1, r2) := H
  have A2 := Aside0.mk A20
  clear A20
  by_cases c3 : t296 = true
  · subst c3
    have H1 : (if (a0.size : Int) > 65531 then (some ((⟨#[]⟩ : ByteArray), false)) else (if 2 + t295.size ≤ 9223372036854775807 then (if ((⟨#[42, 2]⟩ : ByteArray) ++ t295).size + a0.size ≤ 9223372036854775807 then (some (((⟨#[42, 2]⟩ : ByteArray) ++ t295) ++ a0, true)) else (none)) else (none))) = some (r1, r2) := by rw [if_pos rfl] at H; exact H
    clear H
    have H := H1
    clear H1
    by_cases c4 : (a0.size : Int) > 65531
    · rw [if_pos c4] at H
      have c4b0 : decide (65531 < (a0.size : Int)) = true := decide_eq_true c4
      have c4b1 : decide (65531 < a0.size) = true := decide_eq_true (by omega)
      clear c4
      simp only [Option.some.injEq, Prod.mk.injEq] at H
      obtain ⟨rfl, rfl⟩ := H
      go_enter Try.func22, Try.ntmps22
      go_wp2_with (first | ((with_reducible refine gate_callee (f := 43) rfl ?_); refine goesL_ (some 9) rfl rfl Try.func43 (by kernel_rfl) rfl #[.int .i64 (a0.size : Int), .int .i64 2] rfl gAr ?_; (with_reducible refine (octet_Put.calls k (a0.size : Int) 2 t295 true _ A2.out).mono ?_); rintro e w5 ⟨rfl, hb⟩; refine ⟨_, rfl, ?_⟩; have n0_ := Aside0.mk (below_step (bel) hb); clear HB; have HB := n0_; clear n0_; (try clear hb)))
      go_ret2
      exact ⟨rtE, bel⟩
    · rw [if_neg c4] at H
      have c4b0 : decide (65531 < (a0.size : Int)) = false := decide_eq_false c4
      have c4b1 : decide (65531 < a0.size) = false := decide_eq_false (by omega)
      clear c4
      by_cases c6 : 2 + t295.size ≤ 9223372036854775807
      · rw [if_pos c6] at H
        have c6b0 := eq_true c6
        have c6b1 : decide (2 + t295.size ≤ 9223372036854775807) = true := decide_eq_true c6
        try have c6b2 : (9223372036854775807 < 2 + t295.size) = False := eq_false (Nat.not_lt.2 c6)
        by_cases c7 : ((⟨#[42, 2]⟩ : ByteArray) ++ t295).size + a0.size ≤ 9223372036854775807
        · rw [if_pos c7] at H
          have c7b0 := eq_true c7
          have c7b1 : decide (((⟨#[42, 2]⟩ : ByteArray) ++ t295).size + a0.size ≤ 9223372036854775807) = true := decide_eq_true c7
          try have c7b2 : (9223372036854775807 < ((⟨#[42, 2]⟩ : ByteArray) ++ t295).size + a0.size) = False := eq_false (Nat.not_lt.2 c7)
          simp only [Option.some.injEq, Prod.mk.injEq] at H
          obtain ⟨rfl, rfl⟩ := H
          go_enter Try.func22, Try.ntmps22
          go_wp2_with (first | ((with_reducible refine gate_callee (f := 43) rfl ?_); refine goesL_ (some 9) rfl rfl Try.func43 (by kernel_rfl) rfl #[.int .i64 (a0.size : Int), .int .i64 2] rfl gAr ?_; (with_reducible refine (octet_Put.calls k (a0.size : Int) 2 t295 true _ A2.out).mono ?_); rintro e w8 ⟨rfl, hb⟩; refine ⟨_, rfl, ?_⟩; have n0_ := Aside0.mk (below_step (bel) hb); clear HB; have HB := n0_; clear n0_; (try clear hb)))
          go_ret2
          exact ⟨rtE, bel⟩
        · rw [if_neg c7] at H
          exact absurd H (by simp)
      · rw [if_neg c6] at H
        exact absurd H (by simp)
  · replace c3 := Bool.eq_false_iff.mpr c3
    subst c3
    have H1 : (some ((⟨#[]⟩ : ByteArray), false)) = some (r1, r2) := by rw [if_neg (show ¬ (false = true) by decide)] at H; exact H
    clear H
    have H := H1
    clear H1
    simp only [Option.some.injEq, Prod.mk.injEq] at H
    obtain ⟨rfl, rfl⟩ := H
    go_enter Try.func22, Try.ntmps22
    go_wp2_with (first | ((with_reducible refine gate_callee (f := 43) rfl ?_); refine goesL_ (some 9) rfl rfl Try.func43 (by kernel_rfl) rfl #[.int .i64 (a0.size : Int), .int .i64 2] rfl gAr ?_; (with_reducible refine (octet_Put.calls k (a0.size : Int) 2 t295 false _ A2.out).mono ?_); rintro e w9 ⟨rfl, hb⟩; refine ⟨_, rfl, ?_⟩; have n0_ := Aside0.mk (below_step (bel) hb); clear HB; have HB := n0_; clear n0_; (try clear hb)))
    go_ret2
    exact ⟨rtE, bel⟩

/-! ### roadbooklaw18_awake: function 17 -/
def roadbooklaw18_awake.f (k : Nat)  : Option (Bool) := (frame_Body.f (⟨#[42, 2, 0, 0]⟩ : ByteArray)).bind fun bt297 => ((frame_Wrap.f k (⟨#[]⟩ : ByteArray)).bind fun bt300 => ((frame_Split.f k (⟨#[0, 3, 2, 97, 98]⟩ : ByteArray) 4).bind fun bt302 => (if bt297.2.2 = 0 then (if bt297.2.1 = 0 then (if bt297.1.toList = ([] : List UInt8) then (if bt300.2 = true then (if bt300.1.toList = ([42, 2, 0, 0] : List UInt8) then (if bt302.2.2 = 0 then (if (bt302.1.length : Int) = 2 then (if 1 < (bt302.1.length : Int) then (some (((rd_T47 bt302.1 1).f0) == 3 && (((rd_T47 bt302.1 1).f1) == 5 && ((((rd_T47 bt302.1 1).f2).toList) == ([97, 98] : List UInt8))))) else (none)) else (some false)) else (some false)) else (some false)) else (some false)) else (some false)) else (some false)) else (some false))))
theorem roadbooklaw18_awake.mono : ∀ k, LeO (roadbooklaw18_awake.f k ) (roadbooklaw18_awake.f (k + 1) ) := by
  intro  k
  unfold roadbooklaw18_awake.f
  repeat' first
      | (with_reducible exact frame_Split.mono _ _ _)
      | (with_reducible exact frame_Wrap.mono _ _)
      | (with_reducible exact LeO.refl _)
      | (with_reducible exact LeO.none _)
      | (with_reducible refine LeO.ite ?_ ?_)
      | (with_reducible refine LeO.bind ?_ (fun _ => ?_))
      | exact frame_Split.mono _ _ _
      | exact frame_Wrap.mono _ _
      | exact LeO.none _
      | refine LeO.ite ?_ ?_
      | refine LeO.bind ?_ (fun _ => ?_)
set_option maxHeartbeats 8000000 in
set_option maxRecDepth 100000 in
theorem roadbooklaw18_awake.calls (k : Nat)  (r : Bool) (w : World) (h : roadbooklaw18_awake.f k  = some r) :
    Calls Try.prog 17 #[] w fun e w' => e = .returned (.bool r) ∧ Below w.heap.size w w' := by
  have hu47 := Try.underlying47
  have HB := Aside0.mk (Below.refl w.heap.size w)
  have H : ((frame_Body.f (⟨#[42, 2, 0, 0]⟩ : ByteArray)).bind fun bt297 => ((frame_Wrap.f k (⟨#[]⟩ : ByteArray)).bind fun bt300 => ((frame_Split.f k (⟨#[0, 3, 2, 97, 98]⟩ : ByteArray) 4).bind fun bt302 => (if bt297.2.2 = 0 then (if bt297.2.1 = 0 then (if bt297.1.toList = ([] : List UInt8) then (if bt300.2 = true then (if bt300.1.toList = ([42, 2, 0, 0] : List UInt8) then (if bt302.2.2 = 0 then (if (bt302.1.length : Int) = 2 then (if 1 < (bt302.1.length : Int) then (some (((rd_T47 bt302.1 1).f0) == 3 && (((rd_T47 bt302.1 1).f1) == 5 && ((((rd_T47 bt302.1 1).f2).toList) == ([97, 98] : List UInt8))))) else (none)) else (some false)) else (some false)) else (some false)) else (some false)) else (some false)) else (some false)) else (some false))))) = some r := h
  clear h
  replace H := Option.bind_eq_some_iff.mp H
  obtain ⟨⟨t297, t298, t299⟩, A10, H⟩ := H
  replace H : ((frame_Wrap.f k (⟨#[]⟩ : ByteArray)).bind fun bt300 => ((frame_Split.f k (⟨#[0, 3, 2, 97, 98]⟩ : ByteArray) 4).bind fun bt302 => (if t299 = 0 then (if t298 = 0 then (if t297.toList = ([] : List UInt8) then (if bt300.2 = true then (if bt300.1.toList = ([42, 2, 0, 0] : List UInt8) then (if bt302.2.2 = 0 then (if (bt302.1.length : Int) = 2 then (if 1 < (bt302.1.length : Int) then (some (((rd_T47 bt302.1 1).f0) == 3 && (((rd_T47 bt302.1 1).f1) == 5 && ((((rd_T47 bt302.1 1).f2).toList) == ([97, 98] : List UInt8))))) else (none)) else (some false)) else (some false)) else (some false)) else (some false)) else (some false)) else (some false)) else (some false)))) = some r := H
  have A1 := Aside0.mk A10
  clear A10
  replace H := Option.bind_eq_some_iff.mp H
  obtain ⟨⟨t300, t301⟩, A20, H⟩ := H
  replace H : ((frame_Split.f k (⟨#[0, 3, 2, 97, 98]⟩ : ByteArray) 4).bind fun bt302 => (if t299 = 0 then (if t298 = 0 then (if t297.toList = ([] : List UInt8) then (if t301 = true then (if t300.toList = ([42, 2, 0, 0] : List UInt8) then (if bt302.2.2 = 0 then (if (bt302.1.length : Int) = 2 then (if 1 < (bt302.1.length : Int) then (some (((rd_T47 bt302.1 1).f0) == 3 && (((rd_T47 bt302.1 1).f1) == 5 && ((((rd_T47 bt302.1 1).f2).toList) == ([97, 98] : List UInt8))))) else (none)) else (some false)) else (some false)) else (some false)) else (some false)) else (some false)) else (some false)) else (some false))) = some r := H
  have A2 := Aside0.mk A20
  clear A20
  replace H := Option.bind_eq_some_iff.mp H
  obtain ⟨⟨t302, t303, t304⟩, A30, H⟩ := H
  replace H : (if t299 = 0 then (if t298 = 0 then (if t297.toList = ([] : List UInt8) then (if t301 = true then (if t300.toList = ([42, 2, 0, 0] : List UInt8) then (if t304 = 0 then (if (t302.length : Int) = 2 then (if 1 < (t302.length : Int) then (some (((rd_T47 t302 1).f0) == 3 && (((rd_T47 t302 1).f1) == 5 && ((((rd_T47 t302 1).f2).toList) == ([97, 98] : List UInt8))))) else (none)) else (some false)) else (some false)) else (some false)) else (some false)) else (some false)) else (some false)) else (some false)) = some r := H
  have A3 := Aside0.mk A30
  clear A30
  by_cases c4 : t299 = 0
  · rw [if_pos c4] at H
    have c4b0 : (t299 == 0) = true := beq_iff_eq.mpr c4
    have c4b1 : (t299 != 0) = false := bne_eq_false_iff_eq.mpr c4
    clear c4
    by_cases c5 : t298 = 0
    · rw [if_pos c5] at H
      have c5b0 : (t298 == 0) = true := beq_iff_eq.mpr c5
      have c5b1 : (t298 != 0) = false := bne_eq_false_iff_eq.mpr c5
      clear c5
      by_cases c6 : t297.toList = ([] : List UInt8)
      · rw [if_pos c6] at H
        have c6b0 : (t297.toList == ([] : List UInt8)) = true := beq_iff_eq.mpr c6
        have c6b1 : (t297.toList != ([] : List UInt8)) = false := bne_eq_false_iff_eq.mpr c6
        clear c6
        by_cases c7 : t301 = true
        · subst c7
          have H1 : (if t300.toList = ([42, 2, 0, 0] : List UInt8) then (if t304 = 0 then (if (t302.length : Int) = 2 then (if 1 < (t302.length : Int) then (some (((rd_T47 t302 1).f0) == 3 && (((rd_T47 t302 1).f1) == 5 && ((((rd_T47 t302 1).f2).toList) == ([97, 98] : List UInt8))))) else (none)) else (some false)) else (some false)) else (some false)) = some r := by rw [if_pos rfl] at H; exact H
          clear H
          have H := H1
          clear H1
          by_cases c8 : t300.toList = ([42, 2, 0, 0] : List UInt8)
          · rw [if_pos c8] at H
            have c8b0 : (t300.toList == ([42, 2, 0, 0] : List UInt8)) = true := beq_iff_eq.mpr c8
            have c8b1 : (t300.toList != ([42, 2, 0, 0] : List UInt8)) = false := bne_eq_false_iff_eq.mpr c8
            clear c8
            by_cases c9 : t304 = 0
            · rw [if_pos c9] at H
              have c9b0 : (t304 == 0) = true := beq_iff_eq.mpr c9
              have c9b1 : (t304 != 0) = false := bne_eq_false_iff_eq.mpr c9
              clear c9
              by_cases c10 : (t302.length : Int) = 2
              · rw [if_pos c10] at H
                have c10b0 : ((t302.length : Int) == 2) = true := beq_iff_eq.mpr c10
                have c10b1 : ((t302.length : Int) != 2) = false := bne_eq_false_iff_eq.mpr c10
                clear c10
                by_cases c11 : 1 < (t302.length : Int)
                · rw [if_pos c11] at H
                  have c11b0 : decide (1 < (t302.length : Int)) = true := decide_eq_true c11
                  have c11b1 : decide (1 < t302.length) = true := decide_eq_true (by omega)
                  clear c11
                  obtain rfl := Option.some.inj H
                  go_enter Try.func17, Try.ntmps17
                  go_wp2_with (first | ((with_reducible refine gate_callee (f := 20) rfl ?_); refine goesL_ (some 10) rfl rfl Try.func20 (by kernel_rfl) rfl #[.string (⟨#[42, 2, 0, 0]⟩ : ByteArray)] rfl gAr ?_; (with_reducible refine (frame_Body.calls (⟨#[42, 2, 0, 0]⟩ : ByteArray) t297 t298 t299 _ A1.out).mono ?_); rintro e w' ⟨rfl, ⟨nd, rfl⟩⟩; refine ⟨_, rfl, ?_⟩) | ((with_reducible refine gate_callee (f := 22) rfl ?_); refine goesL_ (some 15) rfl rfl Try.func22 (by kernel_rfl) rfl #[.string (⟨#[]⟩ : ByteArray)] rfl gAr ?_; (with_reducible refine (frame_Wrap.calls k (⟨#[]⟩ : ByteArray) t300 true _ A2.out).mono ?_); rintro e w12 ⟨rfl, hb⟩; refine ⟨_, rfl, ?_⟩; have n0_ := Aside0.mk (below_step (bel) hb); clear HB; have HB := n0_; clear n0_; (try clear hb)) | ((with_reducible refine gate_callee (f := 18) rfl ?_); refine goesL_ (some 19) rfl rfl Try.func18 (by kernel_rfl) rfl #[.string (⟨#[0, 3, 2, 97, 98]⟩ : ByteArray), .int .i64 4] rfl gAr ?_; (with_reducible refine (frame_Split.calls k (⟨#[0, 3, 2, 97, 98]⟩ : ByteArray) 4 t302 t303 t304 _ A3.out).mono ?_); rintro e w13 ⟨v305, rfl, ho0, hb⟩; refine ⟨_, rfl, ?_⟩; have n0_ := Aside0.mk (Kd.R_lower ho0 bsz); have n1_ := Aside0.mk (below_step (bel) hb); clear HB; have HO306 := n0_; have HB := n1_; clear n0_ n1_; (try clear hb); (try clear ho0); obtain ⟨Ao14, co14, eo14⟩ := Kd.R_slice HO306.out; subst eo14; have p307 : 0 ≤ (1 : Int) := (by omega); have q307 : 1 < (t302.length : Int) := odt; obtain ⟨ad307, e307, hx307_0, hx307_1, hx307_2⟩ := at_T47 (Kd.R_reads' HO306.out).2.2 1 p307 q307; cases e307; (try simp only [show (1 : Int).toNat = 1 from rfl, Nat.reduceMul, Nat.reduceEqDiff, Go.Addr.add, ↓reduceIte] at hx307_0); (try simp only [show (1 : Int).toNat = 1 from rfl, Nat.reduceMul, Nat.reduceEqDiff, Go.Addr.add, ↓reduceIte] at hx307_1); (try simp only [show (1 : Int).toNat = 1 from rfl, Nat.reduceMul, Nat.reduceEqDiff, Go.Addr.add, ↓reduceIte] at hx307_2); have qi307 : (1 < t302.length) = True := eq_true (by omega); (try rw [show ((1 : Int)).toNat = 1 from rfl] at hx307_0); (try rw [show 1 * 3 = 3 from rfl] at hx307_0); (try rw [show ((1 : Int)).toNat = 1 from rfl] at hx307_1); (try rw [show 1 * 3 = 3 from rfl] at hx307_1); (try rw [show ((1 : Int)).toNat = 1 from rfl] at hx307_2); (try rw [show 1 * 3 = 3 from rfl] at hx307_2); replace p307 := eq_true p307; replace q307 := eq_true q307))
                  go_ret
                  exact ⟨rtE, bel⟩
                · rw [if_neg c11] at H
                  exact absurd H (by simp)
              · rw [if_neg c10] at H
                have c10b0 : ((t302.length : Int) == 2) = false := beq_eq_false_iff_ne.mpr c10
                have c10b1 : ((t302.length : Int) != 2) = true := bne_iff_ne.mpr c10
                obtain rfl := Option.some.inj H
                go_enter Try.func17, Try.ntmps17
                go_wp2_with (first | ((with_reducible refine gate_callee (f := 20) rfl ?_); refine goesL_ (some 10) rfl rfl Try.func20 (by kernel_rfl) rfl #[.string (⟨#[42, 2, 0, 0]⟩ : ByteArray)] rfl gAr ?_; (with_reducible refine (frame_Body.calls (⟨#[42, 2, 0, 0]⟩ : ByteArray) t297 t298 t299 _ A1.out).mono ?_); rintro e w' ⟨rfl, ⟨nd, rfl⟩⟩; refine ⟨_, rfl, ?_⟩) | ((with_reducible refine gate_callee (f := 22) rfl ?_); refine goesL_ (some 15) rfl rfl Try.func22 (by kernel_rfl) rfl #[.string (⟨#[]⟩ : ByteArray)] rfl gAr ?_; (with_reducible refine (frame_Wrap.calls k (⟨#[]⟩ : ByteArray) t300 true _ A2.out).mono ?_); rintro e w15 ⟨rfl, hb⟩; refine ⟨_, rfl, ?_⟩; have n0_ := Aside0.mk (below_step (bel) hb); clear HB; have HB := n0_; clear n0_; (try clear hb)) | ((with_reducible refine gate_callee (f := 18) rfl ?_); refine goesL_ (some 19) rfl rfl Try.func18 (by kernel_rfl) rfl #[.string (⟨#[0, 3, 2, 97, 98]⟩ : ByteArray), .int .i64 4] rfl gAr ?_; (with_reducible refine (frame_Split.calls k (⟨#[0, 3, 2, 97, 98]⟩ : ByteArray) 4 t302 t303 t304 _ A3.out).mono ?_); rintro e w16 ⟨v305, rfl, ho0, hb⟩; refine ⟨_, rfl, ?_⟩; have n0_ := Aside0.mk (Kd.R_lower ho0 bsz); have n1_ := Aside0.mk (below_step (bel) hb); clear HB; have HO306 := n0_; have HB := n1_; clear n0_ n1_; (try clear hb); (try clear ho0); obtain ⟨Ao17, co17, eo17⟩ := Kd.R_slice HO306.out; subst eo17))
                go_ret
                exact ⟨rtE, bel⟩
            · rw [if_neg c9] at H
              have c9b0 : (t304 == 0) = false := beq_eq_false_iff_ne.mpr c9
              have c9b1 : (t304 != 0) = true := bne_iff_ne.mpr c9
              obtain rfl := Option.some.inj H
              go_enter Try.func17, Try.ntmps17
              go_wp2_with (first | ((with_reducible refine gate_callee (f := 20) rfl ?_); refine goesL_ (some 10) rfl rfl Try.func20 (by kernel_rfl) rfl #[.string (⟨#[42, 2, 0, 0]⟩ : ByteArray)] rfl gAr ?_; (with_reducible refine (frame_Body.calls (⟨#[42, 2, 0, 0]⟩ : ByteArray) t297 t298 t299 _ A1.out).mono ?_); rintro e w' ⟨rfl, ⟨nd, rfl⟩⟩; refine ⟨_, rfl, ?_⟩) | ((with_reducible refine gate_callee (f := 22) rfl ?_); refine goesL_ (some 15) rfl rfl Try.func22 (by kernel_rfl) rfl #[.string (⟨#[]⟩ : ByteArray)] rfl gAr ?_; (with_reducible refine (frame_Wrap.calls k (⟨#[]⟩ : ByteArray) t300 true _ A2.out).mono ?_); rintro e w18 ⟨rfl, hb⟩; refine ⟨_, rfl, ?_⟩; have n0_ := Aside0.mk (below_step (bel) hb); clear HB; have HB := n0_; clear n0_; (try clear hb)) | ((with_reducible refine gate_callee (f := 18) rfl ?_); refine goesL_ (some 19) rfl rfl Try.func18 (by kernel_rfl) rfl #[.string (⟨#[0, 3, 2, 97, 98]⟩ : ByteArray), .int .i64 4] rfl gAr ?_; (with_reducible refine (frame_Split.calls k (⟨#[0, 3, 2, 97, 98]⟩ : ByteArray) 4 t302 t303 t304 _ A3.out).mono ?_); rintro e w19 ⟨v305, rfl, ho0, hb⟩; refine ⟨_, rfl, ?_⟩; have n0_ := Aside0.mk (Kd.R_lower ho0 bsz); have n1_ := Aside0.mk (below_step (bel) hb); clear HB; have HO306 := n0_; have HB := n1_; clear n0_ n1_; (try clear hb); (try clear ho0)))
              go_ret
              exact ⟨rtE, bel⟩
          · rw [if_neg c8] at H
            have c8b0 : (t300.toList == ([42, 2, 0, 0] : List UInt8)) = false := beq_eq_false_iff_ne.mpr c8
            have c8b1 : (t300.toList != ([42, 2, 0, 0] : List UInt8)) = true := bne_iff_ne.mpr c8
            obtain rfl := Option.some.inj H
            go_enter Try.func17, Try.ntmps17
            go_wp2_with (first | ((with_reducible refine gate_callee (f := 20) rfl ?_); refine goesL_ (some 10) rfl rfl Try.func20 (by kernel_rfl) rfl #[.string (⟨#[42, 2, 0, 0]⟩ : ByteArray)] rfl gAr ?_; (with_reducible refine (frame_Body.calls (⟨#[42, 2, 0, 0]⟩ : ByteArray) t297 t298 t299 _ A1.out).mono ?_); rintro e w' ⟨rfl, ⟨nd, rfl⟩⟩; refine ⟨_, rfl, ?_⟩) | ((with_reducible refine gate_callee (f := 22) rfl ?_); refine goesL_ (some 15) rfl rfl Try.func22 (by kernel_rfl) rfl #[.string (⟨#[]⟩ : ByteArray)] rfl gAr ?_; (with_reducible refine (frame_Wrap.calls k (⟨#[]⟩ : ByteArray) t300 true _ A2.out).mono ?_); rintro e w20 ⟨rfl, hb⟩; refine ⟨_, rfl, ?_⟩; have n0_ := Aside0.mk (below_step (bel) hb); clear HB; have HB := n0_; clear n0_; (try clear hb)) | ((with_reducible refine gate_callee (f := 18) rfl ?_); refine goesL_ (some 19) rfl rfl Try.func18 (by kernel_rfl) rfl #[.string (⟨#[0, 3, 2, 97, 98]⟩ : ByteArray), .int .i64 4] rfl gAr ?_; (with_reducible refine (frame_Split.calls k (⟨#[0, 3, 2, 97, 98]⟩ : ByteArray) 4 t302 t303 t304 _ A3.out).mono ?_); rintro e w21 ⟨v305, rfl, ho0, hb⟩; refine ⟨_, rfl, ?_⟩; have n0_ := Aside0.mk (Kd.R_lower ho0 bsz); have n1_ := Aside0.mk (below_step (bel) hb); clear HB; have HO306 := n0_; have HB := n1_; clear n0_ n1_; (try clear hb); (try clear ho0)))
            go_ret
            exact ⟨rtE, bel⟩
        · replace c7 := Bool.eq_false_iff.mpr c7
          subst c7
          have H1 : (some false) = some r := by rw [if_neg (show ¬ (false = true) by decide)] at H; exact H
          clear H
          have H := H1
          clear H1
          obtain rfl := Option.some.inj H
          go_enter Try.func17, Try.ntmps17
          go_wp2_with (first | ((with_reducible refine gate_callee (f := 20) rfl ?_); refine goesL_ (some 10) rfl rfl Try.func20 (by kernel_rfl) rfl #[.string (⟨#[42, 2, 0, 0]⟩ : ByteArray)] rfl gAr ?_; (with_reducible refine (frame_Body.calls (⟨#[42, 2, 0, 0]⟩ : ByteArray) t297 t298 t299 _ A1.out).mono ?_); rintro e w' ⟨rfl, ⟨nd, rfl⟩⟩; refine ⟨_, rfl, ?_⟩) | ((with_reducible refine gate_callee (f := 22) rfl ?_); refine goesL_ (some 15) rfl rfl Try.func22 (by kernel_rfl) rfl #[.string (⟨#[]⟩ : ByteArray)] rfl gAr ?_; (with_reducible refine (frame_Wrap.calls k (⟨#[]⟩ : ByteArray) t300 false _ A2.out).mono ?_); rintro e w22 ⟨rfl, hb⟩; refine ⟨_, rfl, ?_⟩; have n0_ := Aside0.mk (below_step (bel) hb); clear HB; have HB := n0_; clear n0_; (try clear hb)) | ((with_reducible refine gate_callee (f := 18) rfl ?_); refine goesL_ (some 19) rfl rfl Try.func18 (by kernel_rfl) rfl #[.string (⟨#[0, 3, 2, 97, 98]⟩ : ByteArray), .int .i64 4] rfl gAr ?_; (with_reducible refine (frame_Split.calls k (⟨#[0, 3, 2, 97, 98]⟩ : ByteArray) 4 t302 t303 t304 _ A3.out).mono ?_); rintro e w23 ⟨v305, rfl, ho0, hb⟩; refine ⟨_, rfl, ?_⟩; have n0_ := Aside0.mk (Kd.R_lower ho0 bsz); have n1_ := Aside0.mk (below_step (bel) hb); clear HB; have HO306 := n0_; have HB := n1_; clear n0_ n1_; (try clear hb); (try clear ho0)))
          go_ret
          exact ⟨rtE, bel⟩
      · rw [if_neg c6] at H
        have c6b0 : (t297.toList == ([] : List UInt8)) = false := beq_eq_false_iff_ne.mpr c6
        have c6b1 : (t297.toList != ([] : List UInt8)) = true := bne_iff_ne.mpr c6
        obtain rfl := Option.some.inj H
        go_enter Try.func17, Try.ntmps17
        go_wp2_with (first | ((with_reducible refine gate_callee (f := 20) rfl ?_); refine goesL_ (some 10) rfl rfl Try.func20 (by kernel_rfl) rfl #[.string (⟨#[42, 2, 0, 0]⟩ : ByteArray)] rfl gAr ?_; (with_reducible refine (frame_Body.calls (⟨#[42, 2, 0, 0]⟩ : ByteArray) t297 t298 t299 _ A1.out).mono ?_); rintro e w' ⟨rfl, ⟨nd, rfl⟩⟩; refine ⟨_, rfl, ?_⟩) | ((with_reducible refine gate_callee (f := 22) rfl ?_); refine goesL_ (some 15) rfl rfl Try.func22 (by kernel_rfl) rfl #[.string (⟨#[]⟩ : ByteArray)] rfl gAr ?_; (with_reducible refine (frame_Wrap.calls k (⟨#[]⟩ : ByteArray) t300 t301 _ A2.out).mono ?_); rintro e w24 ⟨rfl, hb⟩; refine ⟨_, rfl, ?_⟩; have n0_ := Aside0.mk (below_step (bel) hb); clear HB; have HB := n0_; clear n0_; (try clear hb)) | ((with_reducible refine gate_callee (f := 18) rfl ?_); refine goesL_ (some 19) rfl rfl Try.func18 (by kernel_rfl) rfl #[.string (⟨#[0, 3, 2, 97, 98]⟩ : ByteArray), .int .i64 4] rfl gAr ?_; (with_reducible refine (frame_Split.calls k (⟨#[0, 3, 2, 97, 98]⟩ : ByteArray) 4 t302 t303 t304 _ A3.out).mono ?_); rintro e w25 ⟨v305, rfl, ho0, hb⟩; refine ⟨_, rfl, ?_⟩; have n0_ := Aside0.mk (Kd.R_lower ho0 bsz); have n1_ := Aside0.mk (below_step (bel) hb); clear HB; have HO306 := n0_; have HB := n1_; clear n0_ n1_; (try clear hb); (try clear ho0)))
        go_ret
        exact ⟨rtE, bel⟩
    · rw [if_neg c5] at H
      have c5b0 : (t298 == 0) = false := beq_eq_false_iff_ne.mpr c5
      have c5b1 : (t298 != 0) = true := bne_iff_ne.mpr c5
      obtain rfl := Option.some.inj H
      go_enter Try.func17, Try.ntmps17
      go_wp2_with (first | ((with_reducible refine gate_callee (f := 20) rfl ?_); refine goesL_ (some 10) rfl rfl Try.func20 (by kernel_rfl) rfl #[.string (⟨#[42, 2, 0, 0]⟩ : ByteArray)] rfl gAr ?_; (with_reducible refine (frame_Body.calls (⟨#[42, 2, 0, 0]⟩ : ByteArray) t297 t298 t299 _ A1.out).mono ?_); rintro e w' ⟨rfl, ⟨nd, rfl⟩⟩; refine ⟨_, rfl, ?_⟩) | ((with_reducible refine gate_callee (f := 22) rfl ?_); refine goesL_ (some 15) rfl rfl Try.func22 (by kernel_rfl) rfl #[.string (⟨#[]⟩ : ByteArray)] rfl gAr ?_; (with_reducible refine (frame_Wrap.calls k (⟨#[]⟩ : ByteArray) t300 t301 _ A2.out).mono ?_); rintro e w26 ⟨rfl, hb⟩; refine ⟨_, rfl, ?_⟩; have n0_ := Aside0.mk (below_step (bel) hb); clear HB; have HB := n0_; clear n0_; (try clear hb)) | ((with_reducible refine gate_callee (f := 18) rfl ?_); refine goesL_ (some 19) rfl rfl Try.func18 (by kernel_rfl) rfl #[.string (⟨#[0, 3, 2, 97, 98]⟩ : ByteArray), .int .i64 4] rfl gAr ?_; (with_reducible refine (frame_Split.calls k (⟨#[0, 3, 2, 97, 98]⟩ : ByteArray) 4 t302 t303 t304 _ A3.out).mono ?_); rintro e w27 ⟨v305, rfl, ho0, hb⟩; refine ⟨_, rfl, ?_⟩; have n0_ := Aside0.mk (Kd.R_lower ho0 bsz); have n1_ := Aside0.mk (below_step (bel) hb); clear HB; have HO306 := n0_; have HB := n1_; clear n0_ n1_; (try clear hb); (try clear ho0)))
      go_ret
      exact ⟨rtE, bel⟩
  · rw [if_neg c4] at H
    have c4b0 : (t299 == 0) = false := beq_eq_false_iff_ne.mpr c4
    have c4b1 : (t299 != 0) = true := bne_iff_ne.mpr c4
    obtain rfl := Option.some.inj H
    go_enter Try.func17, Try.ntmps17
    go_wp2_with (first | ((with_reducible refine gate_callee (f := 20) rfl ?_); refine goesL_ (some 10) rfl rfl Try.func20 (by kernel_rfl) rfl #[.string (⟨#[42, 2, 0, 0]⟩ : ByteArray)] rfl gAr ?_; (with_reducible refine (frame_Body.calls (⟨#[42, 2, 0, 0]⟩ : ByteArray) t297 t298 t299 _ A1.out).mono ?_); rintro e w' ⟨rfl, ⟨nd, rfl⟩⟩; refine ⟨_, rfl, ?_⟩) | ((with_reducible refine gate_callee (f := 22) rfl ?_); refine goesL_ (some 15) rfl rfl Try.func22 (by kernel_rfl) rfl #[.string (⟨#[]⟩ : ByteArray)] rfl gAr ?_; (with_reducible refine (frame_Wrap.calls k (⟨#[]⟩ : ByteArray) t300 t301 _ A2.out).mono ?_); rintro e w28 ⟨rfl, hb⟩; refine ⟨_, rfl, ?_⟩; have n0_ := Aside0.mk (below_step (bel) hb); clear HB; have HB := n0_; clear n0_; (try clear hb)) | ((with_reducible refine gate_callee (f := 18) rfl ?_); refine goesL_ (some 19) rfl rfl Try.func18 (by kernel_rfl) rfl #[.string (⟨#[0, 3, 2, 97, 98]⟩ : ByteArray), .int .i64 4] rfl gAr ?_; (with_reducible refine (frame_Split.calls k (⟨#[0, 3, 2, 97, 98]⟩ : ByteArray) 4 t302 t303 t304 _ A3.out).mono ?_); rintro e w29 ⟨v305, rfl, ho0, hb⟩; refine ⟨_, rfl, ?_⟩; have n0_ := Aside0.mk (Kd.R_lower ho0 bsz); have n1_ := Aside0.mk (below_step (bel) hb); clear HB; have HO306 := n0_; have HB := n1_; clear n0_ n1_; (try clear hb); (try clear ho0)))
    go_ret
    exact ⟨rtE, bel⟩

end Go.Proofs.Ytjgnpggpgkkknaa.Pr
