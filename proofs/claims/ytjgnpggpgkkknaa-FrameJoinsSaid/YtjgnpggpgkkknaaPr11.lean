-- Written by wip/tools/xprint.py of this repo over the kit's printer, out of the translation. Lean checks it.
import Derived.Test.YtjgnpggpgkkknaaPr0
import Derived.Test.YtjgnpggpgkkknaaPr1
import Derived.Test.YtjgnpggpgkkknaaPr5
import Derived.Test.YtjgnpggpgkkknaaPr6
import Derived.Test.YtjgnpggpgkkknaaPr8
namespace Go.Proofs.Ytjgnpggpgkkknaa.Pr
open Go.RowKit Go.Proofs.YtjgnpggpgkkknaaW.PrintWords Go.Proofs.YtjgnpggpgkkknaaW.PrintLast Go.Proofs.YtjgnpggpgkkknaaW.PrintMore
attribute [local go_sem] max2_int min2_int max_two min_two max_three min_three max_four min_four   -- for this text's walks alone
set_option linter.unusedVariables false
set_option linter.unusedSimpArgs false

attribute [local go_sem high] eqA23
/-! ### roadbooklaw08_EntryBack: function 4 -/
mutual
def roadbooklaw08_EntryBack.j0 : Nat → ByteArray → Bool → Int → Int → ByteArray → ByteArray → ByteArray → Int → Option (Bool)
  | 0, _, _, _, _, _, _, _, _ => none
  | k + 1, x0, x31, x232000, x232001, x232002, x232003, x232004, x232005 => if x31 = true then ((roadbooklaw08_awake.f k).bind fun t232 => (some t232)) else ((entry_Get.f k x0).bind fun bt233 => ((entry_Put.f k bt233.1 bt233.2.1 bt233.2.2.1 bt233.2.2.2.1 bt233.2.2.2.2.1 bt233.2.2.2.2.2.1).bind fun bt241 => (if (bt233.2.2.2.2.2.2 != ((x0.size : Int) == 20)) = true then (roadbooklaw08_EntryBack.j1 k true x232000 x232001 x232002 x232003 x232004 x232005) else (if bt233.2.2.2.2.2.2 = true then (if bt241.2 = true then (roadbooklaw08_EntryBack.j1 k (bt241.1.toList != x0.toList) x232000 x232001 x232002 x232003 x232004 x232005) else (roadbooklaw08_EntryBack.j1 k true x232000 x232001 x232002 x232003 x232004 x232005)) else (roadbooklaw08_EntryBack.j1 k false x232000 x232001 x232002 x232003 x232004 x232005)))))
def roadbooklaw08_EntryBack.j1 : Nat → Bool → Int → Int → ByteArray → ByteArray → ByteArray → Int → Option (Bool)
  | 0, _, _, _, _, _, _, _ => none
  | k + 1, x59, x232000, x232001, x232002, x232003, x232004, x232005 => if x59 = true then (some false) else ((entry_Put.f k x232000 x232001 x232002 x232003 x232004 x232005).bind fun bt243 => ((entry_Get.f k bt243.1).bind fun bt245 => ((roadbooklaw08_awake.f k).bind fun t253 => (if t253 = true then (if bt243.2 = true then (if bt245.2.2.2.2.2.2 = true then (if (bt245.1 == x232000 && (bt245.2.1 == x232001 && (bt245.2.2.1.toList == x232002.toList && (bt245.2.2.2.1.toList == x232003.toList && (bt245.2.2.2.2.1.toList == x232004.toList && (bt245.2.2.2.2.2.1 == x232005)))))) = true then (some true) else (some false)) else (some false)) else (some (bt243.1.toList == ([] : List UInt8)))) else (some false)))))
end
def roadbooklaw08_EntryBack.f (k : Nat) (a0 : ByteArray) (a1_0 : Int) (a1_1 : Int) (a1_2 : ByteArray) (a1_3 : ByteArray) (a1_4 : ByteArray) (a1_5 : Int) : Option (Bool) := if (a0.size : Int) > 100 then (roadbooklaw08_EntryBack.j0 k a0 true a1_0 a1_1 a1_2 a1_3 a1_4 a1_5) else (if (wrap64 ((a1_2.size : Int) + (a1_3.size : Int))) > 100 then (roadbooklaw08_EntryBack.j0 k a0 true a1_0 a1_1 a1_2 a1_3 a1_4 a1_5) else (roadbooklaw08_EntryBack.j0 k a0 (decide ((a1_4.size : Int) > 100)) a1_0 a1_1 a1_2 a1_3 a1_4 a1_5))
theorem roadbooklaw08_EntryBack.mono_l : ∀ k, (∀ y0 y1 y2 y3 y4 y5 y6 y7, LeO (roadbooklaw08_EntryBack.j0 k y0 y1 y2 y3 y4 y5 y6 y7) (roadbooklaw08_EntryBack.j0 (k + 1) y0 y1 y2 y3 y4 y5 y6 y7)) ∧ (∀ y0 y1 y2 y3 y4 y5 y6, LeO (roadbooklaw08_EntryBack.j1 k y0 y1 y2 y3 y4 y5 y6) (roadbooklaw08_EntryBack.j1 (k + 1) y0 y1 y2 y3 y4 y5 y6))
  | 0 => ⟨fun _ _ _ _ _ _ _ _ r h => by simp [roadbooklaw08_EntryBack.j0] at h, fun _ _ _ _ _ _ _ r h => by simp [roadbooklaw08_EntryBack.j1] at h⟩
  | k + 1 => by
    obtain ⟨ih0, ih1⟩ := roadbooklaw08_EntryBack.mono_l k
    refine ⟨?_, ?_⟩
    · intro y0 y1 y2 y3 y4 y5 y6 y7
      unfold roadbooklaw08_EntryBack.j0
      repeat' first
      | (with_reducible exact ih0 _ _ _ _ _ _ _ _)
      | (with_reducible exact ih1 _ _ _ _ _ _ _)
      | (with_reducible exact entry_Get.mono _ _)
      | (with_reducible exact entry_Put.mono _ _ _ _ _ _ _)
      | (with_reducible exact roadbooklaw08_awake.mono _)
      | (with_reducible exact LeO.refl _)
      | (with_reducible exact LeO.none _)
      | (with_reducible refine LeO.ite ?_ ?_)
      | (with_reducible refine LeO.bind ?_ (fun _ => ?_))
      | exact ih0 _ _ _ _ _ _ _ _
      | exact ih1 _ _ _ _ _ _ _
      | exact entry_Get.mono _ _
      | exact entry_Put.mono _ _ _ _ _ _ _
      | exact roadbooklaw08_awake.mono _
      | exact LeO.none _
      | refine LeO.ite ?_ ?_
      | refine LeO.bind ?_ (fun _ => ?_)
    · intro y0 y1 y2 y3 y4 y5 y6
      unfold roadbooklaw08_EntryBack.j1
      repeat' first
      | (with_reducible exact ih0 _ _ _ _ _ _ _ _)
      | (with_reducible exact ih1 _ _ _ _ _ _ _)
      | (with_reducible exact entry_Get.mono _ _)
      | (with_reducible exact entry_Put.mono _ _ _ _ _ _ _)
      | (with_reducible exact roadbooklaw08_awake.mono _)
      | (with_reducible exact LeO.refl _)
      | (with_reducible exact LeO.none _)
      | (with_reducible refine LeO.ite ?_ ?_)
      | (with_reducible refine LeO.bind ?_ (fun _ => ?_))
      | exact ih0 _ _ _ _ _ _ _ _
      | exact ih1 _ _ _ _ _ _ _
      | exact entry_Get.mono _ _
      | exact entry_Put.mono _ _ _ _ _ _ _
      | exact roadbooklaw08_awake.mono _
      | exact LeO.none _
      | refine LeO.ite ?_ ?_
      | refine LeO.bind ?_ (fun _ => ?_)
theorem roadbooklaw08_EntryBack.mono : ∀ a0 a1 a2 a3 a4 a5 a6 k, LeO (roadbooklaw08_EntryBack.f k a0 a1 a2 a3 a4 a5 a6) (roadbooklaw08_EntryBack.f (k + 1) a0 a1 a2 a3 a4 a5 a6) := by
  intro a0 a1 a2 a3 a4 a5 a6 k
  obtain ⟨ih0, ih1⟩ := roadbooklaw08_EntryBack.mono_l k
  unfold roadbooklaw08_EntryBack.f
  repeat' first
      | (with_reducible exact ih0 _ _ _ _ _ _ _ _)
      | (with_reducible exact ih1 _ _ _ _ _ _ _)
      | (with_reducible exact entry_Get.mono _ _)
      | (with_reducible exact entry_Put.mono _ _ _ _ _ _ _)
      | (with_reducible exact roadbooklaw08_awake.mono _)
      | (with_reducible exact LeO.refl _)
      | (with_reducible exact LeO.none _)
      | (with_reducible refine LeO.ite ?_ ?_)
      | (with_reducible refine LeO.bind ?_ (fun _ => ?_))
      | exact ih0 _ _ _ _ _ _ _ _
      | exact ih1 _ _ _ _ _ _ _
      | exact entry_Get.mono _ _
      | exact entry_Put.mono _ _ _ _ _ _ _
      | exact roadbooklaw08_awake.mono _
      | exact LeO.none _
      | refine LeO.ite ?_ ?_
      | refine LeO.bind ?_ (fun _ => ?_)
set_option maxHeartbeats 8000000 in
set_option maxRecDepth 100000 in
theorem roadbooklaw08_EntryBack.calls (k : Nat) (a0 : ByteArray) (a1_0 : Int) (a1_1 : Int) (a1_2 : ByteArray) (a1_3 : ByteArray) (a1_4 : ByteArray) (a1_5 : Int) (r : Bool) (w : World) (h : roadbooklaw08_EntryBack.f k a0 a1_0 a1_1 a1_2 a1_3 a1_4 a1_5 = some r) :
    Calls Try.prog 4 #[.string a0, .agg #[.int .i64 a1_0, .int .i64 a1_1, .string a1_2, .string a1_3, .string a1_4, .int .i64 a1_5]] w fun e w' => e = .returned (.bool r) ∧ Below w.heap.size w w' := by
  have hu23 := Try.underlying23
  have HB := Aside0.mk (Below.refl w.heap.size w)
  have H : (if (a0.size : Int) > 100 then (roadbooklaw08_EntryBack.j0 k a0 true a1_0 a1_1 a1_2 a1_3 a1_4 a1_5) else (if (wrap64 ((a1_2.size : Int) + (a1_3.size : Int))) > 100 then (roadbooklaw08_EntryBack.j0 k a0 true a1_0 a1_1 a1_2 a1_3 a1_4 a1_5) else (roadbooklaw08_EntryBack.j0 k a0 (decide ((a1_4.size : Int) > 100)) a1_0 a1_1 a1_2 a1_3 a1_4 a1_5))) = some r := h
  clear h
  have HC3 := Aside0.mk H
  clear H
  go_enter Try.func4, Try.ntmps4
  go_upto_region 1 with (first | ((with_reducible refine gate_dst (N := 3) rfl ?_); (try (refine gate_guard (by rfl) ?_; dsimp only)); refine box_event ?hg (N := 3) ?hd (cs := #[.int .i64 a1_0, .int .i64 a1_1, .string a1_2, .string a1_3, .string a1_4, .int .i64 a1_5]) (t := 23) ?hr ?_; (case hd => rfl); (case hg => rfl); (case hr => first | (go_simp; done) | (go_simp; rfl)); intro gb231 hg w4 hbox hb; have n0_ := Aside0.mk (below_step (bel) hb); have n1_ := Aside0.mk (hbox); have n2_ := Aside0.mk ((by rw [hg]; exact bsz : w.heap.size ≤ gb231)); have n3_ := Aside0.mk ((by rw [hg]; exact bsz : w.heap.size ≤ gb231)); clear HB; have HB := n0_; have BK231 := n1_; have GW231 := n2_; have GE231 := n3_; clear n0_ n1_ n2_ n3_; clear hb hbox hg))
  (try simp only [Act.put, List.setIfInBounds_toArray, List.set_cons_zero, List.set_cons_succ])
  go_cut [31] (fun v31 wc => ∃ (kq : Nat) (x31_2 : Bool), v31 = .bool x31_2 ∧ Aside0 (roadbooklaw08_EntryBack.j0 kq a0 x31_2 a1_0 a1_1 a1_2 a1_3 a1_4 a1_5 = some r) ∧ Aside0 (kq ≤ k) ∧ Aside0 (wc.heap[gb231]? = some (.cells #[.int .i64 a1_0, .int .i64 a1_1, .string a1_2, .string a1_3, .string a1_4, .int .i64 a1_5] 23 (0, 0))) ∧ Aside0 (Below w.heap.size w wc))
  case first =>
    have H := HC3.out
    clear HC3
    by_cases c5 : (a0.size : Int) > 100
    · rw [if_pos c5] at H
      have c5b0 : decide (100 < (a0.size : Int)) = true := decide_eq_true c5
      have c5b1 : decide (100 < a0.size) = true := decide_eq_true (by omega)
      clear c5
      (first | rw [c5b0] | (simp only [i64_w, i32_w]; rw [c5b0]) | skip)
      have H' := Aside0.mk H
      clear H
      go_wp2
      go_meet
      case rel => exact ⟨_, (true), rfS, H', ⟨by first | omega | exact Nat.le_refl _⟩, ⟨blk_below BK231.out bll⟩, ⟨bel⟩⟩
    · rw [if_neg c5] at H
      have c5b0 : decide (100 < (a0.size : Int)) = false := decide_eq_false c5
      have c5b1 : decide (100 < a0.size) = false := decide_eq_false (by omega)
      clear c5
      (first | rw [c5b0] | (simp only [i64_w, i32_w]; rw [c5b0]) | skip)
      by_cases c6 : (wrap64 ((a1_2.size : Int) + (a1_3.size : Int))) > 100
      · rw [if_pos c6] at H
        have c6b0 : decide (100 < (wrap64 ((a1_2.size : Int) + (a1_3.size : Int)))) = true := decide_eq_true c6
        clear c6
        have H' := Aside0.mk H
        clear H
        have hcz7_2 := cl2 BK231.out
        have hfz7_2 := blk_frozen BK231.out 2
        have hcz8_3 := cl3 BK231.out
        have hfz8_3 := blk_frozen BK231.out 3
        go_wp2
        go_meet
        case rel => exact ⟨_, (true), rfS, H', ⟨by first | omega | exact Nat.le_refl _⟩, ⟨blk_below BK231.out bll⟩, ⟨bel⟩⟩
      · rw [if_neg c6] at H
        have c6b0 : decide (100 < (wrap64 ((a1_2.size : Int) + (a1_3.size : Int)))) = false := decide_eq_false c6
        clear c6
        have H' := Aside0.mk H
        clear H
        have hcz9_2 := cl2 BK231.out
        have hfz9_2 := blk_frozen BK231.out 2
        have hcz10_3 := cl3 BK231.out
        have hfz10_3 := blk_frozen BK231.out 3
        have hcz11_4 := cl4 BK231.out
        have hfz11_4 := blk_frozen BK231.out 4
        go_wp2
        go_meet
        case rel => exact ⟨_, (decide ((a1_4.size : Int) > 100)), rfS, H', ⟨by first | omega | exact Nat.le_refl _⟩, ⟨blk_below BK231.out bll⟩, ⟨bel⟩⟩
  case rest =>
    clear HC3
    try clear p2
    try clear c4
    try clear c5
    try clear c5b0
    try clear c5b1
    try clear c6
    try clear c6b0
    try clear p6
    try clear hcz10_3
    try clear hcz11_4
    try clear hcz7_2
    try clear hcz8_3
    try clear hcz9_2
    try clear hfz10_3
    try clear hfz11_4
    try clear hfz7_2
    try clear hfz8_3
    try clear hfz9_2
    obtain ⟨kq, x31_2, rfl, HA, HJ2, BK231, HB⟩ := hcut
    cases kq with
    | zero => exact absurd HA.out (by simp [roadbooklaw08_EntryBack.j0])
    | succ kj2 =>
      have H := HA.out
      clear HA
      simp only [roadbooklaw08_EntryBack.j0] at H
      by_cases c12 : x31_2 = true
      · subst c12
        have H1 : ((roadbooklaw08_awake.f kj2).bind fun t232 => (some t232)) = some r := by rw [if_pos rfl] at H; exact H
        clear H
        have H := H1
        clear H1
        replace H := Option.bind_eq_some_iff.mp H
        obtain ⟨t232, A130, H⟩ := H
        replace H : (some t232) = some r := H
        have A13 := Aside0.mk A130
        clear A130
        obtain rfl := Option.some.inj H
        go_wp2_with (first | ((with_reducible refine gate_callee (f := 12) rfl ?_); refine goesL_ (some 32) rfl rfl Try.func12 (by kernel_rfl) rfl #[] rfl gAr ?_; (with_reducible refine (roadbooklaw08_awake.calls kj2  t232 _ A13.out).mono ?_); rintro e w14 ⟨rfl, hb⟩; refine ⟨_, rfl, ?_⟩; have n0_ := Aside0.mk (blk_below (blk_below BK231.out bll) hb); have n1_ := Aside0.mk (below_step (bel) hb); clear BK231; clear HB; have BK231 := n0_; have HB := n1_; clear n0_ n1_; (try clear hb)))
        go_ret
        exact ⟨rtE, bel⟩
      · replace c12 := Bool.eq_false_iff.mpr c12
        subst c12
        have H1 : ((entry_Get.f kj2 a0).bind fun bt233 => ((entry_Put.f kj2 bt233.1 bt233.2.1 bt233.2.2.1 bt233.2.2.2.1 bt233.2.2.2.2.1 bt233.2.2.2.2.2.1).bind fun bt241 => (if (bt233.2.2.2.2.2.2 != ((a0.size : Int) == 20)) = true then (roadbooklaw08_EntryBack.j1 kj2 true a1_0 a1_1 a1_2 a1_3 a1_4 a1_5) else (if bt233.2.2.2.2.2.2 = true then (if bt241.2 = true then (roadbooklaw08_EntryBack.j1 kj2 (bt241.1.toList != a0.toList) a1_0 a1_1 a1_2 a1_3 a1_4 a1_5) else (roadbooklaw08_EntryBack.j1 kj2 true a1_0 a1_1 a1_2 a1_3 a1_4 a1_5)) else (roadbooklaw08_EntryBack.j1 kj2 false a1_0 a1_1 a1_2 a1_3 a1_4 a1_5))))) = some r := by rw [if_neg (show ¬ (false = true) by decide)] at H; exact H
        clear H
        have H := H1
        clear H1
        replace H := Option.bind_eq_some_iff.mp H
        obtain ⟨⟨t233, t234, t235, t236, t237, t238, t239⟩, A150, H⟩ := H
        replace H : ((entry_Put.f kj2 t233 t234 t235 t236 t237 t238).bind fun bt241 => (if (t239 != ((a0.size : Int) == 20)) = true then (roadbooklaw08_EntryBack.j1 kj2 true a1_0 a1_1 a1_2 a1_3 a1_4 a1_5) else (if t239 = true then (if bt241.2 = true then (roadbooklaw08_EntryBack.j1 kj2 (bt241.1.toList != a0.toList) a1_0 a1_1 a1_2 a1_3 a1_4 a1_5) else (roadbooklaw08_EntryBack.j1 kj2 true a1_0 a1_1 a1_2 a1_3 a1_4 a1_5)) else (roadbooklaw08_EntryBack.j1 kj2 false a1_0 a1_1 a1_2 a1_3 a1_4 a1_5)))) = some r := H
        have A15 := Aside0.mk A150
        clear A150
        replace H := Option.bind_eq_some_iff.mp H
        obtain ⟨⟨t241, t242⟩, A160, H⟩ := H
        replace H : (if (t239 != ((a0.size : Int) == 20)) = true then (roadbooklaw08_EntryBack.j1 kj2 true a1_0 a1_1 a1_2 a1_3 a1_4 a1_5) else (if t239 = true then (if t242 = true then (roadbooklaw08_EntryBack.j1 kj2 (t241.toList != a0.toList) a1_0 a1_1 a1_2 a1_3 a1_4 a1_5) else (roadbooklaw08_EntryBack.j1 kj2 true a1_0 a1_1 a1_2 a1_3 a1_4 a1_5)) else (roadbooklaw08_EntryBack.j1 kj2 false a1_0 a1_1 a1_2 a1_3 a1_4 a1_5))) = some r := H
        have A16 := Aside0.mk A160
        clear A160
        have HC17 := Aside0.mk H
        clear H
        go_upto_region 5 with (first | ((with_reducible refine gate_callee (f := 13) rfl ?_); refine goesL_ (some 35) rfl rfl Try.func13 (by kernel_rfl) rfl #[.string a0] rfl gAr ?_; (with_reducible refine (entry_Get.calls kj2 a0 t233 t234 t235 t236 t237 t238 t239 _ A15.out).mono ?_); rintro e w18 ⟨rfl, hb⟩; refine ⟨_, rfl, ?_⟩; have n0_ := Aside0.mk (blk_below (blk_below BK231.out bll) hb); have n1_ := Aside0.mk (below_step (bel) hb); clear BK231; clear HB; have BK231 := n0_; have HB := n1_; clear n0_ n1_; (try clear hb)) | ((with_reducible refine gate_dst (N := 5) rfl ?_); (try (refine gate_guard (by rfl) ?_; dsimp only)); refine box_event ?hg (N := 5) ?hd (cs := #[.int .i64 0, .int .i64 0, .string (⟨#[]⟩ : ByteArray), .string (⟨#[]⟩ : ByteArray), .string (⟨#[]⟩ : ByteArray), .int .i64 0]) (t := 23) ?hr ?_; (case hd => rfl); (case hg => rfl); (case hr => first | (go_simp; done) | (go_simp; rfl)); intro gb240 hg w19 hbox hb; have n0_ := Aside0.mk (blk_below (blk_below BK231.out bll) hb); have n1_ := Aside0.mk (below_step (bel) hb); have n2_ := Aside0.mk (hbox); have n3_ := Aside0.mk ((by rw [hg]; exact bsz : w.heap.size ≤ gb240)); have n4_ := Aside0.mk ((by rw [hg]; exact bsz : w.heap.size ≤ gb240)); have n5_ := Aside0.mk ((by rw [hg]; exact Nat.ne_of_lt (blk_lt (blk_below BK231.out bll)) : gb231 ≠ gb240)); have n6_ := Aside0.mk ((by rw [hg]; exact Nat.ne_of_gt (blk_lt (blk_below BK231.out bll)) : gb240 ≠ gb231)); clear BK231; clear HB; have BK231 := n0_; have HB := n1_; have BK240 := n2_; have GW240 := n3_; have GE240 := n4_; have NB231_240 := n5_; have NB240_231 := n6_; clear n0_ n1_ n2_ n3_ n4_ n5_ n6_; clear hb hbox hg; have hnb20 := NB240_231.out; have hnc20 := NB231_240.out; have hcz21_0 := cl0 BK240.out; have hfz21_0 := blk_frozen BK240.out 0; have hcz22_1 := cl1 BK240.out; have hfz22_1 := blk_frozen BK240.out 1; have hcz23_2 := cl2 BK240.out; have hfz23_2 := blk_frozen BK240.out 2; have hcz24_3 := cl3 BK240.out; have hfz24_3 := blk_frozen BK240.out 3; have hcz25_4 := cl4 BK240.out; have hfz25_4 := blk_frozen BK240.out 4; have hcz26_5 := cl5 BK240.out; have hfz26_5 := blk_frozen BK240.out 5; have hcz27_0 := cl0 BK240.out; have hcz27_1 := cl1 BK240.out; have hcz27_2 := cl2 BK240.out; have hcz27_3 := cl3 BK240.out; have hcz27_4 := cl4 BK240.out; have hcz27_5 := cl5 BK240.out; have hfz27_0 := blk_frozen BK240.out 0; have hfz27_1 := blk_frozen BK240.out 1; have hfz27_2 := blk_frozen BK240.out 2; have hfz27_3 := blk_frozen BK240.out 3; have hfz27_4 := blk_frozen BK240.out 4; have hfz27_5 := blk_frozen BK240.out 5) | ((with_reducible refine gate_callee (f := 15) rfl ?_); refine goesL_ (some 40) rfl rfl Try.func15 (by kernel_rfl) rfl #[.agg #[.int .i64 t233, .int .i64 t234, .string t235, .string t236, .string t237, .int .i64 t238]] rfl gAr ?_; (with_reducible refine (entry_Put.calls kj2 t233 t234 t235 t236 t237 t238 t241 t242 _ A16.out).mono ?_); rintro e w28 ⟨rfl, hb⟩; refine ⟨_, rfl, ?_⟩; have n0_ := Aside0.mk (blk_below (g := gb231) blk hb); have n1_ := Aside0.mk (blk_below (g := gb240) (o := .cells #[.int .i64 t233, .int .i64 t234, .string t235, .string t236, .string t237, .int .i64 t238] 23 (0, 0)) (blk) hb); have n2_ := Aside0.mk (below_step (bel) hb); clear BK231; clear BK240; clear HB; have BK231 := n0_; have BK240 := n1_; have HB := n2_; clear n0_ n1_ n2_; (try clear hb)))
        (try simp only [Act.put, List.setIfInBounds_toArray, List.set_cons_zero, List.set_cons_succ])
        go_cut [59] (fun v59 wc => ∃ (kq : Nat) (x59_16 : Bool), v59 = .bool x59_16 ∧ Aside0 (roadbooklaw08_EntryBack.j1 kq x59_16 a1_0 a1_1 a1_2 a1_3 a1_4 a1_5 = some r) ∧ Aside0 (kq ≤ kj2) ∧ Aside0 (wc.heap[gb231]? = some (.cells #[.int .i64 a1_0, .int .i64 a1_1, .string a1_2, .string a1_3, .string a1_4, .int .i64 a1_5] 23 (0, 0))) ∧ Aside0 (wc.heap[gb240]? = some (.cells #[.int .i64 t233, .int .i64 t234, .string t235, .string t236, .string t237, .int .i64 t238] 23 (0, 0))) ∧ Aside0 (Below w.heap.size w wc))
        case first =>
          have H := HC17.out
          clear HC17
          by_cases c29 : (t239 != ((a0.size : Int) == 20)) = true
          · rw [if_pos c29] at H
            have c29b0 : (t239 != ((a0.size : Int) == 20)) = true := c29
            (try (have c29b1 : decide (t239 = ((a0.size : Int) == 20)) = false := by simpa using c29))
            (try (have c29b2 : (t239 == ((a0.size : Int) == 20)) = false := by simpa using c29))
            (try (have c29b3 : ¬ (t239 = ((a0.size : Int) == 20)) := by simpa using c29))
            clear c29
            (first | rw [c29b0] | (simp only [i64_w, i32_w]; rw [c29b0]) | skip)
            have H' := Aside0.mk H
            clear H
            go_wp2
            go_meet
            case rel => exact ⟨_, (true), rfS, H', ⟨by have := HJ2.out; first | omega | exact Nat.le_refl _⟩, ⟨blk_below BK231.out bll⟩, ⟨blk_below BK240.out bll⟩, ⟨bel⟩⟩
          · rw [if_neg c29] at H
            have c29b0 : (t239 != ((a0.size : Int) == 20)) = false := by simpa using c29
            (try (have c29b1 : decide (t239 = ((a0.size : Int) == 20)) = true := by simpa using c29))
            (try (have c29b2 : (t239 == ((a0.size : Int) == 20)) = true := by simpa using c29))
            clear c29
            (first | rw [c29b0] | (simp only [i64_w, i32_w]; rw [c29b0]) | skip)
            by_cases c30 : t239 = true
            · subst c30
              have H1 : (if t242 = true then (roadbooklaw08_EntryBack.j1 kj2 (t241.toList != a0.toList) a1_0 a1_1 a1_2 a1_3 a1_4 a1_5) else (roadbooklaw08_EntryBack.j1 kj2 true a1_0 a1_1 a1_2 a1_3 a1_4 a1_5)) = some r := by rw [if_pos rfl] at H; exact H
              clear H
              have H := H1
              clear H1
              by_cases c31 : t242 = true
              · subst c31
                have H1 : (roadbooklaw08_EntryBack.j1 kj2 (t241.toList != a0.toList) a1_0 a1_1 a1_2 a1_3 a1_4 a1_5) = some r := by rw [if_pos rfl] at H; exact H
                clear H
                have H := H1
                clear H1
                have H' := Aside0.mk H
                clear H
                go_wp2
                go_meet
                case rel => exact ⟨_, ((t241.toList != a0.toList)), rfS, H', ⟨by have := HJ2.out; first | omega | exact Nat.le_refl _⟩, ⟨blk_below BK231.out bll⟩, ⟨blk_below BK240.out bll⟩, ⟨bel⟩⟩
              · replace c31 := Bool.eq_false_iff.mpr c31
                subst c31
                have H1 : (roadbooklaw08_EntryBack.j1 kj2 true a1_0 a1_1 a1_2 a1_3 a1_4 a1_5) = some r := by rw [if_neg (show ¬ (false = true) by decide)] at H; exact H
                clear H
                have H := H1
                clear H1
                have H' := Aside0.mk H
                clear H
                go_wp2
                go_meet
                case rel => exact ⟨_, (true), rfS, H', ⟨by have := HJ2.out; first | omega | exact Nat.le_refl _⟩, ⟨blk_below BK231.out bll⟩, ⟨blk_below BK240.out bll⟩, ⟨bel⟩⟩
            · replace c30 := Bool.eq_false_iff.mpr c30
              subst c30
              have H1 : (roadbooklaw08_EntryBack.j1 kj2 false a1_0 a1_1 a1_2 a1_3 a1_4 a1_5) = some r := by rw [if_neg (show ¬ (false = true) by decide)] at H; exact H
              clear H
              have H := H1
              clear H1
              have H' := Aside0.mk H
              clear H
              go_wp2
              go_meet
              case rel => exact ⟨_, (false), rfS, H', ⟨by have := HJ2.out; first | omega | exact Nat.le_refl _⟩, ⟨blk_below BK231.out bll⟩, ⟨blk_below BK240.out bll⟩, ⟨bel⟩⟩
        case rest =>
          clear HC17
          try clear c1
          try clear c2
          try clear p2
          try clear c3
          try clear c4
          try clear c5
          try clear c5b0
          try clear c5b1
          try clear c6
          try clear c6b0
          try clear p6
          try clear c12
          try clear c13
          try clear c15
          try clear c20
          try clear c29
          try clear c29b0
          try clear c29b1
          try clear c29b2
          try clear c30
          try clear c31
          try clear hcz10_3
          try clear hcz11_4
          try clear hcz21_0
          try clear hcz22_1
          try clear hcz23_2
          try clear hcz24_3
          try clear hcz25_4
          try clear hcz26_5
          try clear hcz27_0
          try clear hcz27_1
          try clear hcz27_2
          try clear hcz27_3
          try clear hcz27_4
          try clear hcz27_5
          try clear hcz7_2
          try clear hcz8_3
          try clear hcz9_2
          try clear hfz10_3
          try clear hfz11_4
          try clear hfz21_0
          try clear hfz22_1
          try clear hfz23_2
          try clear hfz24_3
          try clear hfz25_4
          try clear hfz26_5
          try clear hfz27_0
          try clear hfz27_1
          try clear hfz27_2
          try clear hfz27_3
          try clear hfz27_4
          try clear hfz27_5
          try clear hfz7_2
          try clear hfz8_3
          try clear hfz9_2
          try clear p2
          try clear p6
          obtain ⟨kq, x59_16, rfl, HA, HJ16, BK231, BK240, HB⟩ := hcut
          cases kq with
          | zero => exact absurd HA.out (by simp [roadbooklaw08_EntryBack.j1])
          | succ kj16 =>
            have H := HA.out
            clear HA
            simp only [roadbooklaw08_EntryBack.j1] at H
            by_cases c32 : x59_16 = true
            · subst c32
              have H1 : (some false) = some r := by rw [if_pos rfl] at H; exact H
              clear H
              have H := H1
              clear H1
              obtain rfl := Option.some.inj H
              go_wp2
              go_ret
              exact ⟨rtE, bel⟩
            · replace c32 := Bool.eq_false_iff.mpr c32
              subst c32
              have H1 : ((entry_Put.f kj16 a1_0 a1_1 a1_2 a1_3 a1_4 a1_5).bind fun bt243 => ((entry_Get.f kj16 bt243.1).bind fun bt245 => ((roadbooklaw08_awake.f kj16).bind fun t253 => (if t253 = true then (if bt243.2 = true then (if bt245.2.2.2.2.2.2 = true then (if (bt245.1 == a1_0 && (bt245.2.1 == a1_1 && (bt245.2.2.1.toList == a1_2.toList && (bt245.2.2.2.1.toList == a1_3.toList && (bt245.2.2.2.2.1.toList == a1_4.toList && (bt245.2.2.2.2.2.1 == a1_5)))))) = true then (some true) else (some false)) else (some false)) else (some (bt243.1.toList == ([] : List UInt8)))) else (some false))))) = some r := by rw [if_neg (show ¬ (false = true) by decide)] at H; exact H
              clear H
              have H := H1
              clear H1
              replace H := Option.bind_eq_some_iff.mp H
              obtain ⟨⟨t243, t244⟩, A330, H⟩ := H
              replace H : ((entry_Get.f kj16 t243).bind fun bt245 => ((roadbooklaw08_awake.f kj16).bind fun t253 => (if t253 = true then (if t244 = true then (if bt245.2.2.2.2.2.2 = true then (if (bt245.1 == a1_0 && (bt245.2.1 == a1_1 && (bt245.2.2.1.toList == a1_2.toList && (bt245.2.2.2.1.toList == a1_3.toList && (bt245.2.2.2.2.1.toList == a1_4.toList && (bt245.2.2.2.2.2.1 == a1_5)))))) = true then (some true) else (some false)) else (some false)) else (some (t243.toList == ([] : List UInt8)))) else (some false)))) = some r := H
              have A33 := Aside0.mk A330
              clear A330
              replace H := Option.bind_eq_some_iff.mp H
              obtain ⟨⟨t245, t246, t247, t248, t249, t250, t251⟩, A340, H⟩ := H
              replace H : ((roadbooklaw08_awake.f kj16).bind fun t253 => (if t253 = true then (if t244 = true then (if t251 = true then (if (t245 == a1_0 && (t246 == a1_1 && (t247.toList == a1_2.toList && (t248.toList == a1_3.toList && (t249.toList == a1_4.toList && (t250 == a1_5)))))) = true then (some true) else (some false)) else (some false)) else (some (t243.toList == ([] : List UInt8)))) else (some false))) = some r := H
              have A34 := Aside0.mk A340
              clear A340
              replace H := Option.bind_eq_some_iff.mp H
              obtain ⟨t253, A350, H⟩ := H
              replace H : (if t253 = true then (if t244 = true then (if t251 = true then (if (t245 == a1_0 && (t246 == a1_1 && (t247.toList == a1_2.toList && (t248.toList == a1_3.toList && (t249.toList == a1_4.toList && (t250 == a1_5)))))) = true then (some true) else (some false)) else (some false)) else (some (t243.toList == ([] : List UInt8)))) else (some false)) = some r := H
              have A35 := Aside0.mk A350
              clear A350
              by_cases c36 : t253 = true
              · subst c36
                have H1 : (if t244 = true then (if t251 = true then (if (t245 == a1_0 && (t246 == a1_1 && (t247.toList == a1_2.toList && (t248.toList == a1_3.toList && (t249.toList == a1_4.toList && (t250 == a1_5)))))) = true then (some true) else (some false)) else (some false)) else (some (t243.toList == ([] : List UInt8)))) = some r := by rw [if_pos rfl] at H; exact H
                clear H
                have H := H1
                clear H1
                by_cases c37 : t244 = true
                · subst c37
                  have H1 : (if t251 = true then (if (t245 == a1_0 && (t246 == a1_1 && (t247.toList == a1_2.toList && (t248.toList == a1_3.toList && (t249.toList == a1_4.toList && (t250 == a1_5)))))) = true then (some true) else (some false)) else (some false)) = some r := by rw [if_pos rfl] at H; exact H
                  clear H
                  have H := H1
                  clear H1
                  by_cases c38 : t251 = true
                  · subst c38
                    have H1 : (if (t245 == a1_0 && (t246 == a1_1 && (t247.toList == a1_2.toList && (t248.toList == a1_3.toList && (t249.toList == a1_4.toList && (t250 == a1_5)))))) = true then (some true) else (some false)) = some r := by rw [if_pos rfl] at H; exact H
                    clear H
                    have H := H1
                    clear H1
                    by_cases c39 : (t245 == a1_0 && (t246 == a1_1 && (t247.toList == a1_2.toList && (t248.toList == a1_3.toList && (t249.toList == a1_4.toList && (t250 == a1_5)))))) = true
                    · rw [if_pos c39] at H
                      have c39b0 : (t245 == a1_0 && (t246 == a1_1 && (t247.toList == a1_2.toList && (t248.toList == a1_3.toList && (t249.toList == a1_4.toList && (t250 == a1_5)))))) = true := c39
                      (try (have c39b1 : decide (t245 = a1_0 && (t246 == a1_1 && (t247.toList == a1_2.toList && (t248.toList == a1_3.toList && (t249.toList == a1_4.toList && (t250 == a1_5)))))) = true := by simpa using c39))
                      (try (have c39b2 : (t245 == a1_0 && (t246 == a1_1 && (t247.toList == a1_2.toList && (t248.toList == a1_3.toList && (t249.toList == a1_4.toList && (t250 == a1_5)))))) = true := by simpa using c39))
                      clear c39
                      obtain rfl := Option.some.inj H
                      have hnb40 := NB231_240.out
                      have hnc40 := NB240_231.out
                      have hcz41_0 := cl0 BK231.out
                      have hcz41_1 := cl1 BK231.out
                      have hcz41_2 := cl2 BK231.out
                      have hcz41_3 := cl3 BK231.out
                      have hcz41_4 := cl4 BK231.out
                      have hcz41_5 := cl5 BK231.out
                      have hfz41_0 := blk_frozen BK231.out 0
                      have hfz41_1 := blk_frozen BK231.out 1
                      have hfz41_2 := blk_frozen BK231.out 2
                      have hfz41_3 := blk_frozen BK231.out 3
                      have hfz41_4 := blk_frozen BK231.out 4
                      have hfz41_5 := blk_frozen BK231.out 5
                      go_wp2_with (first | ((with_reducible refine gate_callee (f := 15) rfl ?_); refine goesL_ (some 62) rfl rfl Try.func15 (by kernel_rfl) rfl #[.agg #[.int .i64 a1_0, .int .i64 a1_1, .string a1_2, .string a1_3, .string a1_4, .int .i64 a1_5]] rfl gAr ?_; (with_reducible refine (entry_Put.calls kj16 a1_0 a1_1 a1_2 a1_3 a1_4 a1_5 t243 true _ A33.out).mono ?_); rintro e w42 ⟨rfl, hb⟩; refine ⟨_, rfl, ?_⟩; have n0_ := Aside0.mk (blk_below (blk_below BK231.out bll) hb); have n1_ := Aside0.mk (blk_below (blk_below BK240.out bll) hb); have n2_ := Aside0.mk (below_step (bel) hb); clear BK231; clear BK240; clear HB; have BK231 := n0_; have BK240 := n1_; have HB := n2_; clear n0_ n1_ n2_; (try clear hb)) | ((with_reducible refine gate_callee (f := 13) rfl ?_); refine goesL_ (some 67) rfl rfl Try.func13 (by kernel_rfl) rfl #[.string t243] rfl gAr ?_; (with_reducible refine (entry_Get.calls kj16 t243 t245 t246 t247 t248 t249 t250 true _ A34.out).mono ?_); rintro e w43 ⟨rfl, hb⟩; refine ⟨_, rfl, ?_⟩; have n0_ := Aside0.mk (blk_below (blk_below BK231.out bll) hb); have n1_ := Aside0.mk (blk_below (blk_below BK240.out bll) hb); have n2_ := Aside0.mk (below_step (bel) hb); clear BK231; clear BK240; clear HB; have BK231 := n0_; have BK240 := n1_; have HB := n2_; clear n0_ n1_ n2_; (try clear hb)) | ((with_reducible refine gate_dst (N := 11) rfl ?_); (try (refine gate_guard (by rfl) ?_; dsimp only)); refine box_event ?hg (N := 11) ?hd (cs := #[.int .i64 0, .int .i64 0, .string (⟨#[]⟩ : ByteArray), .string (⟨#[]⟩ : ByteArray), .string (⟨#[]⟩ : ByteArray), .int .i64 0]) (t := 23) ?hr ?_; (case hd => rfl); (case hg => rfl); (case hr => first | (go_simp; done) | (go_simp; rfl)); intro gb252 hg w44 hbox hb; have n0_ := Aside0.mk (blk_below (blk_below BK231.out bll) hb); have n1_ := Aside0.mk (blk_below (blk_below BK240.out bll) hb); have n2_ := Aside0.mk (below_step (bel) hb); have n3_ := Aside0.mk (hbox); have n4_ := Aside0.mk ((by rw [hg]; exact bsz : w.heap.size ≤ gb252)); have n5_ := Aside0.mk ((by rw [hg]; exact bsz : w.heap.size ≤ gb252)); have n6_ := Aside0.mk ((by rw [hg]; exact Nat.ne_of_lt (blk_lt (blk_below BK231.out bll)) : gb231 ≠ gb252)); have n7_ := Aside0.mk ((by rw [hg]; exact Nat.ne_of_gt (blk_lt (blk_below BK231.out bll)) : gb252 ≠ gb231)); have n8_ := Aside0.mk ((by rw [hg]; exact Nat.ne_of_lt (blk_lt (blk_below BK240.out bll)) : gb240 ≠ gb252)); have n9_ := Aside0.mk ((by rw [hg]; exact Nat.ne_of_gt (blk_lt (blk_below BK240.out bll)) : gb252 ≠ gb240)); clear BK231; clear BK240; clear HB; have BK231 := n0_; have BK240 := n1_; have HB := n2_; have BK252 := n3_; have GW252 := n4_; have GE252 := n5_; have NB231_252 := n6_; have NB252_231 := n7_; have NB240_252 := n8_; have NB252_240 := n9_; clear n0_ n1_ n2_ n3_ n4_ n5_ n6_ n7_ n8_ n9_; clear hb hbox hg; have hnb45 := NB252_231.out; have hnc45 := NB231_252.out; have hnb46 := NB252_240.out; have hnc46 := NB240_252.out; have hcz47_0 := cl0 BK252.out; have hfz47_0 := blk_frozen BK252.out 0; have hcz48_1 := cl1 BK252.out; have hfz48_1 := blk_frozen BK252.out 1; have hcz49_2 := cl2 BK252.out; have hfz49_2 := blk_frozen BK252.out 2; have hcz50_3 := cl3 BK252.out; have hfz50_3 := blk_frozen BK252.out 3; have hcz51_4 := cl4 BK252.out; have hfz51_4 := blk_frozen BK252.out 4; have hcz52_5 := cl5 BK252.out; have hfz52_5 := blk_frozen BK252.out 5) | ((with_reducible refine gate_callee (f := 12) rfl ?_); refine goesL_ (some 70) rfl rfl Try.func12 (by kernel_rfl) rfl #[] rfl gAr ?_; (with_reducible refine (roadbooklaw08_awake.calls kj16  true _ A35.out).mono ?_); rintro e w53 ⟨rfl, hb⟩; refine ⟨_, rfl, ?_⟩; have n0_ := Aside0.mk (blk_below (g := gb231) blk hb); have n1_ := Aside0.mk (blk_below (g := gb240) blk hb); have n2_ := Aside0.mk (blk_below (g := gb252) (o := .cells #[.int .i64 t245, .int .i64 t246, .string t247, .string t248, .string t249, .int .i64 t250] 23 (0, 0)) (blk) hb); have n3_ := Aside0.mk (below_step (bel) hb); clear BK231; clear BK240; clear BK252; clear HB; have BK231 := n0_; have BK240 := n1_; have BK252 := n2_; have HB := n3_; clear n0_ n1_ n2_ n3_; (try clear hb); have hcz54_0 := cl0 BK252.out; have hcz54_1 := cl1 BK252.out; have hcz54_2 := cl2 BK252.out; have hcz54_3 := cl3 BK252.out; have hcz54_4 := cl4 BK252.out; have hcz54_5 := cl5 BK252.out; have hfz54_0 := blk_frozen BK252.out 0; have hfz54_1 := blk_frozen BK252.out 1; have hfz54_2 := blk_frozen BK252.out 2; have hfz54_3 := blk_frozen BK252.out 3; have hfz54_4 := blk_frozen BK252.out 4; have hfz54_5 := blk_frozen BK252.out 5; have hcz55_0 := cl0 BK231.out; have hcz55_1 := cl1 BK231.out; have hcz55_2 := cl2 BK231.out; have hcz55_3 := cl3 BK231.out; have hcz55_4 := cl4 BK231.out; have hcz55_5 := cl5 BK231.out; have hfz55_0 := blk_frozen BK231.out 0; have hfz55_1 := blk_frozen BK231.out 1; have hfz55_2 := blk_frozen BK231.out 2; have hfz55_3 := blk_frozen BK231.out 3; have hfz55_4 := blk_frozen BK231.out 4; have hfz55_5 := blk_frozen BK231.out 5))
                      go_ret
                      exact ⟨rtE, bel⟩
                    · rw [if_neg c39] at H
                      have c39b0 : (t245 == a1_0 && (t246 == a1_1 && (t247.toList == a1_2.toList && (t248.toList == a1_3.toList && (t249.toList == a1_4.toList && (t250 == a1_5)))))) = false := by simpa using c39
                      (try (have c39b1 : decide (t245 = a1_0 && (t246 == a1_1 && (t247.toList == a1_2.toList && (t248.toList == a1_3.toList && (t249.toList == a1_4.toList && (t250 == a1_5)))))) = false := by simpa using c39))
                      (try (have c39b2 : (t245 == a1_0 && (t246 == a1_1 && (t247.toList == a1_2.toList && (t248.toList == a1_3.toList && (t249.toList == a1_4.toList && (t250 == a1_5)))))) = false := by simpa using c39))
                      (try (have c39b3 : ¬ (t245 = a1_0 && (t246 == a1_1 && (t247.toList == a1_2.toList && (t248.toList == a1_3.toList && (t249.toList == a1_4.toList && (t250 == a1_5)))))) := by simpa using c39))
                      clear c39
                      obtain rfl := Option.some.inj H
                      have hnb56 := NB231_240.out
                      have hnc56 := NB240_231.out
                      have hcz57_0 := cl0 BK231.out
                      have hcz57_1 := cl1 BK231.out
                      have hcz57_2 := cl2 BK231.out
                      have hcz57_3 := cl3 BK231.out
                      have hcz57_4 := cl4 BK231.out
                      have hcz57_5 := cl5 BK231.out
                      have hfz57_0 := blk_frozen BK231.out 0
                      have hfz57_1 := blk_frozen BK231.out 1
                      have hfz57_2 := blk_frozen BK231.out 2
                      have hfz57_3 := blk_frozen BK231.out 3
                      have hfz57_4 := blk_frozen BK231.out 4
                      have hfz57_5 := blk_frozen BK231.out 5
                      go_wp2_with (first | ((with_reducible refine gate_callee (f := 15) rfl ?_); refine goesL_ (some 62) rfl rfl Try.func15 (by kernel_rfl) rfl #[.agg #[.int .i64 a1_0, .int .i64 a1_1, .string a1_2, .string a1_3, .string a1_4, .int .i64 a1_5]] rfl gAr ?_; (with_reducible refine (entry_Put.calls kj16 a1_0 a1_1 a1_2 a1_3 a1_4 a1_5 t243 true _ A33.out).mono ?_); rintro e w58 ⟨rfl, hb⟩; refine ⟨_, rfl, ?_⟩; have n0_ := Aside0.mk (blk_below (blk_below BK231.out bll) hb); have n1_ := Aside0.mk (blk_below (blk_below BK240.out bll) hb); have n2_ := Aside0.mk (below_step (bel) hb); clear BK231; clear BK240; clear HB; have BK231 := n0_; have BK240 := n1_; have HB := n2_; clear n0_ n1_ n2_; (try clear hb)) | ((with_reducible refine gate_callee (f := 13) rfl ?_); refine goesL_ (some 67) rfl rfl Try.func13 (by kernel_rfl) rfl #[.string t243] rfl gAr ?_; (with_reducible refine (entry_Get.calls kj16 t243 t245 t246 t247 t248 t249 t250 true _ A34.out).mono ?_); rintro e w59 ⟨rfl, hb⟩; refine ⟨_, rfl, ?_⟩; have n0_ := Aside0.mk (blk_below (blk_below BK231.out bll) hb); have n1_ := Aside0.mk (blk_below (blk_below BK240.out bll) hb); have n2_ := Aside0.mk (below_step (bel) hb); clear BK231; clear BK240; clear HB; have BK231 := n0_; have BK240 := n1_; have HB := n2_; clear n0_ n1_ n2_; (try clear hb)) | ((with_reducible refine gate_dst (N := 11) rfl ?_); (try (refine gate_guard (by rfl) ?_; dsimp only)); refine box_event ?hg (N := 11) ?hd (cs := #[.int .i64 0, .int .i64 0, .string (⟨#[]⟩ : ByteArray), .string (⟨#[]⟩ : ByteArray), .string (⟨#[]⟩ : ByteArray), .int .i64 0]) (t := 23) ?hr ?_; (case hd => rfl); (case hg => rfl); (case hr => first | (go_simp; done) | (go_simp; rfl)); intro gb252 hg w60 hbox hb; have n0_ := Aside0.mk (blk_below (blk_below BK231.out bll) hb); have n1_ := Aside0.mk (blk_below (blk_below BK240.out bll) hb); have n2_ := Aside0.mk (below_step (bel) hb); have n3_ := Aside0.mk (hbox); have n4_ := Aside0.mk ((by rw [hg]; exact bsz : w.heap.size ≤ gb252)); have n5_ := Aside0.mk ((by rw [hg]; exact bsz : w.heap.size ≤ gb252)); have n6_ := Aside0.mk ((by rw [hg]; exact Nat.ne_of_lt (blk_lt (blk_below BK231.out bll)) : gb231 ≠ gb252)); have n7_ := Aside0.mk ((by rw [hg]; exact Nat.ne_of_gt (blk_lt (blk_below BK231.out bll)) : gb252 ≠ gb231)); have n8_ := Aside0.mk ((by rw [hg]; exact Nat.ne_of_lt (blk_lt (blk_below BK240.out bll)) : gb240 ≠ gb252)); have n9_ := Aside0.mk ((by rw [hg]; exact Nat.ne_of_gt (blk_lt (blk_below BK240.out bll)) : gb252 ≠ gb240)); clear BK231; clear BK240; clear HB; have BK231 := n0_; have BK240 := n1_; have HB := n2_; have BK252 := n3_; have GW252 := n4_; have GE252 := n5_; have NB231_252 := n6_; have NB252_231 := n7_; have NB240_252 := n8_; have NB252_240 := n9_; clear n0_ n1_ n2_ n3_ n4_ n5_ n6_ n7_ n8_ n9_; clear hb hbox hg; have hnb61 := NB252_231.out; have hnc61 := NB231_252.out; have hnb62 := NB252_240.out; have hnc62 := NB240_252.out; have hcz63_0 := cl0 BK252.out; have hfz63_0 := blk_frozen BK252.out 0; have hcz64_1 := cl1 BK252.out; have hfz64_1 := blk_frozen BK252.out 1; have hcz65_2 := cl2 BK252.out; have hfz65_2 := blk_frozen BK252.out 2; have hcz66_3 := cl3 BK252.out; have hfz66_3 := blk_frozen BK252.out 3; have hcz67_4 := cl4 BK252.out; have hfz67_4 := blk_frozen BK252.out 4; have hcz68_5 := cl5 BK252.out; have hfz68_5 := blk_frozen BK252.out 5) | ((with_reducible refine gate_callee (f := 12) rfl ?_); refine goesL_ (some 70) rfl rfl Try.func12 (by kernel_rfl) rfl #[] rfl gAr ?_; (with_reducible refine (roadbooklaw08_awake.calls kj16  true _ A35.out).mono ?_); rintro e w69 ⟨rfl, hb⟩; refine ⟨_, rfl, ?_⟩; have n0_ := Aside0.mk (blk_below (g := gb231) blk hb); have n1_ := Aside0.mk (blk_below (g := gb240) blk hb); have n2_ := Aside0.mk (blk_below (g := gb252) (o := .cells #[.int .i64 t245, .int .i64 t246, .string t247, .string t248, .string t249, .int .i64 t250] 23 (0, 0)) (blk) hb); have n3_ := Aside0.mk (below_step (bel) hb); clear BK231; clear BK240; clear BK252; clear HB; have BK231 := n0_; have BK240 := n1_; have BK252 := n2_; have HB := n3_; clear n0_ n1_ n2_ n3_; (try clear hb); have hcz70_0 := cl0 BK252.out; have hcz70_1 := cl1 BK252.out; have hcz70_2 := cl2 BK252.out; have hcz70_3 := cl3 BK252.out; have hcz70_4 := cl4 BK252.out; have hcz70_5 := cl5 BK252.out; have hfz70_0 := blk_frozen BK252.out 0; have hfz70_1 := blk_frozen BK252.out 1; have hfz70_2 := blk_frozen BK252.out 2; have hfz70_3 := blk_frozen BK252.out 3; have hfz70_4 := blk_frozen BK252.out 4; have hfz70_5 := blk_frozen BK252.out 5; have hcz71_0 := cl0 BK231.out; have hcz71_1 := cl1 BK231.out; have hcz71_2 := cl2 BK231.out; have hcz71_3 := cl3 BK231.out; have hcz71_4 := cl4 BK231.out; have hcz71_5 := cl5 BK231.out; have hfz71_0 := blk_frozen BK231.out 0; have hfz71_1 := blk_frozen BK231.out 1; have hfz71_2 := blk_frozen BK231.out 2; have hfz71_3 := blk_frozen BK231.out 3; have hfz71_4 := blk_frozen BK231.out 4; have hfz71_5 := blk_frozen BK231.out 5))
                      go_ret
                      exact ⟨rtE, bel⟩
                  · replace c38 := Bool.eq_false_iff.mpr c38
                    subst c38
                    have H1 : (some false) = some r := by rw [if_neg (show ¬ (false = true) by decide)] at H; exact H
                    clear H
                    have H := H1
                    clear H1
                    obtain rfl := Option.some.inj H
                    have hnb72 := NB231_240.out
                    have hnc72 := NB240_231.out
                    have hcz73_0 := cl0 BK231.out
                    have hcz73_1 := cl1 BK231.out
                    have hcz73_2 := cl2 BK231.out
                    have hcz73_3 := cl3 BK231.out
                    have hcz73_4 := cl4 BK231.out
                    have hcz73_5 := cl5 BK231.out
                    have hfz73_0 := blk_frozen BK231.out 0
                    have hfz73_1 := blk_frozen BK231.out 1
                    have hfz73_2 := blk_frozen BK231.out 2
                    have hfz73_3 := blk_frozen BK231.out 3
                    have hfz73_4 := blk_frozen BK231.out 4
                    have hfz73_5 := blk_frozen BK231.out 5
                    go_wp2_with (first | ((with_reducible refine gate_callee (f := 15) rfl ?_); refine goesL_ (some 62) rfl rfl Try.func15 (by kernel_rfl) rfl #[.agg #[.int .i64 a1_0, .int .i64 a1_1, .string a1_2, .string a1_3, .string a1_4, .int .i64 a1_5]] rfl gAr ?_; (with_reducible refine (entry_Put.calls kj16 a1_0 a1_1 a1_2 a1_3 a1_4 a1_5 t243 true _ A33.out).mono ?_); rintro e w74 ⟨rfl, hb⟩; refine ⟨_, rfl, ?_⟩; have n0_ := Aside0.mk (blk_below (blk_below BK231.out bll) hb); have n1_ := Aside0.mk (blk_below (blk_below BK240.out bll) hb); have n2_ := Aside0.mk (below_step (bel) hb); clear BK231; clear BK240; clear HB; have BK231 := n0_; have BK240 := n1_; have HB := n2_; clear n0_ n1_ n2_; (try clear hb)) | ((with_reducible refine gate_callee (f := 13) rfl ?_); refine goesL_ (some 67) rfl rfl Try.func13 (by kernel_rfl) rfl #[.string t243] rfl gAr ?_; (with_reducible refine (entry_Get.calls kj16 t243 t245 t246 t247 t248 t249 t250 false _ A34.out).mono ?_); rintro e w75 ⟨rfl, hb⟩; refine ⟨_, rfl, ?_⟩; have n0_ := Aside0.mk (blk_below (blk_below BK231.out bll) hb); have n1_ := Aside0.mk (blk_below (blk_below BK240.out bll) hb); have n2_ := Aside0.mk (below_step (bel) hb); clear BK231; clear BK240; clear HB; have BK231 := n0_; have BK240 := n1_; have HB := n2_; clear n0_ n1_ n2_; (try clear hb)) | ((with_reducible refine gate_dst (N := 11) rfl ?_); (try (refine gate_guard (by rfl) ?_; dsimp only)); refine box_event ?hg (N := 11) ?hd (cs := #[.int .i64 0, .int .i64 0, .string (⟨#[]⟩ : ByteArray), .string (⟨#[]⟩ : ByteArray), .string (⟨#[]⟩ : ByteArray), .int .i64 0]) (t := 23) ?hr ?_; (case hd => rfl); (case hg => rfl); (case hr => first | (go_simp; done) | (go_simp; rfl)); intro gb252 hg w76 hbox hb; have n0_ := Aside0.mk (blk_below (blk_below BK231.out bll) hb); have n1_ := Aside0.mk (blk_below (blk_below BK240.out bll) hb); have n2_ := Aside0.mk (below_step (bel) hb); have n3_ := Aside0.mk (hbox); have n4_ := Aside0.mk ((by rw [hg]; exact bsz : w.heap.size ≤ gb252)); have n5_ := Aside0.mk ((by rw [hg]; exact bsz : w.heap.size ≤ gb252)); have n6_ := Aside0.mk ((by rw [hg]; exact Nat.ne_of_lt (blk_lt (blk_below BK231.out bll)) : gb231 ≠ gb252)); have n7_ := Aside0.mk ((by rw [hg]; exact Nat.ne_of_gt (blk_lt (blk_below BK231.out bll)) : gb252 ≠ gb231)); have n8_ := Aside0.mk ((by rw [hg]; exact Nat.ne_of_lt (blk_lt (blk_below BK240.out bll)) : gb240 ≠ gb252)); have n9_ := Aside0.mk ((by rw [hg]; exact Nat.ne_of_gt (blk_lt (blk_below BK240.out bll)) : gb252 ≠ gb240)); clear BK231; clear BK240; clear HB; have BK231 := n0_; have BK240 := n1_; have HB := n2_; have BK252 := n3_; have GW252 := n4_; have GE252 := n5_; have NB231_252 := n6_; have NB252_231 := n7_; have NB240_252 := n8_; have NB252_240 := n9_; clear n0_ n1_ n2_ n3_ n4_ n5_ n6_ n7_ n8_ n9_; clear hb hbox hg; have hnb77 := NB252_231.out; have hnc77 := NB231_252.out; have hnb78 := NB252_240.out; have hnc78 := NB240_252.out; have hcz79_0 := cl0 BK252.out; have hfz79_0 := blk_frozen BK252.out 0; have hcz80_1 := cl1 BK252.out; have hfz80_1 := blk_frozen BK252.out 1; have hcz81_2 := cl2 BK252.out; have hfz81_2 := blk_frozen BK252.out 2; have hcz82_3 := cl3 BK252.out; have hfz82_3 := blk_frozen BK252.out 3; have hcz83_4 := cl4 BK252.out; have hfz83_4 := blk_frozen BK252.out 4; have hcz84_5 := cl5 BK252.out; have hfz84_5 := blk_frozen BK252.out 5) | ((with_reducible refine gate_callee (f := 12) rfl ?_); refine goesL_ (some 70) rfl rfl Try.func12 (by kernel_rfl) rfl #[] rfl gAr ?_; (with_reducible refine (roadbooklaw08_awake.calls kj16  true _ A35.out).mono ?_); rintro e w85 ⟨rfl, hb⟩; refine ⟨_, rfl, ?_⟩; have n0_ := Aside0.mk (blk_below (g := gb231) blk hb); have n1_ := Aside0.mk (blk_below (g := gb240) blk hb); have n2_ := Aside0.mk (blk_below (g := gb252) (o := .cells #[.int .i64 t245, .int .i64 t246, .string t247, .string t248, .string t249, .int .i64 t250] 23 (0, 0)) (blk) hb); have n3_ := Aside0.mk (below_step (bel) hb); clear BK231; clear BK240; clear BK252; clear HB; have BK231 := n0_; have BK240 := n1_; have BK252 := n2_; have HB := n3_; clear n0_ n1_ n2_ n3_; (try clear hb)))
                    go_ret
                    exact ⟨rtE, bel⟩
                · replace c37 := Bool.eq_false_iff.mpr c37
                  subst c37
                  have H1 : (some (t243.toList == ([] : List UInt8))) = some r := by rw [if_neg (show ¬ (false = true) by decide)] at H; exact H
                  clear H
                  have H := H1
                  clear H1
                  obtain rfl := Option.some.inj H
                  have hnb86 := NB231_240.out
                  have hnc86 := NB240_231.out
                  have hcz87_0 := cl0 BK231.out
                  have hcz87_1 := cl1 BK231.out
                  have hcz87_2 := cl2 BK231.out
                  have hcz87_3 := cl3 BK231.out
                  have hcz87_4 := cl4 BK231.out
                  have hcz87_5 := cl5 BK231.out
                  have hfz87_0 := blk_frozen BK231.out 0
                  have hfz87_1 := blk_frozen BK231.out 1
                  have hfz87_2 := blk_frozen BK231.out 2
                  have hfz87_3 := blk_frozen BK231.out 3
                  have hfz87_4 := blk_frozen BK231.out 4
                  have hfz87_5 := blk_frozen BK231.out 5
                  go_wp2_with (first | ((with_reducible refine gate_callee (f := 15) rfl ?_); refine goesL_ (some 62) rfl rfl Try.func15 (by kernel_rfl) rfl #[.agg #[.int .i64 a1_0, .int .i64 a1_1, .string a1_2, .string a1_3, .string a1_4, .int .i64 a1_5]] rfl gAr ?_; (with_reducible refine (entry_Put.calls kj16 a1_0 a1_1 a1_2 a1_3 a1_4 a1_5 t243 false _ A33.out).mono ?_); rintro e w88 ⟨rfl, hb⟩; refine ⟨_, rfl, ?_⟩; have n0_ := Aside0.mk (blk_below (blk_below BK231.out bll) hb); have n1_ := Aside0.mk (blk_below (blk_below BK240.out bll) hb); have n2_ := Aside0.mk (below_step (bel) hb); clear BK231; clear BK240; clear HB; have BK231 := n0_; have BK240 := n1_; have HB := n2_; clear n0_ n1_ n2_; (try clear hb)) | ((with_reducible refine gate_callee (f := 13) rfl ?_); refine goesL_ (some 67) rfl rfl Try.func13 (by kernel_rfl) rfl #[.string t243] rfl gAr ?_; (with_reducible refine (entry_Get.calls kj16 t243 t245 t246 t247 t248 t249 t250 t251 _ A34.out).mono ?_); rintro e w89 ⟨rfl, hb⟩; refine ⟨_, rfl, ?_⟩; have n0_ := Aside0.mk (blk_below (blk_below BK231.out bll) hb); have n1_ := Aside0.mk (blk_below (blk_below BK240.out bll) hb); have n2_ := Aside0.mk (below_step (bel) hb); clear BK231; clear BK240; clear HB; have BK231 := n0_; have BK240 := n1_; have HB := n2_; clear n0_ n1_ n2_; (try clear hb)) | ((with_reducible refine gate_dst (N := 11) rfl ?_); (try (refine gate_guard (by rfl) ?_; dsimp only)); refine box_event ?hg (N := 11) ?hd (cs := #[.int .i64 0, .int .i64 0, .string (⟨#[]⟩ : ByteArray), .string (⟨#[]⟩ : ByteArray), .string (⟨#[]⟩ : ByteArray), .int .i64 0]) (t := 23) ?hr ?_; (case hd => rfl); (case hg => rfl); (case hr => first | (go_simp; done) | (go_simp; rfl)); intro gb252 hg w90 hbox hb; have n0_ := Aside0.mk (blk_below (blk_below BK231.out bll) hb); have n1_ := Aside0.mk (blk_below (blk_below BK240.out bll) hb); have n2_ := Aside0.mk (below_step (bel) hb); have n3_ := Aside0.mk (hbox); have n4_ := Aside0.mk ((by rw [hg]; exact bsz : w.heap.size ≤ gb252)); have n5_ := Aside0.mk ((by rw [hg]; exact bsz : w.heap.size ≤ gb252)); have n6_ := Aside0.mk ((by rw [hg]; exact Nat.ne_of_lt (blk_lt (blk_below BK231.out bll)) : gb231 ≠ gb252)); have n7_ := Aside0.mk ((by rw [hg]; exact Nat.ne_of_gt (blk_lt (blk_below BK231.out bll)) : gb252 ≠ gb231)); have n8_ := Aside0.mk ((by rw [hg]; exact Nat.ne_of_lt (blk_lt (blk_below BK240.out bll)) : gb240 ≠ gb252)); have n9_ := Aside0.mk ((by rw [hg]; exact Nat.ne_of_gt (blk_lt (blk_below BK240.out bll)) : gb252 ≠ gb240)); clear BK231; clear BK240; clear HB; have BK231 := n0_; have BK240 := n1_; have HB := n2_; have BK252 := n3_; have GW252 := n4_; have GE252 := n5_; have NB231_252 := n6_; have NB252_231 := n7_; have NB240_252 := n8_; have NB252_240 := n9_; clear n0_ n1_ n2_ n3_ n4_ n5_ n6_ n7_ n8_ n9_; clear hb hbox hg; have hnb91 := NB252_231.out; have hnc91 := NB231_252.out; have hnb92 := NB252_240.out; have hnc92 := NB240_252.out; have hcz93_0 := cl0 BK252.out; have hfz93_0 := blk_frozen BK252.out 0; have hcz94_1 := cl1 BK252.out; have hfz94_1 := blk_frozen BK252.out 1; have hcz95_2 := cl2 BK252.out; have hfz95_2 := blk_frozen BK252.out 2; have hcz96_3 := cl3 BK252.out; have hfz96_3 := blk_frozen BK252.out 3; have hcz97_4 := cl4 BK252.out; have hfz97_4 := blk_frozen BK252.out 4; have hcz98_5 := cl5 BK252.out; have hfz98_5 := blk_frozen BK252.out 5) | ((with_reducible refine gate_callee (f := 12) rfl ?_); refine goesL_ (some 70) rfl rfl Try.func12 (by kernel_rfl) rfl #[] rfl gAr ?_; (with_reducible refine (roadbooklaw08_awake.calls kj16  true _ A35.out).mono ?_); rintro e w99 ⟨rfl, hb⟩; refine ⟨_, rfl, ?_⟩; have n0_ := Aside0.mk (blk_below (g := gb231) blk hb); have n1_ := Aside0.mk (blk_below (g := gb240) blk hb); have n2_ := Aside0.mk (blk_below (g := gb252) (o := .cells #[.int .i64 t245, .int .i64 t246, .string t247, .string t248, .string t249, .int .i64 t250] 23 (0, 0)) (blk) hb); have n3_ := Aside0.mk (below_step (bel) hb); clear BK231; clear BK240; clear BK252; clear HB; have BK231 := n0_; have BK240 := n1_; have BK252 := n2_; have HB := n3_; clear n0_ n1_ n2_ n3_; (try clear hb)))
                  go_ret
                  exact ⟨rtE, bel⟩
              · replace c36 := Bool.eq_false_iff.mpr c36
                subst c36
                have H1 : (some false) = some r := by rw [if_neg (show ¬ (false = true) by decide)] at H; exact H
                clear H
                have H := H1
                clear H1
                obtain rfl := Option.some.inj H
                have hnb100 := NB231_240.out
                have hnc100 := NB240_231.out
                have hcz101_0 := cl0 BK231.out
                have hcz101_1 := cl1 BK231.out
                have hcz101_2 := cl2 BK231.out
                have hcz101_3 := cl3 BK231.out
                have hcz101_4 := cl4 BK231.out
                have hcz101_5 := cl5 BK231.out
                have hfz101_0 := blk_frozen BK231.out 0
                have hfz101_1 := blk_frozen BK231.out 1
                have hfz101_2 := blk_frozen BK231.out 2
                have hfz101_3 := blk_frozen BK231.out 3
                have hfz101_4 := blk_frozen BK231.out 4
                have hfz101_5 := blk_frozen BK231.out 5
                go_wp2_with (first | ((with_reducible refine gate_callee (f := 15) rfl ?_); refine goesL_ (some 62) rfl rfl Try.func15 (by kernel_rfl) rfl #[.agg #[.int .i64 a1_0, .int .i64 a1_1, .string a1_2, .string a1_3, .string a1_4, .int .i64 a1_5]] rfl gAr ?_; (with_reducible refine (entry_Put.calls kj16 a1_0 a1_1 a1_2 a1_3 a1_4 a1_5 t243 t244 _ A33.out).mono ?_); rintro e w102 ⟨rfl, hb⟩; refine ⟨_, rfl, ?_⟩; have n0_ := Aside0.mk (blk_below (blk_below BK231.out bll) hb); have n1_ := Aside0.mk (blk_below (blk_below BK240.out bll) hb); have n2_ := Aside0.mk (below_step (bel) hb); clear BK231; clear BK240; clear HB; have BK231 := n0_; have BK240 := n1_; have HB := n2_; clear n0_ n1_ n2_; (try clear hb)) | ((with_reducible refine gate_callee (f := 13) rfl ?_); refine goesL_ (some 67) rfl rfl Try.func13 (by kernel_rfl) rfl #[.string t243] rfl gAr ?_; (with_reducible refine (entry_Get.calls kj16 t243 t245 t246 t247 t248 t249 t250 t251 _ A34.out).mono ?_); rintro e w103 ⟨rfl, hb⟩; refine ⟨_, rfl, ?_⟩; have n0_ := Aside0.mk (blk_below (blk_below BK231.out bll) hb); have n1_ := Aside0.mk (blk_below (blk_below BK240.out bll) hb); have n2_ := Aside0.mk (below_step (bel) hb); clear BK231; clear BK240; clear HB; have BK231 := n0_; have BK240 := n1_; have HB := n2_; clear n0_ n1_ n2_; (try clear hb)) | ((with_reducible refine gate_dst (N := 11) rfl ?_); (try (refine gate_guard (by rfl) ?_; dsimp only)); refine box_event ?hg (N := 11) ?hd (cs := #[.int .i64 0, .int .i64 0, .string (⟨#[]⟩ : ByteArray), .string (⟨#[]⟩ : ByteArray), .string (⟨#[]⟩ : ByteArray), .int .i64 0]) (t := 23) ?hr ?_; (case hd => rfl); (case hg => rfl); (case hr => first | (go_simp; done) | (go_simp; rfl)); intro gb252 hg w104 hbox hb; have n0_ := Aside0.mk (blk_below (blk_below BK231.out bll) hb); have n1_ := Aside0.mk (blk_below (blk_below BK240.out bll) hb); have n2_ := Aside0.mk (below_step (bel) hb); have n3_ := Aside0.mk (hbox); have n4_ := Aside0.mk ((by rw [hg]; exact bsz : w.heap.size ≤ gb252)); have n5_ := Aside0.mk ((by rw [hg]; exact bsz : w.heap.size ≤ gb252)); have n6_ := Aside0.mk ((by rw [hg]; exact Nat.ne_of_lt (blk_lt (blk_below BK231.out bll)) : gb231 ≠ gb252)); have n7_ := Aside0.mk ((by rw [hg]; exact Nat.ne_of_gt (blk_lt (blk_below BK231.out bll)) : gb252 ≠ gb231)); have n8_ := Aside0.mk ((by rw [hg]; exact Nat.ne_of_lt (blk_lt (blk_below BK240.out bll)) : gb240 ≠ gb252)); have n9_ := Aside0.mk ((by rw [hg]; exact Nat.ne_of_gt (blk_lt (blk_below BK240.out bll)) : gb252 ≠ gb240)); clear BK231; clear BK240; clear HB; have BK231 := n0_; have BK240 := n1_; have HB := n2_; have BK252 := n3_; have GW252 := n4_; have GE252 := n5_; have NB231_252 := n6_; have NB252_231 := n7_; have NB240_252 := n8_; have NB252_240 := n9_; clear n0_ n1_ n2_ n3_ n4_ n5_ n6_ n7_ n8_ n9_; clear hb hbox hg; have hnb105 := NB252_231.out; have hnc105 := NB231_252.out; have hnb106 := NB252_240.out; have hnc106 := NB240_252.out; have hcz107_0 := cl0 BK252.out; have hfz107_0 := blk_frozen BK252.out 0; have hcz108_1 := cl1 BK252.out; have hfz108_1 := blk_frozen BK252.out 1; have hcz109_2 := cl2 BK252.out; have hfz109_2 := blk_frozen BK252.out 2; have hcz110_3 := cl3 BK252.out; have hfz110_3 := blk_frozen BK252.out 3; have hcz111_4 := cl4 BK252.out; have hfz111_4 := blk_frozen BK252.out 4; have hcz112_5 := cl5 BK252.out; have hfz112_5 := blk_frozen BK252.out 5) | ((with_reducible refine gate_callee (f := 12) rfl ?_); refine goesL_ (some 70) rfl rfl Try.func12 (by kernel_rfl) rfl #[] rfl gAr ?_; (with_reducible refine (roadbooklaw08_awake.calls kj16  false _ A35.out).mono ?_); rintro e w113 ⟨rfl, hb⟩; refine ⟨_, rfl, ?_⟩; have n0_ := Aside0.mk (blk_below (g := gb231) blk hb); have n1_ := Aside0.mk (blk_below (g := gb240) blk hb); have n2_ := Aside0.mk (blk_below (g := gb252) (o := .cells #[.int .i64 t245, .int .i64 t246, .string t247, .string t248, .string t249, .int .i64 t250] 23 (0, 0)) (blk) hb); have n3_ := Aside0.mk (below_step (bel) hb); clear BK231; clear BK240; clear BK252; clear HB; have BK231 := n0_; have BK240 := n1_; have BK252 := n2_; have HB := n3_; clear n0_ n1_ n2_ n3_; (try clear hb)))
                go_ret
                exact ⟨rtE, bel⟩

/-- THE ONE PURE STATEMENT of roadbooklaw08_EntryBack. -/
def roadbooklaw08_EntryBack.Pure : Prop := ∀ (a0 : ByteArray) (x1 : S23), a0.size ≤ 140737488351232 → G23 x1 → ∃ k, roadbooklaw08_EntryBack.f k a0 x1.f0 x1.f1 x1.f2 x1.f3 x1.f4 x1.f5 = some true
theorem roadbooklaw08_EntryBack.walk (P : roadbooklaw08_EntryBack.Pure) (a0 : ByteArray) (x1 : S23) (w : World) (g0 : a0.size ≤ 140737488351232) (g1 : G23 x1) :
    Calls Try.prog 4 #[.string a0, .agg #[.int .i64 x1.f0, .int .i64 x1.f1, .string x1.f2, .string x1.f3, .string x1.f4, .int .i64 x1.f5]] w fun e w' => e = .returned (.bool true) ∧ Below w.heap.size w w' := by
  obtain ⟨k, h⟩ := P a0 x1 g0 g1
  refine (roadbooklaw08_EntryBack.calls k a0 x1.f0 x1.f1 x1.f2 x1.f3 x1.f4 x1.f5 true w h).mono ?_
  rintro e w' ⟨rfl, hd⟩
  exact ⟨rfl, hd⟩

/-! ### cursor_Left: function 45 -/
def cursor_Left.f (a0_0 : ByteArray) (a0_1 : Int) (a0_2 : Int) (a0_3 : Bool) : Option (Int) := if a0_3 = true then (some 0) else (some (wrap64 (a0_2 - a0_1)))
set_option maxHeartbeats 8000000 in
set_option maxRecDepth 100000 in
theorem cursor_Left.calls (a0_0 : ByteArray) (a0_1 : Int) (a0_2 : Int) (a0_3 : Bool) (r : Int) (w : World) (h : cursor_Left.f a0_0 a0_1 a0_2 a0_3 = some r) :
    Calls Try.prog 45 #[.agg #[.string a0_0, .int .i64 a0_1, .int .i64 a0_2, .bool a0_3]] w fun e w' => e = .returned (.int .i64 r) ∧ Below w.heap.size w w' := by
  have hu60 := Try.underlying60
  have HB := Aside0.mk (Below.refl w.heap.size w)
  have H : (if a0_3 = true then (some 0) else (some (wrap64 (a0_2 - a0_1)))) = some r := h
  clear h
  by_cases c2 : a0_3 = true
  · subst c2
    have H1 : (some 0) = some r := by rw [if_pos rfl] at H; exact H
    clear H
    have H := H1
    clear H1
    obtain rfl := Option.some.inj H
    go_enter Try.func45, Try.ntmps45
    go_wp2_with (first | ((with_reducible refine gate_dst (N := 1) rfl ?_); refine box_event ?hg (N := 1) ?hd (cs := #[.string a0_0, .int .i64 a0_1, .int .i64 a0_2, .bool true]) (t := 60) ?hr ?_; (case hd => rfl); (case hg => rfl); (case hr => first | (go_simp; done) | (go_simp; rfl)); intro gb254 hg w3 hbox hb; have n0_ := Aside0.mk (below_step (bel) hb); have n1_ := Aside0.mk (hbox); have n2_ := Aside0.mk ((by rw [hg]; exact bsz : w.heap.size ≤ gb254)); have n3_ := Aside0.mk ((by rw [hg]; exact bsz : w.heap.size ≤ gb254)); clear HB; have HB := n0_; have BK254 := n1_; have GW254 := n2_; have GE254 := n3_; clear n0_ n1_ n2_ n3_; clear hb hbox hg; have hcz4_3 := cl3 BK254.out; have hfz4_3 := blk_frozen BK254.out 3))
    go_ret
    exact ⟨rtE, bel⟩
  · replace c2 := Bool.eq_false_iff.mpr c2
    subst c2
    have H1 : (some (wrap64 (a0_2 - a0_1))) = some r := by rw [if_neg (show ¬ (false = true) by decide)] at H; exact H
    clear H
    have H := H1
    clear H1
    obtain rfl := Option.some.inj H
    go_enter Try.func45, Try.ntmps45
    go_wp2_with (first | ((with_reducible refine gate_dst (N := 1) rfl ?_); refine box_event ?hg (N := 1) ?hd (cs := #[.string a0_0, .int .i64 a0_1, .int .i64 a0_2, .bool false]) (t := 60) ?hr ?_; (case hd => rfl); (case hg => rfl); (case hr => first | (go_simp; done) | (go_simp; rfl)); intro gb254 hg w5 hbox hb; have n0_ := Aside0.mk (below_step (bel) hb); have n1_ := Aside0.mk (hbox); have n2_ := Aside0.mk ((by rw [hg]; exact bsz : w.heap.size ≤ gb254)); have n3_ := Aside0.mk ((by rw [hg]; exact bsz : w.heap.size ≤ gb254)); clear HB; have HB := n0_; have BK254 := n1_; have GW254 := n2_; have GE254 := n3_; clear n0_ n1_ n2_ n3_; clear hb hbox hg; have hcz6_3 := cl3 BK254.out; have hfz6_3 := blk_frozen BK254.out 3; have hcz7_2 := cl2 BK254.out; have hfz7_2 := blk_frozen BK254.out 2; have hcz8_1 := cl1 BK254.out; have hfz8_1 := blk_frozen BK254.out 1))
    go_ret
    exact ⟨rtE, bel⟩

end Go.Proofs.Ytjgnpggpgkkknaa.Pr
