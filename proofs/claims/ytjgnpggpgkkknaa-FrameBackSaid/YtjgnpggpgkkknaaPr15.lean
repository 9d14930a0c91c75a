-- Written by wip/tools/xprint.py of this repo over the kit's printer, out of the translation. Lean checks it.
import Derived.Test.YtjgnpggpgkkknaaPr0
namespace Go.Proofs.Ytjgnpggpgkkknaa.Pr
open Go.RowKit Go.Proofs.YtjgnpggpgkkknaaW.PrintWords Go.Proofs.YtjgnpggpgkkknaaW.PrintLast Go.Proofs.YtjgnpggpgkkknaaW.PrintMore
attribute [local go_sem] max2_int min2_int max_two min_two max_three min_three max_four min_four   -- for this text's walks alone
set_option linter.unusedVariables false
set_option linter.unusedSimpArgs false

/-! ### frame_Put: function 27 -/
def frame_Put.f (a0 : Int) (a1 : ByteArray) : Option (ByteArray × Bool) := if a0 < 1 then (some ((⟨#[]⟩ : ByteArray), false)) else (if a0 > 255 then (some ((⟨#[]⟩ : ByteArray), false)) else (if (a1.size : Int) > 255 then (some ((⟨#[]⟩ : ByteArray), false)) else ((some (([(a0) % 256, ((a1.size : Int)) % 256] : List Int) : List Int)).bind fun y366 => (if (strOfNums y366).size + a1.size ≤ 9223372036854775807 then (some ((strOfNums y366) ++ a1, true)) else (none)))))
set_option maxHeartbeats 8000000 in
set_option maxRecDepth 100000 in
theorem frame_Put.calls (a0 : Int) (a1 : ByteArray) (r1 : ByteArray) (r2 : Bool) (w : World) (h : frame_Put.f a0 a1 = some (r1, r2)) :
    Calls Try.prog 27 #[.int .i64 a0, .string a1] w fun e w' => e = .returned (.tuple #[.string r1, .bool r2]) ∧ Below w.heap.size w w' := by
  have HB := Aside0.mk (Below.refl w.heap.size w)
  have H : (if a0 < 1 then (some ((⟨#[]⟩ : ByteArray), false)) else (if a0 > 255 then (some ((⟨#[]⟩ : ByteArray), false)) else (if (a1.size : Int) > 255 then (some ((⟨#[]⟩ : ByteArray), false)) else ((some (([(a0) % 256, ((a1.size : Int)) % 256] : List Int) : List Int)).bind fun y366 => (if (strOfNums y366).size + a1.size ≤ 9223372036854775807 then (some ((strOfNums y366) ++ a1, true)) else (none)))))) = some (r1, r2) := h
  clear h
  by_cases c3 : a0 < 1
  · rw [if_pos c3] at H
    have c3b0 : decide (a0 < 1) = true := decide_eq_true c3
    clear c3
    simp only [Option.some.injEq, Prod.mk.injEq] at H
    obtain ⟨rfl, rfl⟩ := H
    go_enter Try.func27, Try.ntmps27
    go_wp2
    go_ret2
    exact ⟨rtE, bel⟩
  · rw [if_neg c3] at H
    have c3b0 : decide (a0 < 1) = false := decide_eq_false c3
    clear c3
    by_cases c4 : a0 > 255
    · rw [if_pos c4] at H
      have c4b0 : decide (255 < a0) = true := decide_eq_true c4
      clear c4
      simp only [Option.some.injEq, Prod.mk.injEq] at H
      obtain ⟨rfl, rfl⟩ := H
      go_enter Try.func27, Try.ntmps27
      go_wp2
      go_ret2
      exact ⟨rtE, bel⟩
    · rw [if_neg c4] at H
      have c4b0 : decide (255 < a0) = false := decide_eq_false c4
      clear c4
      by_cases c5 : (a1.size : Int) > 255
      · rw [if_pos c5] at H
        have c5b0 : decide (255 < (a1.size : Int)) = true := decide_eq_true c5
        have c5b1 : decide (255 < a1.size) = true := decide_eq_true (by omega)
        clear c5
        simp only [Option.some.injEq, Prod.mk.injEq] at H
        obtain ⟨rfl, rfl⟩ := H
        go_enter Try.func27, Try.ntmps27
        go_wp2
        go_ret2
        exact ⟨rtE, bel⟩
      · rw [if_neg c5] at H
        have c5b0 : decide (255 < (a1.size : Int)) = false := decide_eq_false c5
        have c5b1 : decide (255 < a1.size) = false := decide_eq_false (by omega)
        clear c5
        obtain ⟨y366, hy366⟩ : ∃ y_ : List Int, y_ = (([(a0) % 256, ((a1.size : Int)) % 256] : List Int)) := ⟨_, rfl⟩
        replace H : (if (strOfNums y366).size + a1.size ≤ 9223372036854775807 then (some ((strOfNums y366) ++ a1, true)) else (none)) = some (r1, r2) := by first | (rw [hy366]; with_reducible exact H) | (have H2_ := (Option.bind_some _ _).symm.trans H; rw [hy366]; with_reducible exact H2_) | (have H2_ := (Option.bind_some _ _).symm.trans H; with_reducible exact H2_) | with_reducible exact H | (rw [hy366]; exact H) | exact H
        have Ny366 := Aside0.mk hy366
        clear hy366
        by_cases c6 : (strOfNums y366).size + a1.size ≤ 9223372036854775807
        · rw [if_pos c6] at H
          have c6b0 := eq_true c6
          have c6b1 : decide ((strOfNums y366).size + a1.size ≤ 9223372036854775807) = true := decide_eq_true c6
          try have c6b2 : (9223372036854775807 < (strOfNums y366).size + a1.size) = False := eq_false (Nat.not_lt.2 c6)
          simp only [Option.some.injEq, Prod.mk.injEq] at H
          obtain ⟨rfl, rfl⟩ := H
          go_enter Try.func27, Try.ntmps27
          go_wp2_with (first | ((with_reducible refine gate_dst (N := 22) rfl ?_); (try (refine gate_guard (by rfl) ?_; dsimp only)); refine Kd.R_lit (Kd.int .u8) _ 5 ?hg (N := 22) ?hd (xs := ([(a0) % 256, ((a1.size : Int)) % 256] : List Int)) (inner := [.int .u8 ((a0) % 256), .int .u8 (((a1.size : Int)) % 256)]) (ok := fun _ => True) (okp := fun _ => True) ?hr ?hp (fun _ hk => hk) trivial (Below.refl _ _) (Nat.le_refl _) (by simp) ?_; (case hd => rfl); (case hg => rfl); (case hr => first | (go_simp; done) | (go_simp; rfl)); (case hp => exact (Reps.one (show Kd.M (Kd.int .u8) _ _ _ ((a0) % 256) [.int .u8 ((a0) % 256)] from rfl) (Reps.one (show Kd.M (Kd.int .u8) _ _ _ (((a1.size : Int)) % 256) [.int .u8 (((a1.size : Int)) % 256)] from rfl) (Reps.none _ _)))); intro v367 w7 ho8 hb hg_ hnew_; clear hg_ hnew_; (first | rw [← Ny366.out] at ho8 | (simp only [Int.reduceToNat] at ho8; rw [← Ny366.out] at ho8)); have n0_ := Aside0.mk (Kd.R_lower ho8 bsz); have n1_ := Aside0.mk (below_step (bel) hb); clear HB; have HO368 := n0_; have HB := n1_; clear n0_ n1_; clear hb ho8; have hcv9 := own_string (P := Try.prog) Try.underlying55 Try.underlying5 Try.underlying9 (Kd.own_of_R HO368.out)))
          go_ret2
          exact ⟨rtE, bel⟩
        · rw [if_neg c6] at H
          exact absurd H (by simp)

/-! ### roadbookref18_Put: function 28 -/
def roadbookref18_Put.f (a0 : Int) (a1 : ByteArray) : Option (ByteArray × Bool) := if a0 < 1 then (some ((⟨#[]⟩ : ByteArray), false)) else (if a0 > 255 then (some ((⟨#[]⟩ : ByteArray), false)) else (if (a1.size : Int) > 255 then (some ((⟨#[]⟩ : ByteArray), false)) else ((some (([(a0) % 256, ((a1.size : Int)) % 256] : List Int) : List Int)).bind fun y369 => (if (strOfNums y369).size + a1.size ≤ 9223372036854775807 then (some ((strOfNums y369) ++ a1, true)) else (none)))))
set_option maxHeartbeats 8000000 in
set_option maxRecDepth 100000 in
theorem roadbookref18_Put.calls (a0 : Int) (a1 : ByteArray) (r1 : ByteArray) (r2 : Bool) (w : World) (h : roadbookref18_Put.f a0 a1 = some (r1, r2)) :
    Calls Try.prog 28 #[.int .i64 a0, .string a1] w fun e w' => e = .returned (.tuple #[.string r1, .bool r2]) ∧ Below w.heap.size w w' := by
  have HB := Aside0.mk (Below.refl w.heap.size w)
  have H : (if a0 < 1 then (some ((⟨#[]⟩ : ByteArray), false)) else (if a0 > 255 then (some ((⟨#[]⟩ : ByteArray), false)) else (if (a1.size : Int) > 255 then (some ((⟨#[]⟩ : ByteArray), false)) else ((some (([(a0) % 256, ((a1.size : Int)) % 256] : List Int) : List Int)).bind fun y369 => (if (strOfNums y369).size + a1.size ≤ 9223372036854775807 then (some ((strOfNums y369) ++ a1, true)) else (none)))))) = some (r1, r2) := h
  clear h
  by_cases c3 : a0 < 1
  · rw [if_pos c3] at H
    have c3b0 : decide (a0 < 1) = true := decide_eq_true c3
    clear c3
    simp only [Option.some.injEq, Prod.mk.injEq] at H
    obtain ⟨rfl, rfl⟩ := H
    go_enter Try.func28, Try.ntmps28
    go_wp2
    go_ret2
    exact ⟨rtE, bel⟩
  · rw [if_neg c3] at H
    have c3b0 : decide (a0 < 1) = false := decide_eq_false c3
    clear c3
    by_cases c4 : a0 > 255
    · rw [if_pos c4] at H
      have c4b0 : decide (255 < a0) = true := decide_eq_true c4
      clear c4
      simp only [Option.some.injEq, Prod.mk.injEq] at H
      obtain ⟨rfl, rfl⟩ := H
      go_enter Try.func28, Try.ntmps28
      go_wp2
      go_ret2
      exact ⟨rtE, bel⟩
    · rw [if_neg c4] at H
      have c4b0 : decide (255 < a0) = false := decide_eq_false c4
      clear c4
      by_cases c5 : (a1.size : Int) > 255
      · rw [if_pos c5] at H
        have c5b0 : decide (255 < (a1.size : Int)) = true := decide_eq_true c5
        have c5b1 : decide (255 < a1.size) = true := decide_eq_true (by omega)
        clear c5
        simp only [Option.some.injEq, Prod.mk.injEq] at H
        obtain ⟨rfl, rfl⟩ := H
        go_enter Try.func28, Try.ntmps28
        go_wp2
        go_ret2
        exact ⟨rtE, bel⟩
      · rw [if_neg c5] at H
        have c5b0 : decide (255 < (a1.size : Int)) = false := decide_eq_false c5
        have c5b1 : decide (255 < a1.size) = false := decide_eq_false (by omega)
        clear c5
        obtain ⟨y369, hy369⟩ : ∃ y_ : List Int, y_ = (([(a0) % 256, ((a1.size : Int)) % 256] : List Int)) := ⟨_, rfl⟩
        replace H : (if (strOfNums y369).size + a1.size ≤ 9223372036854775807 then (some ((strOfNums y369) ++ a1, true)) else (none)) = some (r1, r2) := by first | (rw [hy369]; with_reducible exact H) | (have H2_ := (Option.bind_some _ _).symm.trans H; rw [hy369]; with_reducible exact H2_) | (have H2_ := (Option.bind_some _ _).symm.trans H; with_reducible exact H2_) | with_reducible exact H | (rw [hy369]; exact H) | exact H
        have Ny369 := Aside0.mk hy369
        clear hy369
        by_cases c6 : (strOfNums y369).size + a1.size ≤ 9223372036854775807
        · rw [if_pos c6] at H
          have c6b0 := eq_true c6
          have c6b1 : decide ((strOfNums y369).size + a1.size ≤ 9223372036854775807) = true := decide_eq_true c6
          try have c6b2 : (9223372036854775807 < (strOfNums y369).size + a1.size) = False := eq_false (Nat.not_lt.2 c6)
          simp only [Option.some.injEq, Prod.mk.injEq] at H
          obtain ⟨rfl, rfl⟩ := H
          go_enter Try.func28, Try.ntmps28
          go_wp2_with (first | ((with_reducible refine gate_dst (N := 22) rfl ?_); (try (refine gate_guard (by rfl) ?_; dsimp only)); refine Kd.R_lit (Kd.int .u8) _ 5 ?hg (N := 22) ?hd (xs := ([(a0) % 256, ((a1.size : Int)) % 256] : List Int)) (inner := [.int .u8 ((a0) % 256), .int .u8 (((a1.size : Int)) % 256)]) (ok := fun _ => True) (okp := fun _ => True) ?hr ?hp (fun _ hk => hk) trivial (Below.refl _ _) (Nat.le_refl _) (by simp) ?_; (case hd => rfl); (case hg => rfl); (case hr => first | (go_simp; done) | (go_simp; rfl)); (case hp => exact (Reps.one (show Kd.M (Kd.int .u8) _ _ _ ((a0) % 256) [.int .u8 ((a0) % 256)] from rfl) (Reps.one (show Kd.M (Kd.int .u8) _ _ _ (((a1.size : Int)) % 256) [.int .u8 (((a1.size : Int)) % 256)] from rfl) (Reps.none _ _)))); intro v370 w7 ho8 hb hg_ hnew_; clear hg_ hnew_; (first | rw [← Ny369.out] at ho8 | (simp only [Int.reduceToNat] at ho8; rw [← Ny369.out] at ho8)); have n0_ := Aside0.mk (Kd.R_lower ho8 bsz); have n1_ := Aside0.mk (below_step (bel) hb); clear HB; have HO371 := n0_; have HB := n1_; clear n0_ n1_; clear hb ho8; have hcv9 := own_string (P := Try.prog) Try.underlying55 Try.underlying5 Try.underlying9 (Kd.own_of_R HO371.out)))
          go_ret2
          exact ⟨rtE, bel⟩
        · rw [if_neg c6] at H
          exact absurd H (by simp)

end Go.Proofs.Ytjgnpggpgkkknaa.Pr
