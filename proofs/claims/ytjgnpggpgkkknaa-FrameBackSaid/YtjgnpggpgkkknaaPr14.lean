-- Written by wip/tools/xprint.py of this repo over the kit's printer, out of the translation. Lean checks it.
import Derived.Test.YtjgnpggpgkkknaaPr0
import Derived.Test.YtjgnpggpgkkknaaPr10
import Derived.Test.YtjgnpggpgkkknaaPr12
import Derived.Test.YtjgnpggpgkkknaaPr13
namespace Go.Proofs.Ytjgnpggpgkkknaa.Pr
open Go.RowKit Go.Proofs.YtjgnpggpgkkknaaW.PrintWords Go.Proofs.YtjgnpggpgkkknaaW.PrintLast Go.Proofs.YtjgnpggpgkkknaaW.PrintMore
attribute [local go_sem] max2_int min2_int max_two min_two max_three min_three max_four min_four   -- for this text's walks alone
set_option linter.unusedVariables false
set_option linter.unusedSimpArgs false

/-! ### roadbookref02_Of: function 48 -/
def roadbookref02_Of.f (k : Nat) (a0 : Int) (a1 : Int) : Option (ByteArray) := (roadbookref02_Put.f k a0 a1).bind fun bt339 => (some bt339.1)
theorem roadbookref02_Of.mono : ∀ a0 a1 k, LeO (roadbookref02_Of.f k a0 a1) (roadbookref02_Of.f (k + 1) a0 a1) := by
  intro a0 a1 k
  unfold roadbookref02_Of.f
  repeat' first
      | (with_reducible exact roadbookref02_Put.mono _ _ _)
      | (with_reducible exact LeO.refl _)
      | (with_reducible exact LeO.none _)
      | (with_reducible refine LeO.ite ?_ ?_)
      | (with_reducible refine LeO.bind ?_ (fun _ => ?_))
      | exact roadbookref02_Put.mono _ _ _
      | exact LeO.none _
      | refine LeO.ite ?_ ?_
      | refine LeO.bind ?_ (fun _ => ?_)
set_option maxHeartbeats 8000000 in
set_option maxRecDepth 100000 in
theorem roadbookref02_Of.calls (k : Nat) (a0 : Int) (a1 : Int) (r : ByteArray) (w : World) (h : roadbookref02_Of.f k a0 a1 = some r) :
    Calls Try.prog 48 #[.int .i64 a0, .int .i64 a1] w fun e w' => e = .returned (.string r) ∧ Below w.heap.size w w' := by
  have HB := Aside0.mk (Below.refl w.heap.size w)
  have H : ((roadbookref02_Put.f k a0 a1).bind fun bt339 => (some bt339.1)) = some r := h
  clear h
  replace H := Option.bind_eq_some_iff.mp H
  obtain ⟨⟨t339, t340⟩, A30, H⟩ := H
  replace H : (some t339) = some r := H
  have A3 := Aside0.mk A30
  clear A30
  obtain rfl := Option.some.inj H
  go_enter Try.func48, Try.ntmps48
  go_wp2_with (first | ((with_reducible refine gate_callee (f := 44) rfl ?_); refine goesL_ (some 10) rfl rfl Try.func44 (by kernel_rfl) rfl #[.int .i64 a0, .int .i64 a1] rfl gAr ?_; (with_reducible refine (roadbookref02_Put.calls k a0 a1 t339 t340 _ A3.out).mono ?_); rintro e w4 ⟨rfl, hb⟩; refine ⟨_, rfl, ?_⟩; have n0_ := Aside0.mk (below_step (bel) hb); clear HB; have HB := n0_; clear n0_; (try clear hb)))
  go_ret
  exact ⟨rtE, bel⟩

/-! ### roadbookref18_Wrap: function 23 -/
def roadbookref18_Wrap.f (k : Nat) (a0 : ByteArray) : Option (ByteArray × Bool) := if (a0.size : Int) > 65531 then (some ((⟨#[]⟩ : ByteArray), false)) else ((roadbookref02_Of.f k (a0.size : Int) 2).bind fun t341 => (if 2 + t341.size ≤ 9223372036854775807 then (if ((⟨#[42, 2]⟩ : ByteArray) ++ t341).size + a0.size ≤ 9223372036854775807 then (some (((⟨#[42, 2]⟩ : ByteArray) ++ t341) ++ a0, true)) else (none)) else (none)))
theorem roadbookref18_Wrap.mono : ∀ a0 k, LeO (roadbookref18_Wrap.f k a0) (roadbookref18_Wrap.f (k + 1) a0) := by
  intro a0 k
  unfold roadbookref18_Wrap.f
  repeat' first
      | (with_reducible exact roadbookref02_Of.mono _ _ _)
      | (with_reducible exact LeO.refl _)
      | (with_reducible exact LeO.none _)
      | (with_reducible refine LeO.ite ?_ ?_)
      | (with_reducible refine LeO.bind ?_ (fun _ => ?_))
      | exact roadbookref02_Of.mono _ _ _
      | exact LeO.none _
      | refine LeO.ite ?_ ?_
      | refine LeO.bind ?_ (fun _ => ?_)
set_option maxHeartbeats 8000000 in
set_option maxRecDepth 100000 in
theorem roadbookref18_Wrap.calls (k : Nat) (a0 : ByteArray) (r1 : ByteArray) (r2 : Bool) (w : World) (h : roadbookref18_Wrap.f k a0 = some (r1, r2)) :
    Calls Try.prog 23 #[.string a0] w fun e w' => e = .returned (.tuple #[.string r1, .bool r2]) ∧ Below w.heap.size w w' := by
  have HB := Aside0.mk (Below.refl w.heap.size w)
  have H : (if (a0.size : Int) > 65531 then (some ((⟨#[]⟩ : ByteArray), false)) else ((roadbookref02_Of.f k (a0.size : Int) 2).bind fun t341 => (if 2 + t341.size ≤ 9223372036854775807 then (if ((⟨#[42, 2]⟩ : ByteArray) ++ t341).size + a0.size ≤ 9223372036854775807 then (some (((⟨#[42, 2]⟩ : ByteArray) ++ t341) ++ a0, true)) else (none)) else (none)))) = some (r1, r2) := h
  clear h
  by_cases c2 : (a0.size : Int) > 65531
  · rw [if_pos c2] at H
    have c2b0 : decide (65531 < (a0.size : Int)) = true := decide_eq_true c2
    have c2b1 : decide (65531 < a0.size) = true := decide_eq_true (by omega)
    clear c2
    simp only [Option.some.injEq, Prod.mk.injEq] at H
    obtain ⟨rfl, rfl⟩ := H
    go_enter Try.func23, Try.ntmps23
    go_wp2
    go_ret2
    exact ⟨rtE, bel⟩
  · rw [if_neg c2] at H
    have c2b0 : decide (65531 < (a0.size : Int)) = false := decide_eq_false c2
    have c2b1 : decide (65531 < a0.size) = false := decide_eq_false (by omega)
    clear c2
    replace H := Option.bind_eq_some_iff.mp H
    obtain ⟨t341, A30, H⟩ := H
    replace H : (if 2 + t341.size ≤ 9223372036854775807 then (if ((⟨#[42, 2]⟩ : ByteArray) ++ t341).size + a0.size ≤ 9223372036854775807 then (some (((⟨#[42, 2]⟩ : ByteArray) ++ t341) ++ a0, true)) else (none)) else (none)) = some (r1, r2) := H
    have A3 := Aside0.mk A30
    clear A30
    by_cases c4 : 2 + t341.size ≤ 9223372036854775807
    · rw [if_pos c4] at H
      have c4b0 := eq_true c4
      have c4b1 : decide (2 + t341.size ≤ 9223372036854775807) = true := decide_eq_true c4
      try have c4b2 : (9223372036854775807 < 2 + t341.size) = False := eq_false (Nat.not_lt.2 c4)
      by_cases c5 : ((⟨#[42, 2]⟩ : ByteArray) ++ t341).size + a0.size ≤ 9223372036854775807
      · rw [if_pos c5] at H
        have c5b0 := eq_true c5
        have c5b1 : decide (((⟨#[42, 2]⟩ : ByteArray) ++ t341).size + a0.size ≤ 9223372036854775807) = true := decide_eq_true c5
        try have c5b2 : (9223372036854775807 < ((⟨#[42, 2]⟩ : ByteArray) ++ t341).size + a0.size) = False := eq_false (Nat.not_lt.2 c5)
        simp only [Option.some.injEq, Prod.mk.injEq] at H
        obtain ⟨rfl, rfl⟩ := H
        go_enter Try.func23, Try.ntmps23
        go_wp2_with (first | ((with_reducible refine gate_callee (f := 48) rfl ?_); refine goesL_ (some 9) rfl rfl Try.func48 (by kernel_rfl) rfl #[.int .i64 (a0.size : Int), .int .i64 2] rfl gAr ?_; (with_reducible refine (roadbookref02_Of.calls k (a0.size : Int) 2 t341 _ A3.out).mono ?_); rintro e w6 ⟨rfl, hb⟩; refine ⟨_, rfl, ?_⟩; have n0_ := Aside0.mk (below_step (bel) hb); clear HB; have HB := n0_; clear n0_; (try clear hb)))
        go_ret2
        exact ⟨rtE, bel⟩
      · rw [if_neg c5] at H
        exact absurd H (by simp)
    · rw [if_neg c4] at H
      exact absurd H (by simp)

/-! ### frame_Trailer: function 24 -/
def frame_Trailer.f (a0 : ByteArray) : Option (ByteArray) := (frame_size.f a0).bind fun t342 => (if 0 ≤ (wrap64 (4 + t342)) then (if (wrap64 (4 + t342)) ≤ (a0.size : Int) then (some (a0.extract ((wrap64 (4 + t342)) : Int).toNat a0.size)) else (none)) else (none))
set_option maxHeartbeats 8000000 in
set_option maxRecDepth 100000 in
theorem frame_Trailer.calls (a0 : ByteArray) (r : ByteArray) (w : World) (h : frame_Trailer.f a0 = some r) :
    Calls Try.prog 24 #[.string a0] w fun e w' => e = .returned (.string r) ∧ Drawn0 w w' := by
  have H : ((frame_size.f a0).bind fun t342 => (if 0 ≤ (wrap64 (4 + t342)) then (if (wrap64 (4 + t342)) ≤ (a0.size : Int) then (some (a0.extract ((wrap64 (4 + t342)) : Int).toNat a0.size)) else (none)) else (none))) = some r := h
  clear h
  replace H := Option.bind_eq_some_iff.mp H
  obtain ⟨t342, A20, H⟩ := H
  replace H : (if 0 ≤ (wrap64 (4 + t342)) then (if (wrap64 (4 + t342)) ≤ (a0.size : Int) then (some (a0.extract ((wrap64 (4 + t342)) : Int).toNat a0.size)) else (none)) else (none)) = some r := H
  have A2 := Aside0.mk A20
  clear A20
  obtain ⟨ji3, hji3⟩ : ∃ j_ : Int, (wrap64 (4 + t342)) = j_ := ⟨_, rfl⟩
  replace H : (if 0 ≤ (ji3) then (if (ji3) ≤ (a0.size : Int) then (some (a0.extract ((ji3) : Int).toNat a0.size)) else (none)) else (none)) = some r := by first | (rw [hji3] at H; exact H) | (simp only [hji3] at H ⊢; exact H)
  (try rw [hji3] at A2)
  have hji3w : (IntKind.i64.wrap (4 + t342)) = ji3 := (i64_w _).trans hji3
  by_cases c4 : 0 ≤ (ji3)
  · rw [if_pos c4] at H
    have c4b0 := eq_true c4
    have c4b1 : decide (0 ≤ (ji3)) = true := decide_eq_true c4
    clear c4
    by_cases c5 : (ji3) ≤ (a0.size : Int)
    · rw [if_pos c5] at H
      have c5b0 := eq_true c5
      have c5b1 : decide ((ji3) ≤ (a0.size : Int)) = true := decide_eq_true c5
      clear c5
      obtain rfl := Option.some.inj H
      go_enter Try.func24, Try.ntmps24
      go_wp2_with (first | ((with_reducible refine gate_callee (f := 47) rfl ?_); refine goesL_ (some 5) rfl rfl Try.func47 (by kernel_rfl) rfl #[.string a0] rfl gAr ?_; (with_reducible refine (frame_size.calls a0 t342 _ A2.out).mono ?_); rintro e w' ⟨rfl, ⟨nd, rfl⟩⟩; refine ⟨_, rfl, ?_⟩))
      go_ret
      exact ⟨by first | rfl | (simp; done) | (simp only [← hji3] <;> (first | rfl | simp)) | (simp [*]; done), by repeat (first | exact Drawn0.refl _ | apply Drawn0.step)⟩
    · rw [if_neg c5] at H
      exact absurd H (by simp)
  · rw [if_neg c4] at H
    exact absurd H (by simp)

/-! ### roadbookref18_Trailer: function 25 -/
def roadbookref18_Trailer.f (a0 : ByteArray) : Option (ByteArray) := (roadbookref18_Body.f a0).bind fun bt343 => (if 0 ≤ (wrap64 (4 + (bt343.1.size : Int))) then (if (wrap64 (4 + (bt343.1.size : Int))) ≤ (a0.size : Int) then (some (a0.extract ((wrap64 (4 + (bt343.1.size : Int))) : Int).toNat a0.size)) else (none)) else (none))
set_option maxHeartbeats 8000000 in
set_option maxRecDepth 100000 in
theorem roadbookref18_Trailer.calls (a0 : ByteArray) (r : ByteArray) (w : World) (h : roadbookref18_Trailer.f a0 = some r) :
    Calls Try.prog 25 #[.string a0] w fun e w' => e = .returned (.string r) ∧ Drawn0 w w' := by
  have H : ((roadbookref18_Body.f a0).bind fun bt343 => (if 0 ≤ (wrap64 (4 + (bt343.1.size : Int))) then (if (wrap64 (4 + (bt343.1.size : Int))) ≤ (a0.size : Int) then (some (a0.extract ((wrap64 (4 + (bt343.1.size : Int))) : Int).toNat a0.size)) else (none)) else (none))) = some r := h
  clear h
  replace H := Option.bind_eq_some_iff.mp H
  obtain ⟨⟨t343, t344, t345⟩, A20, H⟩ := H
  replace H : (if 0 ≤ (wrap64 (4 + (t343.size : Int))) then (if (wrap64 (4 + (t343.size : Int))) ≤ (a0.size : Int) then (some (a0.extract ((wrap64 (4 + (t343.size : Int))) : Int).toNat a0.size)) else (none)) else (none)) = some r := H
  have A2 := Aside0.mk A20
  clear A20
  obtain ⟨ji3, hji3⟩ : ∃ j_ : Int, (wrap64 (4 + (t343.size : Int))) = j_ := ⟨_, rfl⟩
  replace H : (if 0 ≤ (ji3) then (if (ji3) ≤ (a0.size : Int) then (some (a0.extract ((ji3) : Int).toNat a0.size)) else (none)) else (none)) = some r := by first | (rw [hji3] at H; exact H) | (simp only [hji3] at H ⊢; exact H)
  (try rw [hji3] at A2)
  have hji3w : (IntKind.i64.wrap (4 + (t343.size : Int))) = ji3 := (i64_w _).trans hji3
  by_cases c4 : 0 ≤ (ji3)
  · rw [if_pos c4] at H
    have c4b0 := eq_true c4
    have c4b1 : decide (0 ≤ (ji3)) = true := decide_eq_true c4
    clear c4
    by_cases c5 : (ji3) ≤ (a0.size : Int)
    · rw [if_pos c5] at H
      have c5b0 := eq_true c5
      have c5b1 : decide ((ji3) ≤ (a0.size : Int)) = true := decide_eq_true c5
      clear c5
      obtain rfl := Option.some.inj H
      go_enter Try.func25, Try.ntmps25
      go_wp2_with (first | ((with_reducible refine gate_callee (f := 21) rfl ?_); refine goesL_ (some 8) rfl rfl Try.func21 (by kernel_rfl) rfl #[.string a0] rfl gAr ?_; (with_reducible refine (roadbookref18_Body.calls a0 t343 t344 t345 _ A2.out).mono ?_); rintro e w' ⟨rfl, ⟨nd, rfl⟩⟩; refine ⟨_, rfl, ?_⟩))
      go_ret
      exact ⟨by first | rfl | (simp; done) | (simp only [← hji3] <;> (first | rfl | simp)) | (simp [*]; done), by repeat (first | exact Drawn0.refl _ | apply Drawn0.step)⟩
    · rw [if_neg c5] at H
      exact absurd H (by simp)
  · rw [if_neg c4] at H
    exact absurd H (by simp)

/-! ### roadbookref18_Split: function 26 -/
def roadbookref18_Split.l0 : Nat → ByteArray → Int → List (S47) → Int → Option ((List (S47)) × Int × Int)
  | 0, _, _, _, _ => none
  | k + 1, x0, x1, x7, x8 => if x8 < (x0.size : Int) then (if 0 ≤ x8 then (if (bt x0 x8) = 0 then (if x7.length < 4398046511104 then (roadbookref18_Split.l0 k x0 x1 (x7 ++ [(⟨0, wrap64 (x1 + x8), (⟨#[]⟩ : ByteArray)⟩ : S47)]) (wrap64 (x8 + 1))) else (none)) else (if (wrap64 ((x0.size : Int) - x8)) < 2 then (some (([] : List (S47)), wrap64 (x1 + x8), 2)) else (if 0 ≤ (wrap64 (x8 + 1)) then (if (wrap64 (x8 + 1)) < (x0.size : Int) then (if (wrap64 ((wrap64 ((x0.size : Int) - x8)) - 2)) < (wrap64 (bt x0 (wrap64 (x8 + 1)))) then (some (([] : List (S47)), wrap64 (x1 + x8), 2)) else (if 0 ≤ (wrap64 (x8 + 2)) then (if (wrap64 (x8 + 2)) ≤ (wrap64 ((wrap64 (x8 + 2)) + (wrap64 (bt x0 (wrap64 (x8 + 1)))))) then (if (wrap64 ((wrap64 (x8 + 2)) + (wrap64 (bt x0 (wrap64 (x8 + 1)))))) ≤ (x0.size : Int) then (if x7.length < 4398046511104 then (roadbookref18_Split.l0 k x0 x1 (x7 ++ [(⟨wrap64 (bt x0 x8), wrap64 (x1 + x8), x0.extract ((wrap64 (x8 + 2)) : Int).toNat ((wrap64 ((wrap64 (x8 + 2)) + (wrap64 (bt x0 (wrap64 (x8 + 1)))))) : Int).toNat⟩ : S47)]) (wrap64 ((wrap64 (x8 + 2)) + (wrap64 (bt x0 (wrap64 (x8 + 1))))))) else (none)) else (none)) else (none)) else (none))) else (none)) else (none)))) else (none)) else (some (x7, 0, 0))
def roadbookref18_Split.f (k : Nat) (a0 : ByteArray) (a1 : Int) : Option ((List (S47)) × Int × Int) := roadbookref18_Split.l0 k a0 a1 ([] : List (S47)) 0
theorem roadbookref18_Split.mono_l : ∀ k, (∀ y0 y1 y2 y3, LeO (roadbookref18_Split.l0 k y0 y1 y2 y3) (roadbookref18_Split.l0 (k + 1) y0 y1 y2 y3))
  | 0 => fun _ _ _ _ r h => by simp [roadbookref18_Split.l0] at h
  | k + 1 => by
    have ih0 := roadbookref18_Split.mono_l k
    · intro y0 y1 y2 y3
      unfold roadbookref18_Split.l0
      repeat' first
      | (with_reducible exact ih0 _ _ _ _)
      | (with_reducible exact LeO.refl _)
      | (with_reducible exact LeO.none _)
      | (with_reducible refine LeO.ite ?_ ?_)
      | (with_reducible refine LeO.bind ?_ (fun _ => ?_))
      | exact ih0 _ _ _ _
      | exact LeO.none _
      | refine LeO.ite ?_ ?_
      | refine LeO.bind ?_ (fun _ => ?_)
theorem roadbookref18_Split.mono : ∀ a0 a1 k, LeO (roadbookref18_Split.f k a0 a1) (roadbookref18_Split.f (k + 1) a0 a1) := by
  intro a0 a1 k
  have ih0 := roadbookref18_Split.mono_l k
  unfold roadbookref18_Split.f
  repeat' first
      | (with_reducible exact ih0 _ _ _ _)
      | (with_reducible exact LeO.refl _)
      | (with_reducible exact LeO.none _)
      | (with_reducible refine LeO.ite ?_ ?_)
      | (with_reducible refine LeO.bind ?_ (fun _ => ?_))
      | exact ih0 _ _ _ _
      | exact LeO.none _
      | refine LeO.ite ?_ ?_
      | refine LeO.bind ?_ (fun _ => ?_)
def roadbookref18_Split.T10 : Bool × List (List Nat × List Nat) := (true, [([], []), ([], []), ([], []), ([1, 2], [1, 2]), ([3], [3]), ([], []), ([], []), ([5, 6], [5, 6]), ([], []), ([], []), ([9], [9]), ([], []), ([11], [11]), ([], []), ([12, 13], [12, 13]), ([8, 10, 14], [8, 10, 14]), ([4, 7, 15], [4, 7, 15]), ([16], [16]), ([0, 17], [0, 17]), ([18, 18, 0, 1, 2, 3, 4, 5, 6, 7, 8, 9, 10, 11, 12, 13, 14, 15, 16, 17, 18], [0, 18])])
def roadbookref18_Split.B10 : List Nat := [0, 0, 0, 6, 14, 0, 0, 96, 0, 0, 512, 0, 2048, 0, 14336, 32512, 65534, 131070, 262143, 524287]
theorem roadbookref18_Split.tab10 : rtab .any (opsOf Try.f26 10) = roadbookref18_Split.T10 := by kernel_rfl
theorem roadbookref18_Split.bits10 : waitsOk roadbookref18_Split.T10.2 roadbookref18_Split.B10 = true := by kernel_rfl
set_option maxHeartbeats 8000000 in
set_option maxRecDepth 100000 in
theorem roadbookref18_Split.calls (k : Nat) (a0 : ByteArray) (a1 : Int) (r1 : List (S47)) (r2 : Int) (r3 : Int) (w : World) (h : roadbookref18_Split.f k a0 a1 = some (r1, r2, r3)) :
    Calls Try.prog 26 #[.string a0, .int .i64 a1] w fun e w' => ∃ v0_ : Value, e = .returned (.tuple #[v0_, .int .i64 r2, .int .i64 r3]) ∧ Kd.R k47 47 w' w.heap.size (fun _ => True) v0_ r1 ∧ Below w.heap.size w w' := by
  have hu47 := Try.underlying47
  have HB := Aside0.mk (Below.refl w.heap.size w)
  have H : (roadbookref18_Split.l0 k a0 a1 ([] : List (S47)) 0) = some (r1, r2, r3) := h
  clear h
  have H' := Aside0.mk H
  clear H
  go_enter Try.func26, Try.ntmps26
  go_wp2
  go_loopg [7, 8] k (fun kq v7 v8 w' => ∃ (x7_1 : List (S47)) (x8_1 : Int), v8 = .int .i64 x8_1 ∧ Aside0 (roadbookref18_Split.l0 kq a0 a1 x7_1 x8_1 = some (r1, r2, r3)) ∧ Aside0 (kq ≤ k) ∧ Aside0 (Kd.R k47 47 w' w.heap.size (fun _ => True) v7 x7_1) ∧ Aside0 (Below w.heap.size w w'))
  case atStart => exact ⟨(([] : List (S47))), (0), rfS, H', ⟨Nat.le_refl _⟩, ⟨by first | exact Kd.R_nil _ _ _ _ _ | exact Kd.N_nil _ _ _ _ _ | exact Kd.V_nil _ _ _ _ _ | exact Kd.Q_nil _ _ _ _ _ | exact Kd.S_nil _ _ _ _ _⟩, ⟨bel⟩⟩
  case round =>
    clear H'
    try clear c2
    try clear p2
    obtain ⟨x7_1, x8_1, rfl, HA, HK1, HO_7, HB⟩ := hrel
    cases gk with
    | zero => exact absurd HA.out (by simp [roadbookref18_Split.l0])
    | succ k1 =>
      have H := HA.out
      clear HA
      simp only [roadbookref18_Split.l0] at H
      by_cases c3 : x8_1 < (a0.size : Int)
      · rw [if_pos c3] at H
        have c3b0 : decide (x8_1 < (a0.size : Int)) = true := decide_eq_true c3
        clear c3
        by_cases c4 : 0 ≤ x8_1
        · rw [if_pos c4] at H
          have c4b0 : decide (0 ≤ x8_1) = true := decide_eq_true c4
          clear c4
          by_cases c6 : (bt a0 x8_1) = 0
          · rw [if_pos c6] at H
            have c6b0 : ((bt a0 x8_1) == 0) = true := beq_iff_eq.mpr c6
            have c6b1 : ((bt a0 x8_1) != 0) = false := bne_eq_false_iff_eq.mpr c6
            clear c6
            by_cases c7 : x7_1.length < 4398046511104
            · rw [if_pos c7] at H
              have LMc7 := Aside0.mk c7
              clear c7
              obtain ⟨y360, hy360⟩ : ∃ y_ : List (S47), y_ = (x7_1 ++ [(⟨0, wrap64 (a1 + x8_1), (⟨#[]⟩ : ByteArray)⟩ : S47)]) := ⟨_, rfl⟩
              replace H : (roadbookref18_Split.l0 k1 a0 a1 y360 (wrap64 (x8_1 + 1))) = some (r1, r2, r3) := by first | (rw [hy360]; with_reducible exact H) | (have H2_ := (Option.bind_some _ _).symm.trans H; rw [hy360]; with_reducible exact H2_) | (have H2_ := (Option.bind_some _ _).symm.trans H; with_reducible exact H2_) | with_reducible exact H | (rw [hy360]; exact H) | exact H
              have Ny360 := Aside0.mk hy360
              clear hy360
              have H' := Aside0.mk H
              clear H
              have p5 : 0 ≤ (x8_1 : Int) := odt
              have q5 : x8_1 < (a0.size : Int) := odt
              have hx5 := bt_at a0 x8_1
              replace p5 := eq_true p5
              replace q5 := eq_true q5
              go_wp2_with (first | ((with_reducible refine gate_builtin (b := .append) (xs := #[.tmp 18, .tmp 23]) rfl ?_); (try (refine gate_guard (by rfl) ?_; dsimp only)); at_builtin; refine Kd.R_append k47 (w0 := w) w.heap.size rfl (.tmp 18) (.tmp 23) 30 47 (.agg #[(.int .i64 0), (.int .i64 0), (.string ⟨#[]⟩)]) 32 rfl Try.underlying30 info47 rfl (by decide) (by omega) u7 x7_1 (⟨0, wrap64 (a1 + x8_1), (⟨#[]⟩ : ByteArray)⟩ : S47) [.int .i64 0, .int .i64 (wrap64 (a1 + x8_1)), .string (⟨#[]⟩ : ByteArray)] (fun _ => True) (fun _ => False) rfl rfl ?aP (fun _ hk => hk.elim) ?aF ?aO ?aB ?aS ?aL ?_; (case aP => exact k47_mkM _ _ _ (⟨0, wrap64 (a1 + x8_1), (⟨#[]⟩ : ByteArray)⟩ : S47)); (case aB => exact (bel)); (case aF => exact (fun _ _ => trivial)); (case aO => exact (Kd.R_below HO_7.out bll)); (case aS => exact bsz); (case aL => have := LMc7.out; omega); intro v361 w8 ho hb hg hat; rw [← Ny360.out] at ho; have n0_ := Aside0.mk (hb); have n1_ := Aside0.mk (ho); clear HB; clear HO_7; have HB := n0_; have HO362 := n1_; clear n0_ n1_; clear ho hb hg hat))
              go_roundg k1
              case measure => have := HK1.out; omega
              case rel => exact ⟨(y360), (wrap64 (x8_1 + 1)), rfS, H', ⟨by have := HK1.out; omega⟩, ⟨Kd.R_below HO362.out bll⟩, ⟨bel⟩⟩
            · rw [if_neg c7] at H
              exact absurd H (by simp)
          · rw [if_neg c6] at H
            have c6b0 : ((bt a0 x8_1) == 0) = false := beq_eq_false_iff_ne.mpr c6
            have c6b1 : ((bt a0 x8_1) != 0) = true := bne_iff_ne.mpr c6
            by_cases c9 : (wrap64 ((a0.size : Int) - x8_1)) < 2
            · rw [if_pos c9] at H
              have c9b0 : decide ((wrap64 ((a0.size : Int) - x8_1)) < 2) = true := decide_eq_true c9
              clear c9
              simp only [Option.some.injEq, Prod.mk.injEq] at H
              obtain ⟨rfl, rfl, rfl⟩ := H
              have p5 : 0 ≤ (x8_1 : Int) := odt
              have q5 : x8_1 < (a0.size : Int) := odt
              have hx5 := bt_at a0 x8_1
              replace p5 := eq_true p5
              replace q5 := eq_true q5
              go_wp2
              go_ret3
              exact ⟨_, rtE, by first | exact Kd.R_nil _ _ _ _ _ | exact Kd.N_nil _ _ _ _ _ | exact Kd.V_nil _ _ _ _ _ | exact Kd.Q_nil _ _ _ _ _ | exact Kd.S_nil _ _ _ _ _, bel⟩
            · rw [if_neg c9] at H
              have c9b0 : decide ((wrap64 ((a0.size : Int) - x8_1)) < 2) = false := decide_eq_false c9
              clear c9
              obtain ⟨ji10, hji10⟩ : ∃ j_ : Int, (wrap64 (x8_1 + 1)) = j_ := ⟨_, rfl⟩
              replace H : (if 0 ≤ (ji10) then (if (ji10) < (a0.size : Int) then (if (wrap64 ((wrap64 ((a0.size : Int) - x8_1)) - 2)) < (wrap64 (bt a0 (ji10))) then (some (([] : List (S47)), wrap64 (a1 + x8_1), 2)) else (if 0 ≤ (wrap64 (x8_1 + 2)) then (if (wrap64 (x8_1 + 2)) ≤ (wrap64 ((wrap64 (x8_1 + 2)) + (wrap64 (bt a0 (ji10))))) then (if (wrap64 ((wrap64 (x8_1 + 2)) + (wrap64 (bt a0 (ji10))))) ≤ (a0.size : Int) then (if x7_1.length < 4398046511104 then (roadbookref18_Split.l0 k1 a0 a1 (x7_1 ++ [(⟨wrap64 (bt a0 x8_1), wrap64 (a1 + x8_1), a0.extract ((wrap64 (x8_1 + 2)) : Int).toNat ((wrap64 ((wrap64 (x8_1 + 2)) + (wrap64 (bt a0 (ji10))))) : Int).toNat⟩ : S47)]) (wrap64 ((wrap64 (x8_1 + 2)) + (wrap64 (bt a0 (ji10)))))) else (none)) else (none)) else (none)) else (none))) else (none)) else (none)) = some (r1, r2, r3) := by first | (rw [hji10] at H; exact H) | (simp only [hji10] at H ⊢; exact H)
              have hji10w : (IntKind.i64.wrap (x8_1 + 1)) = ji10 := (i64_w _).trans hji10
              by_cases c11 : 0 ≤ (ji10)
              · rw [if_pos c11] at H
                have c11b0 : decide (0 ≤ (ji10)) = true := decide_eq_true c11
                clear c11
                by_cases c12 : (ji10) < (a0.size : Int)
                · rw [if_pos c12] at H
                  have c12b0 : decide ((ji10) < (a0.size : Int)) = true := decide_eq_true c12
                  clear c12
                  by_cases c14 : (wrap64 ((wrap64 ((a0.size : Int) - x8_1)) - 2)) < (wrap64 (bt a0 (ji10)))
                  · rw [if_pos c14] at H
                    have c14b0 : decide ((wrap64 ((wrap64 ((a0.size : Int) - x8_1)) - 2)) < (wrap64 (bt a0 (ji10)))) = true := decide_eq_true c14
                    clear c14
                    simp only [Option.some.injEq, Prod.mk.injEq] at H
                    obtain ⟨rfl, rfl, rfl⟩ := H
                    have p5 : 0 ≤ (x8_1 : Int) := odt
                    have q5 : x8_1 < (a0.size : Int) := odt
                    have hx5 := bt_at a0 x8_1
                    replace p5 := eq_true p5
                    replace q5 := eq_true q5
                    have p13 : 0 ≤ ((ji10) : Int) := odt
                    have q13 : (ji10) < (a0.size : Int) := odt
                    have hx13 := bt_at a0 (ji10)
                    replace p13 := eq_true p13
                    replace q13 := eq_true q13
                    go_wp2
                    go_ret3
                    exact ⟨_, by first | rfl | (simp [errW_none, errW_some] <;> rfl) | (simp only [← hji10]; first | rfl | (simp [errW_none, errW_some] <;> rfl)) | (simp [*, errW_none, errW_some] <;> rfl), by first | exact Kd.R_nil _ _ _ _ _ | exact Kd.N_nil _ _ _ _ _ | exact Kd.V_nil _ _ _ _ _ | exact Kd.Q_nil _ _ _ _ _ | exact Kd.S_nil _ _ _ _ _, bel⟩
                  · rw [if_neg c14] at H
                    have c14b0 : decide ((wrap64 ((wrap64 ((a0.size : Int) - x8_1)) - 2)) < (wrap64 (bt a0 (ji10)))) = false := decide_eq_false c14
                    clear c14
                    obtain ⟨ji17, hji17⟩ : ∃ j_ : Int, (wrap64 (x8_1 + 2)) = j_ := ⟨_, rfl⟩
                    replace H : (if 0 ≤ (ji17) then (if (ji17) ≤ (wrap64 ((ji17) + (wrap64 (bt a0 (ji10))))) then (if (wrap64 ((ji17) + (wrap64 (bt a0 (ji10))))) ≤ (a0.size : Int) then (if x7_1.length < 4398046511104 then (roadbookref18_Split.l0 k1 a0 a1 (x7_1 ++ [(⟨wrap64 (bt a0 x8_1), wrap64 (a1 + x8_1), a0.extract ((ji17) : Int).toNat ((wrap64 ((ji17) + (wrap64 (bt a0 (ji10))))) : Int).toNat⟩ : S47)]) (wrap64 ((ji17) + (wrap64 (bt a0 (ji10)))))) else (none)) else (none)) else (none)) else (none)) = some (r1, r2, r3) := by first | (rw [hji17] at H; exact H) | (simp only [hji17] at H ⊢; exact H)
                    have hji17w : (IntKind.i64.wrap (x8_1 + 2)) = ji17 := (i64_w _).trans hji17
                    by_cases c18 : 0 ≤ (ji17)
                    · rw [if_pos c18] at H
                      have c18b0 := eq_true c18
                      have c18b1 : decide (0 ≤ (ji17)) = true := decide_eq_true c18
                      clear c18
                      by_cases c19 : (ji17) ≤ (wrap64 ((ji17) + (wrap64 (bt a0 (ji10)))))
                      · rw [if_pos c19] at H
                        have c19b0 := eq_true c19
                        have c19b1 : decide ((ji17) ≤ (wrap64 ((ji17) + (wrap64 (bt a0 (ji10)))))) = true := decide_eq_true c19
                        by_cases c20 : (wrap64 ((ji17) + (wrap64 (bt a0 (ji10))))) ≤ (a0.size : Int)
                        · rw [if_pos c20] at H
                          have c20b0 := eq_true c20
                          have c20b1 : decide ((wrap64 ((ji17) + (wrap64 (bt a0 (ji10))))) ≤ (a0.size : Int)) = true := decide_eq_true c20
                          by_cases c21 : x7_1.length < 4398046511104
                          · rw [if_pos c21] at H
                            have LMc21 := Aside0.mk c21
                            clear c21
                            obtain ⟨y363, hy363⟩ : ∃ y_ : List (S47), y_ = (x7_1 ++ [(⟨wrap64 (bt a0 x8_1), wrap64 (a1 + x8_1), a0.extract ((ji17) : Int).toNat ((wrap64 ((ji17) + (wrap64 (bt a0 (ji10))))) : Int).toNat⟩ : S47)]) := ⟨_, rfl⟩
                            replace H : (roadbookref18_Split.l0 k1 a0 a1 y363 (wrap64 ((ji17) + (wrap64 (bt a0 (ji10)))))) = some (r1, r2, r3) := by first | (rw [hy363]; with_reducible exact H) | (have H2_ := (Option.bind_some _ _).symm.trans H; rw [hy363]; with_reducible exact H2_) | (have H2_ := (Option.bind_some _ _).symm.trans H; with_reducible exact H2_) | with_reducible exact H | (rw [hy363]; exact H) | exact H
                            have Ny363 := Aside0.mk hy363
                            clear hy363
                            have H' := Aside0.mk H
                            clear H
                            have p5 : 0 ≤ (x8_1 : Int) := odt
                            have q5 : x8_1 < (a0.size : Int) := odt
                            have hx5 := bt_at a0 x8_1
                            replace p5 := eq_true p5
                            replace q5 := eq_true q5
                            have p13 : 0 ≤ ((ji10) : Int) := odt
                            have q13 : (ji10) < (a0.size : Int) := odt
                            have hx13 := bt_at a0 (ji10)
                            replace p13 := eq_true p13
                            replace q13 := eq_true q13
                            have p15 : 0 ≤ ((ji10) : Int) := odt
                            have q15 : (ji10) < (a0.size : Int) := odt
                            have hx15 := bt_at a0 (ji10)
                            replace p15 := eq_true p15
                            replace q15 := eq_true q15
                            try go_wp2
                            have n0_ := Aside0.mk (Kd.R_drew HO_7.out)
                            have n1_ := Aside0.mk (below_drew1 HB.out)
                            clear HO_7
                            clear HB
                            have HO_7 := n0_
                            have HB := n1_
                            clear n0_ n1_
                            have p16 : 0 ≤ (x8_1 : Int) := odt
                            have q16 : x8_1 < (a0.size : Int) := odt
                            have hx16 := bt_at a0 x8_1
                            replace p16 := eq_true p16
                            replace q16 := eq_true q16
                            refine start_ (n := 20) (S := fun w' => True) (ds := []) #[false, false, false, false, false, false, false, false, false, false, false, false, false, false, false, false, false, false, false, false] (by kernel_rfl) rfl rfl trivial (fun hHeld => ?_); refine with_tabW roadbookref18_Split.tab10 roadbookref18_Split.bits10 (fun HT_ HW_ => ?_)
                            generalize wr.drew = w22 at HO_7 HB hHeld ⊢
                            refine pure_ (i := 0) (N := some 53) (v := ?_) (a' := ?_) #[true, false, false, false, false, false, false, false, false, false, false, false, false, false, false, false, false, false, false, false] rfl rfl (any_of HT_.out (by kernel_rfl)) (fun _ _ _ h => h) (Or.inl ⟨by rfl, ?_⟩) ?_ ?_
                            rotate_left
                            · intro w'
                              go_simp
                              with_reducible rfl
                            rotate_left
                            · simp only [Act.put, List.setIfInBounds_toArray, List.set_cons_zero, List.set_cons_succ, i64_w, i32_w]
                              rfl
                            refine pure_ (i := 1) (N := some 54) (v := ?_) (a' := ?_) #[true, true, false, false, false, false, false, false, false, false, false, false, false, false, false, false, false, false, false, false] rfl rfl (any_of HT_.out (by kernel_rfl)) (fun _ _ _ h => h) (Or.inl ⟨by rfl, ?_⟩) ?_ ?_
                            rotate_left
                            · intro w'
                              go_simp
                              with_reducible rfl
                            rotate_left
                            · simp only [Act.put, List.setIfInBounds_toArray, List.set_cons_zero, List.set_cons_succ, i64_w, i32_w]
                              rfl
                            refine pure_ (i := 2) (N := some 55) (v := ?_) (a' := ?_) #[true, true, true, false, false, false, false, false, false, false, false, false, false, false, false, false, false, false, false, false] rfl rfl (any_of HT_.out (by kernel_rfl)) (fun _ _ _ h => h) (Or.inl ⟨by rfl, ?_⟩) ?_ ?_
                            rotate_left
                            · intro w'
                              go_simp
                              with_reducible rfl
                            rotate_left
                            · simp only [Act.put, List.setIfInBounds_toArray, List.set_cons_zero, List.set_cons_succ, i64_w, i32_w]
                              rfl
                            refine pure_ (i := 5) (N := some 58) (v := ?_) (a' := ?_) #[true, true, true, false, false, true, false, false, false, false, false, false, false, false, false, false, false, false, false, false] rfl rfl (any_of HT_.out (by kernel_rfl)) (fun _ _ _ h => h) (Or.inl ⟨by rfl, ?_⟩) ?_ ?_
                            rotate_left
                            · intro w'
                              go_simp
                              with_reducible rfl
                            rotate_left
                            · simp only [Act.put, List.setIfInBounds_toArray, List.set_cons_zero, List.set_cons_succ, i64_w, i32_w]
                              rfl
                            refine pure_ (i := 6) (N := some 59) (v := ?_) (a' := ?_) #[true, true, true, false, false, true, true, false, false, false, false, false, false, false, false, false, false, false, false, false] rfl rfl (any_of HT_.out (by kernel_rfl)) (fun _ _ _ h => h) (Or.inl ⟨by rfl, ?_⟩) ?_ ?_
                            rotate_left
                            · intro w'
                              go_simp
                              with_reducible rfl
                            rotate_left
                            · simp only [Act.put, List.setIfInBounds_toArray, List.set_cons_zero, List.set_cons_succ, i64_w, i32_w]
                              rfl
                            refine pure_ (i := 7) (N := some 60) (v := ?_) (a' := ?_) #[true, true, true, false, false, true, true, true, false, false, false, false, false, false, false, false, false, false, false, false] rfl rfl (any_of HT_.out (by kernel_rfl)) (fun _ _ _ h => h) (Or.inl ⟨by rfl, ?_⟩) ?_ ?_
                            rotate_left
                            · intro w'
                              go_simp
                              with_reducible rfl
                            rotate_left
                            · simp only [Act.put, List.setIfInBounds_toArray, List.set_cons_zero, List.set_cons_succ, i64_w, i32_w]
                              rfl
                            refine pure_ (i := 8) (N := some 61) (v := ?_) (a' := ?_) #[true, true, true, false, false, true, true, true, true, false, false, false, false, false, false, false, false, false, false, false] rfl rfl (any_of HT_.out (by kernel_rfl)) (fun _ _ _ h => h) (Or.inl ⟨by rfl, ?_⟩) ?_ ?_
                            rotate_left
                            · intro w'
                              go_simp
                              with_reducible rfl
                            rotate_left
                            · simp only [Act.put, List.setIfInBounds_toArray, List.set_cons_zero, List.set_cons_succ, i64_w, i32_w]
                              rfl
                            refine pure_ (i := 9) (N := some 62) (v := ?_) (a' := ?_) #[true, true, true, false, false, true, true, true, true, true, false, false, false, false, false, false, false, false, false, false] rfl rfl (any_of HT_.out (by kernel_rfl)) (fun _ _ _ h => h) (Or.inl ⟨by rfl, ?_⟩) ?_ ?_
                            rotate_left
                            · intro w'
                              go_simp
                              with_reducible rfl
                            rotate_left
                            · simp only [Act.put, List.setIfInBounds_toArray, List.set_cons_zero, List.set_cons_succ, i64_w, i32_w]
                              rfl
                            refine pure_ (i := 10) (N := some 63) (v := ?_) (a' := ?_) #[true, true, true, false, false, true, true, true, true, true, true, false, false, false, false, false, false, false, false, false] rfl rfl (any_of HT_.out (by kernel_rfl)) (fun _ _ _ h => h) (Or.inl ⟨by rfl, ?_⟩) ?_ ?_
                            rotate_left
                            · intro w'
                              go_simp
                              with_reducible rfl
                            rotate_left
                            · simp only [Act.put, List.setIfInBounds_toArray, List.set_cons_zero, List.set_cons_succ, i64_w, i32_w]
                              rfl
                            refine pure_ (i := 11) (N := some 64) (v := ?_) (a' := ?_) #[true, true, true, false, false, true, true, true, true, true, true, true, false, false, false, false, false, false, false, false] rfl rfl (any_of HT_.out (by kernel_rfl)) (fun _ _ _ h => h) (Or.inl ⟨by rfl, ?_⟩) ?_ ?_
                            rotate_left
                            · intro w'
                              go_simp
                              with_reducible rfl
                            rotate_left
                            · simp only [Act.put, List.setIfInBounds_toArray, List.set_cons_zero, List.set_cons_succ, i64_w, i32_w]
                              rfl
                            refine pure_ (i := 12) (N := some 65) (v := ?_) (a' := ?_) #[true, true, true, false, false, true, true, true, true, true, true, true, true, false, false, false, false, false, false, false] rfl rfl (any_of HT_.out (by kernel_rfl)) (fun _ _ _ h => h) (Or.inl ⟨by rfl, ?_⟩) ?_ ?_
                            rotate_left
                            · intro w'
                              go_simp
                              with_reducible rfl
                            rotate_left
                            · simp only [Act.put, List.setIfInBounds_toArray, List.set_cons_zero, List.set_cons_succ, i64_w, i32_w]
                              rfl
                            refine pure_ (i := 13) (N := some 66) (v := ?_) (a' := ?_) #[true, true, true, false, false, true, true, true, true, true, true, true, true, true, false, false, false, false, false, false] rfl rfl (any_of HT_.out (by kernel_rfl)) (fun _ _ _ h => h) (Or.inl ⟨by rfl, ?_⟩) ?_ ?_
                            rotate_left
                            · intro w'
                              go_simp
                              with_reducible rfl
                            rotate_left
                            · simp only [Act.put, List.setIfInBounds_toArray, List.set_cons_zero, List.set_cons_succ, i64_w, i32_w]
                              rfl
                            refine pure_ (i := 14) (N := some 67) (v := ?_) (a' := ?_) #[true, true, true, false, false, true, true, true, true, true, true, true, true, true, true, false, false, false, false, false] rfl rfl (any_of HT_.out (by kernel_rfl)) (fun _ _ _ h => h) (Or.inl ⟨by rfl, ?_⟩) ?_ ?_
                            rotate_left
                            · intro w'
                              go_simp
                              with_reducible rfl
                            rotate_left
                            · simp only [Act.put, List.setIfInBounds_toArray, List.set_cons_zero, List.set_cons_succ, i64_w, i32_w]
                              rfl
                            refine pure_ (i := 15) (N := some 68) (v := ?_) (a' := ?_) #[true, true, true, false, false, true, true, true, true, true, true, true, true, true, true, true, false, false, false, false] rfl rfl (any_of HT_.out (by kernel_rfl)) (fun _ _ _ h => h) (Or.inl ⟨by rfl, ?_⟩) ?_ ?_
                            rotate_left
                            · intro w'
                              go_simp
                              with_reducible rfl
                            rotate_left
                            · simp only [Act.put, List.setIfInBounds_toArray, List.set_cons_zero, List.set_cons_succ, i64_w, i32_w]
                              rfl
                            refine take_ (i := 3) (N := some 56) (v := ?_) (a' := ?_) #[true, true, true, true, false, true, true, true, true, true, true, true, true, true, true, true, false, false, false, false] rfl rfl (take_ofW HT_.out HW_.out (by kernel_rfl)) (fun _ _ _ h => h) (Or.inl ⟨by rfl, ?_⟩) hHeld ?_ ?_
                            rotate_left
                            · intro w' _
                              go_simp
                              with_reducible rfl
                            rotate_left
                            · simp only [Act.put, List.setIfInBounds_toArray, List.set_cons_zero, List.set_cons_succ, i64_w, i32_w]
                              rfl
                            refine pure_ (i := 4) (N := some 57) (v := ?_) (a' := ?_) #[true, true, true, true, true, true, true, true, true, true, true, true, true, true, true, true, false, false, false, false] rfl rfl (any_of HT_.out (by kernel_rfl)) (fun _ _ _ h => h) (Or.inl ⟨by rfl, ?_⟩) ?_ ?_
                            rotate_left
                            · intro w'
                              go_simp
                              with_reducible rfl
                            rotate_left
                            · simp only [Act.put, List.setIfInBounds_toArray, List.set_cons_zero, List.set_cons_succ, i64_w, i32_w]
                              rfl
                            refine pure_ (i := 16) (N := some 69) (v := ?_) (a' := ?_) #[true, true, true, true, true, true, true, true, true, true, true, true, true, true, true, true, true, false, false, false] rfl rfl (any_of HT_.out (by kernel_rfl)) (fun _ _ _ h => h) (Or.inl ⟨by rfl, ?_⟩) ?_ ?_
                            rotate_left
                            · intro w'
                              go_simp
                              with_reducible rfl
                            rotate_left
                            · simp only [Act.put, List.setIfInBounds_toArray, List.set_cons_zero, List.set_cons_succ, i64_w, i32_w]
                              rfl
                            refine one_ (i := 17) (N := some 70) #[true, true, true, true, true, true, true, true, true, true, true, true, true, true, true, true, true, true, false, false] rfl rfl (one_of HT_.out (by kernel_rfl)) (by decide) (fun K hK => ?_)
                            refine value_ (w1 := ?_) (v := ?_) (by rfl) rfl ?_ ?_
                            rotate_left 2
                            · go_simp
                              constructor
                              · rfl
                              · rfl
                            refine hK.out _ _ trivial (fun hHeld => ?_)
                            clear hK K
                            refine norm_ (a' := ?_) ?_ ?_
                            rotate_left
                            · show Act.put _ (some 70) _ = _
                              simp only [Act.put, List.setIfInBounds_toArray, List.set_cons_zero, List.set_cons_succ, i64_w, i32_w]
                              rfl
                            refine one_ (i := 18) (N := some 71) #[true, true, true, true, true, true, true, true, true, true, true, true, true, true, true, true, true, true, true, false] rfl rfl (one_of HT_.out (by kernel_rfl)) (by decide) (fun K hK => ?_)
                            refine Kd.R_append_step k47 (w0 := w) w.heap.size (by rfl) (.tmp 53) (.tmp 70) 30 47 (.agg #[(.int .i64 0), (.int .i64 0), (.string ⟨#[]⟩)]) 32 rfl Try.underlying30 info47 rfl (by decide) (by omega) u7 x7_1 (⟨wrap64 (bt a0 x8_1), wrap64 (a1 + x8_1), a0.extract ((ji17) : Int).toNat ((wrap64 ((ji17) + (wrap64 (bt a0 (ji10))))) : Int).toNat⟩ : S47) [.int .i64 (wrap64 (bt a0 x8_1)), .int .i64 (wrap64 (a1 + x8_1)), .string (a0.extract ((ji17) : Int).toNat ((wrap64 ((ji17) + (wrap64 (bt a0 (ji10))))) : Int).toNat)] (fun _ => True) (fun _ => False) rfl rfl ?aP (fun _ hk => hk.elim) ?aF ?aO ?aB ?aS ?aL ?_
                            (case aP => exact k47_mkM _ _ _ (⟨wrap64 (bt a0 x8_1), wrap64 (a1 + x8_1), a0.extract ((ji17) : Int).toNat ((wrap64 ((ji17) + (wrap64 (bt a0 (ji10))))) : Int).toNat⟩ : S47))
                            (case aB => exact (bel))
                            (case aF => exact (fun _ _ => trivial))
                            (case aO => exact (Kd.R_below HO_7.out bll))
                            (case aS => exact bsz)
                            (case aL => have := LMc21.out; omega)
                            intro v364 w23 ho hb hg hat
                            rw [← Ny363.out] at ho
                            have n0_ := Aside0.mk (hb)
                            have n1_ := Aside0.mk (ho)
                            clear HB
                            clear HO_7
                            have HB := n0_
                            have HO365 := n1_
                            clear n0_ n1_
                            clear ho hb hg hat
                            refine hK.out _ _ trivial (fun hHeld => ?_)
                            clear hK K
                            refine norm_ (a' := ?_) ?_ ?_
                            rotate_left
                            · show Act.put _ (some 71) _ = _
                              simp only [Act.put, List.setIfInBounds_toArray, List.set_cons_zero, List.set_cons_succ, i64_w, i32_w]
                              rfl
                            refine pure_ (i := 19) (N := some 7) (v := ?_) (a' := ?_) #[true, true, true, true, true, true, true, true, true, true, true, true, true, true, true, true, true, true, true, true] rfl rfl (any_of HT_.out (by kernel_rfl)) (fun _ _ _ h => h) (Or.inl ⟨by rfl, ?_⟩) ?_ ?_
                            rotate_left
                            · intro w'
                              go_simp
                              with_reducible rfl
                            rotate_left
                            · simp only [Act.put, List.setIfInBounds_toArray, List.set_cons_zero, List.set_cons_succ, i64_w, i32_w]
                              rfl
                            refine done_ (done_of HT_.out (by kernel_rfl)) ?_
                            try go_wp2
                            go_roundg k1
                            case measure => have := HK1.out; omega
                            case rel => exact ⟨(y363), (wrap64 ((ji17) + (wrap64 (bt a0 (ji10))))), (by first | rfl | (simp; done) | (simp only [← hji10, ← hji17] <;> (first | rfl | simp)) | (simp [*]; done)), H', ⟨by have := HK1.out; omega⟩, ⟨Kd.R_below HO365.out bll⟩, ⟨bel⟩⟩
                          · rw [if_neg c21] at H
                            exact absurd H (by simp)
                        · rw [if_neg c20] at H
                          exact absurd H (by simp)
                      · rw [if_neg c19] at H
                        exact absurd H (by simp)
                    · rw [if_neg c18] at H
                      exact absurd H (by simp)
                · rw [if_neg c12] at H
                  exact absurd H (by simp)
              · rw [if_neg c11] at H
                exact absurd H (by simp)
        · rw [if_neg c4] at H
          exact absurd H (by simp)
      · rw [if_neg c3] at H
        have c3b0 : decide (x8_1 < (a0.size : Int)) = false := decide_eq_false c3
        clear c3
        simp only [Option.some.injEq, Prod.mk.injEq] at H
        obtain ⟨rfl, rfl, rfl⟩ := H
        go_wp2
        go_ret3
        exact ⟨_, rtE, by (with_reducible repeat (first | apply Kd.R_alloc | apply Kd.R_drewN | apply Kd.R_drew)); exact HO_7.out, bel⟩

end Go.Proofs.Ytjgnpggpgkkknaa.Pr
