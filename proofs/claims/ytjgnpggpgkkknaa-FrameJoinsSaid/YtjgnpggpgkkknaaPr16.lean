-- Written by wip/tools/xprint.py of this repo over the kit's printer, out of the translation. Lean checks it.
import Derived.Test.YtjgnpggpgkkknaaPr0
import Derived.Test.YtjgnpggpgkkknaaPr13
import Derived.Test.YtjgnpggpgkkknaaPr14
import Derived.Test.YtjgnpggpgkkknaaPr15
namespace Go.Proofs.Ytjgnpggpgkkknaa.Pr
open Go.RowKit Go.Proofs.YtjgnpggpgkkknaaW.PrintWords Go.Proofs.YtjgnpggpgkkknaaW.PrintLast Go.Proofs.YtjgnpggpgkkknaaW.PrintMore
attribute [local go_sem] max2_int min2_int max_two min_two max_three min_three max_four min_four   -- for this text's walks alone
set_option linter.unusedVariables false
set_option linter.unusedSimpArgs false

/-! ### roadbookref18_Wrap: function 23 -/
def roadbookref18_Wrap.f (k : Nat) (a0 : ByteArray) : Option (ByteArray × Bool) := if (a0.size : Int) > 65531 then (some ((⟨#[]⟩ : ByteArray), false)) else ((roadbookref02_Of.f k (a0.size : Int) 2).bind fun t341 => (if 2 + t341.size ≤ 9223372036854775807 then (if ((⟨#[42, 2]⟩ : ByteArray) ++ t341).size + a0.size ≤ 9223372036854775807 then (some (((⟨#[42, 2]⟩ : ByteArray) ++ t341) ++ a0, true)) else (none)) else (none)))
theorem roadbookref18_Wrap.mono : ∀ a0 k, LeO (roadbookref18_Wrap.f k a0) (roadbookref18_Wrap.f (k + 1) a0) := by
  intro a0 k
  unfold roadbookref18_Wrap.f
  repeat' first
      | (with_reducible exact roadbookref02_Of.mono _ _ _)
      | (with_reducible exact LeO.refl _)
      | (with_reducible exact LeO.none _)
      | (with_reducible refine LeO.ite ?_ ?_)
      | (with_reducible refine LeO.bind ?_ (fun _ => ?_))
      | exact roadbookref02_Of.mono _ _ _
      | exact LeO.none _
      | refine LeO.ite ?_ ?_
      | refine LeO.bind ?_ (fun _ => ?_)
set_option maxHeartbeats 8000000 in
set_option maxRecDepth 100000 in
theorem roadbookref18_Wrap.calls (k : Nat) (a0 : ByteArray) (r1 : ByteArray) (r2 : Bool) (w : World) (h : roadbookref18_Wrap.f k a0 = some (r1, r2)) :
    Calls Try.prog 23 #[.string a0] w fun e w' => e = .returned (.tuple #[.string r1, .bool r2]) ∧ Below w.heap.size w w' := by
  have HB := Aside0.mk (Below.refl w.heap.size w)
  have H : (if (a0.size : Int) > 65531 then (some ((⟨#[]⟩ : ByteArray), false)) else ((roadbookref02_Of.f k (a0.size : Int) 2).bind fun t341 => (if 2 + t341.size ≤ 9223372036854775807 then (if ((⟨#[42, 2]⟩ : ByteArray) ++ t341).size + a0.size ≤ 9223372036854775807 then (some (((⟨#[42, 2]⟩ : ByteArray) ++ t341) ++ a0, true)) else (none)) else (none)))) = some (r1, r2) := h
  clear h
  by_cases c2 : (a0.size : Int) > 65531
  · rw [if_pos c2] at H
    have c2b0 : decide (65531 < (a0.size : Int)) = true := decide_eq_true c2
    have c2b1 : decide (65531 < a0.size) = true := decide_eq_true (by omega)
    clear c2
    simp only [Option.some.injEq, Prod.mk.injEq] at H
    obtain ⟨rfl, rfl⟩ := H
    go_enter Try.func23, Try.ntmps23
    go_wp2
    go_ret2
    exact ⟨rtE, bel⟩
  · rw [if_neg c2] at H
    have c2b0 : decide (65531 < (a0.size : Int)) = false := decide_eq_false c2
    have c2b1 : decide (65531 < a0.size) = false := decide_eq_false (by omega)
    clear c2
    replace H := Option.bind_eq_some_iff.mp H
    obtain ⟨t341, A30, H⟩ := H
    replace H : (if 2 + t341.size ≤ 9223372036854775807 then (if ((⟨#[42, 2]⟩ : ByteArray) ++ t341).size + a0.size ≤ 9223372036854775807 then (some (((⟨#[42, 2]⟩ : ByteArray) ++ t341) ++ a0, true)) else (none)) else (none)) = some (r1, r2) := H
    have A3 := Aside0.mk A30
    clear A30
    by_cases c4 : 2 + t341.size ≤ 9223372036854775807
    · rw [if_pos c4] at H
      have c4b0 := eq_true c4
      have c4b1 : decide (2 + t341.size ≤ 9223372036854775807) = true := decide_eq_true c4
      try have c4b2 : (9223372036854775807 < 2 + t341.size) = False := eq_false (Nat.not_lt.2 c4)
      by_cases c5 : ((⟨#[42, 2]⟩ : ByteArray) ++ t341).size + a0.size ≤ 9223372036854775807
      · rw [if_pos c5] at H
        have c5b0 := eq_true c5
        have c5b1 : decide (((⟨#[42, 2]⟩ : ByteArray) ++ t341).size + a0.size ≤ 9223372036854775807) = true := decide_eq_true c5
        try have c5b2 : (9223372036854775807 < ((⟨#[42, 2]⟩ : ByteArray) ++ t341).size + a0.size) = False := eq_false (Nat.not_lt.2 c5)
        simp only [Option.some.injEq, Prod.mk.injEq] at H
        obtain ⟨rfl, rfl⟩ := H
        go_enter Try.func23, Try.ntmps23
        go_wp2_with (first | ((with_reducible refine gate_callee (f := 48) rfl ?_); refine goesL_ (some 9) rfl rfl Try.func48 (by kernel_rfl) rfl #[.int .i64 (a0.size : Int), .int .i64 2] rfl gAr ?_; (with_reducible refine (roadbookref02_Of.calls k (a0.size : Int) 2 t341 _ A3.out).mono ?_); rintro e w6 ⟨rfl, hb⟩; refine ⟨_, rfl, ?_⟩; have n0_ := Aside0.mk (below_step (bel) hb); clear HB; have HB := n0_; clear n0_; (try clear hb)))
        go_ret2
        exact ⟨rtE, bel⟩
      · rw [if_neg c5] at H
        exact absurd H (by simp)
    · rw [if_neg c4] at H
      exact absurd H (by simp)

/-! ### frame_Trailer: function 24 -/
def frame_Trailer.f (a0 : ByteArray) : Option (ByteArray) := (frame_size.f a0).bind fun t342 => (if 0 ≤ (wrap64 (4 + t342)) then (if (wrap64 (4 + t342)) ≤ (a0.size : Int) then (some (a0.extract ((wrap64 (4 + t342)) : Int).toNat a0.size)) else (none)) else (none))
set_option maxHeartbeats 8000000 in
set_option maxRecDepth 100000 in
theorem frame_Trailer.calls (a0 : ByteArray) (r : ByteArray) (w : World) (h : frame_Trailer.f a0 = some r) :
    Calls Try.prog 24 #[.string a0] w fun e w' => e = .returned (.string r) ∧ Drawn0 w w' := by
  have H : ((frame_size.f a0).bind fun t342 => (if 0 ≤ (wrap64 (4 + t342)) then (if (wrap64 (4 + t342)) ≤ (a0.size : Int) then (some (a0.extract ((wrap64 (4 + t342)) : Int).toNat a0.size)) else (none)) else (none))) = some r := h
  clear h
  replace H := Option.bind_eq_some_iff.mp H
  obtain ⟨t342, A20, H⟩ := H
  replace H : (if 0 ≤ (wrap64 (4 + t342)) then (if (wrap64 (4 + t342)) ≤ (a0.size : Int) then (some (a0.extract ((wrap64 (4 + t342)) : Int).toNat a0.size)) else (none)) else (none)) = some r := H
  have A2 := Aside0.mk A20
  clear A20
  obtain ⟨ji3, hji3⟩ : ∃ j_ : Int, (wrap64 (4 + t342)) = j_ := ⟨_, rfl⟩
  replace H : (if 0 ≤ (ji3) then (if (ji3) ≤ (a0.size : Int) then (some (a0.extract ((ji3) : Int).toNat a0.size)) else (none)) else (none)) = some r := by first | (rw [hji3] at H; exact H) | (simp only [hji3] at H ⊢; exact H)
  (try rw [hji3] at A2)
  have hji3w : (IntKind.i64.wrap (4 + t342)) = ji3 := (i64_w _).trans hji3
  by_cases c4 : 0 ≤ (ji3)
  · rw [if_pos c4] at H
    have c4b0 := eq_true c4
    have c4b1 : decide (0 ≤ (ji3)) = true := decide_eq_true c4
    clear c4
    by_cases c5 : (ji3) ≤ (a0.size : Int)
    · rw [if_pos c5] at H
      have c5b0 := eq_true c5
      have c5b1 : decide ((ji3) ≤ (a0.size : Int)) = true := decide_eq_true c5
      clear c5
      obtain rfl := Option.some.inj H
      go_enter Try.func24, Try.ntmps24
      go_wp2_with (first | ((with_reducible refine gate_callee (f := 47) rfl ?_); refine goesL_ (some 5) rfl rfl Try.func47 (by kernel_rfl) rfl #[.string a0] rfl gAr ?_; (with_reducible refine (frame_size.calls a0 t342 _ A2.out).mono ?_); rintro e w' ⟨rfl, ⟨nd, rfl⟩⟩; refine ⟨_, rfl, ?_⟩))
      go_ret
      exact ⟨by first | rfl | (simp; done) | (simp only [← hji3] <;> (first | rfl | simp)) | (simp [*]; done), by repeat (first | exact Drawn0.refl _ | apply Drawn0.step)⟩
    · rw [if_neg c5] at H
      exact absurd H (by simp)
  · rw [if_neg c4] at H
    exact absurd H (by simp)

/-! ### roadbookref18_Trailer: function 25 -/
def roadbookref18_Trailer.f (a0 : ByteArray) : Option (ByteArray) := (roadbookref18_Body.f a0).bind fun bt343 => (if 0 ≤ (wrap64 (4 + (bt343.1.size : Int))) then (if (wrap64 (4 + (bt343.1.size : Int))) ≤ (a0.size : Int) then (some (a0.extract ((wrap64 (4 + (bt343.1.size : Int))) : Int).toNat a0.size)) else (none)) else (none))
set_option maxHeartbeats 8000000 in
set_option maxRecDepth 100000 in
theorem roadbookref18_Trailer.calls (a0 : ByteArray) (r : ByteArray) (w : World) (h : roadbookref18_Trailer.f a0 = some r) :
    Calls Try.prog 25 #[.string a0] w fun e w' => e = .returned (.string r) ∧ Drawn0 w w' := by
  have H : ((roadbookref18_Body.f a0).bind fun bt343 => (if 0 ≤ (wrap64 (4 + (bt343.1.size : Int))) then (if (wrap64 (4 + (bt343.1.size : Int))) ≤ (a0.size : Int) then (some (a0.extract ((wrap64 (4 + (bt343.1.size : Int))) : Int).toNat a0.size)) else (none)) else (none))) = some r := h
  clear h
  replace H := Option.bind_eq_some_iff.mp H
  obtain ⟨⟨t343, t344, t345⟩, A20, H⟩ := H
  replace H : (if 0 ≤ (wrap64 (4 + (t343.size : Int))) then (if (wrap64 (4 + (t343.size : Int))) ≤ (a0.size : Int) then (some (a0.extract ((wrap64 (4 + (t343.size : Int))) : Int).toNat a0.size)) else (none)) else (none)) = some r := H
  have A2 := Aside0.mk A20
  clear A20
  obtain ⟨ji3, hji3⟩ : ∃ j_ : Int, (wrap64 (4 + (t343.size : Int))) = j_ := ⟨_, rfl⟩
  replace H : (if 0 ≤ (ji3) then (if (ji3) ≤ (a0.size : Int) then (some (a0.extract ((ji3) : Int).toNat a0.size)) else (none)) else (none)) = some r := by first | (rw [hji3] at H; exact H) | (simp only [hji3] at H ⊢; exact H)
  (try rw [hji3] at A2)
  have hji3w : (IntKind.i64.wrap (4 + (t343.size : Int))) = ji3 := (i64_w _).trans hji3
  by_cases c4 : 0 ≤ (ji3)
  · rw [if_pos c4] at H
    have c4b0 := eq_true c4
    have c4b1 : decide (0 ≤ (ji3)) = true := decide_eq_true c4
    clear c4
    by_cases c5 : (ji3) ≤ (a0.size : Int)
    · rw [if_pos c5] at H
      have c5b0 := eq_true c5
      have c5b1 : decide ((ji3) ≤ (a0.size : Int)) = true := decide_eq_true c5
      clear c5
      obtain rfl := Option.some.inj H
      go_enter Try.func25, Try.ntmps25
      go_wp2_with (first | ((with_reducible refine gate_callee (f := 21) rfl ?_); refine goesL_ (some 8) rfl rfl Try.func21 (by kernel_rfl) rfl #[.string a0] rfl gAr ?_; (with_reducible refine (roadbookref18_Body.calls a0 t343 t344 t345 _ A2.out).mono ?_); rintro e w' ⟨rfl, ⟨nd, rfl⟩⟩; refine ⟨_, rfl, ?_⟩))
      go_ret
      exact ⟨by first | rfl | (simp; done) | (simp only [← hji3] <;> (first | rfl | simp)) | (simp [*]; done), by repeat (first | exact Drawn0.refl _ | apply Drawn0.step)⟩
    · rw [if_neg c5] at H
      exact absurd H (by simp)
  · rw [if_neg c4] at H
    exact absurd H (by simp)

/-! ### roadbooklaw18_FrameBodies: function 6 -/
def roadbooklaw18_FrameBodies.f (k : Nat) (a0 : ByteArray) : Option (Bool) := if (a0.size : Int) > 3000 then ((roadbooklaw18_awake.f k).bind fun t346 => (some t346)) else ((frame_Body.f a0).bind fun bt347 => ((roadbookref18_Body.f a0).bind fun bt350 => ((frame_Wrap.f k a0).bind fun bt353 => ((roadbookref18_Wrap.f k a0).bind fun bt355 => ((roadbooklaw18_awake.f k).bind fun t357 => (if t357 = true then (if bt347.1.toList = bt350.1.toList then (if bt347.2.1 = bt350.2.1 then (if bt347.2.2 = bt350.2.2 then (if bt347.2.2 = 0 then ((frame_Trailer.f a0).bind fun t358 => ((roadbookref18_Trailer.f a0).bind fun t359 => (if t358.toList = t359.toList then (if bt353.1.toList = bt355.1.toList then (some (bt353.2 == bt355.2)) else (some false)) else (some false)))) else (if bt353.1.toList = bt355.1.toList then (some (bt353.2 == bt355.2)) else (some false))) else (some false)) else (some false)) else (some false)) else (some false)))))))
theorem roadbooklaw18_FrameBodies.mono : ∀ a0 k, LeO (roadbooklaw18_FrameBodies.f k a0) (roadbooklaw18_FrameBodies.f (k + 1) a0) := by
  intro a0 k
  unfold roadbooklaw18_FrameBodies.f
  repeat' first
      | (with_reducible exact frame_Wrap.mono _ _)
      | (with_reducible exact roadbooklaw18_awake.mono _)
      | (with_reducible exact roadbookref18_Wrap.mono _ _)
      | (with_reducible exact LeO.refl _)
      | (with_reducible exact LeO.none _)
      | (with_reducible refine LeO.ite ?_ ?_)
      | (with_reducible refine LeO.bind ?_ (fun _ => ?_))
      | exact frame_Wrap.mono _ _
      | exact roadbooklaw18_awake.mono _
      | exact roadbookref18_Wrap.mono _ _
      | exact LeO.none _
      | refine LeO.ite ?_ ?_
      | refine LeO.bind ?_ (fun _ => ?_)
set_option maxHeartbeats 8000000 in
set_option maxRecDepth 100000 in
theorem roadbooklaw18_FrameBodies.calls (k : Nat) (a0 : ByteArray) (r : Bool) (w : World) (h : roadbooklaw18_FrameBodies.f k a0 = some r) :
    Calls Try.prog 6 #[.string a0] w fun e w' => e = .returned (.bool r) ∧ Below w.heap.size w w' := by
  have HB := Aside0.mk (Below.refl w.heap.size w)
  have H : (if (a0.size : Int) > 3000 then ((roadbooklaw18_awake.f k).bind fun t346 => (some t346)) else ((frame_Body.f a0).bind fun bt347 => ((roadbookref18_Body.f a0).bind fun bt350 => ((frame_Wrap.f k a0).bind fun bt353 => ((roadbookref18_Wrap.f k a0).bind fun bt355 => ((roadbooklaw18_awake.f k).bind fun t357 => (if t357 = true then (if bt347.1.toList = bt350.1.toList then (if bt347.2.1 = bt350.2.1 then (if bt347.2.2 = bt350.2.2 then (if bt347.2.2 = 0 then ((frame_Trailer.f a0).bind fun t358 => ((roadbookref18_Trailer.f a0).bind fun t359 => (if t358.toList = t359.toList then (if bt353.1.toList = bt355.1.toList then (some (bt353.2 == bt355.2)) else (some false)) else (some false)))) else (if bt353.1.toList = bt355.1.toList then (some (bt353.2 == bt355.2)) else (some false))) else (some false)) else (some false)) else (some false)) else (some false)))))))) = some r := h
  clear h
  by_cases c2 : (a0.size : Int) > 3000
  · rw [if_pos c2] at H
    have c2b0 : decide (3000 < (a0.size : Int)) = true := decide_eq_true c2
    have c2b1 : decide (3000 < a0.size) = true := decide_eq_true (by omega)
    clear c2
    replace H := Option.bind_eq_some_iff.mp H
    obtain ⟨t346, A30, H⟩ := H
    replace H : (some t346) = some r := H
    have A3 := Aside0.mk A30
    clear A30
    obtain rfl := Option.some.inj H
    go_enter Try.func6, Try.ntmps6
    go_wp2_with (first | ((with_reducible refine gate_callee (f := 17) rfl ?_); refine goesL_ (some 16) rfl rfl Try.func17 (by kernel_rfl) rfl #[] rfl gAr ?_; (with_reducible refine (roadbooklaw18_awake.calls k  t346 _ A3.out).mono ?_); rintro e w4 ⟨rfl, hb⟩; refine ⟨_, rfl, ?_⟩; have n0_ := Aside0.mk (below_step (bel) hb); clear HB; have HB := n0_; clear n0_; (try clear hb)))
    go_ret
    exact ⟨rtE, bel⟩
  · rw [if_neg c2] at H
    have c2b0 : decide (3000 < (a0.size : Int)) = false := decide_eq_false c2
    have c2b1 : decide (3000 < a0.size) = false := decide_eq_false (by omega)
    clear c2
    replace H := Option.bind_eq_some_iff.mp H
    obtain ⟨⟨t347, t348, t349⟩, A50, H⟩ := H
    replace H : ((roadbookref18_Body.f a0).bind fun bt350 => ((frame_Wrap.f k a0).bind fun bt353 => ((roadbookref18_Wrap.f k a0).bind fun bt355 => ((roadbooklaw18_awake.f k).bind fun t357 => (if t357 = true then (if t347.toList = bt350.1.toList then (if t348 = bt350.2.1 then (if t349 = bt350.2.2 then (if t349 = 0 then ((frame_Trailer.f a0).bind fun t358 => ((roadbookref18_Trailer.f a0).bind fun t359 => (if t358.toList = t359.toList then (if bt353.1.toList = bt355.1.toList then (some (bt353.2 == bt355.2)) else (some false)) else (some false)))) else (if bt353.1.toList = bt355.1.toList then (some (bt353.2 == bt355.2)) else (some false))) else (some false)) else (some false)) else (some false)) else (some false)))))) = some r := H
    have A5 := Aside0.mk A50
    clear A50
    replace H := Option.bind_eq_some_iff.mp H
    obtain ⟨⟨t350, t351, t352⟩, A60, H⟩ := H
    replace H : ((frame_Wrap.f k a0).bind fun bt353 => ((roadbookref18_Wrap.f k a0).bind fun bt355 => ((roadbooklaw18_awake.f k).bind fun t357 => (if t357 = true then (if t347.toList = t350.toList then (if t348 = t351 then (if t349 = t352 then (if t349 = 0 then ((frame_Trailer.f a0).bind fun t358 => ((roadbookref18_Trailer.f a0).bind fun t359 => (if t358.toList = t359.toList then (if bt353.1.toList = bt355.1.toList then (some (bt353.2 == bt355.2)) else (some false)) else (some false)))) else (if bt353.1.toList = bt355.1.toList then (some (bt353.2 == bt355.2)) else (some false))) else (some false)) else (some false)) else (some false)) else (some false))))) = some r := H
    have A6 := Aside0.mk A60
    clear A60
    replace H := Option.bind_eq_some_iff.mp H
    obtain ⟨⟨t353, t354⟩, A70, H⟩ := H
    replace H : ((roadbookref18_Wrap.f k a0).bind fun bt355 => ((roadbooklaw18_awake.f k).bind fun t357 => (if t357 = true then (if t347.toList = t350.toList then (if t348 = t351 then (if t349 = t352 then (if t349 = 0 then ((frame_Trailer.f a0).bind fun t358 => ((roadbookref18_Trailer.f a0).bind fun t359 => (if t358.toList = t359.toList then (if t353.toList = bt355.1.toList then (some (t354 == bt355.2)) else (some false)) else (some false)))) else (if t353.toList = bt355.1.toList then (some (t354 == bt355.2)) else (some false))) else (some false)) else (some false)) else (some false)) else (some false)))) = some r := H
    have A7 := Aside0.mk A70
    clear A70
    replace H := Option.bind_eq_some_iff.mp H
    obtain ⟨⟨t355, t356⟩, A80, H⟩ := H
    replace H : ((roadbooklaw18_awake.f k).bind fun t357 => (if t357 = true then (if t347.toList = t350.toList then (if t348 = t351 then (if t349 = t352 then (if t349 = 0 then ((frame_Trailer.f a0).bind fun t358 => ((roadbookref18_Trailer.f a0).bind fun t359 => (if t358.toList = t359.toList then (if t353.toList = t355.toList then (some (t354 == t356)) else (some false)) else (some false)))) else (if t353.toList = t355.toList then (some (t354 == t356)) else (some false))) else (some false)) else (some false)) else (some false)) else (some false))) = some r := H
    have A8 := Aside0.mk A80
    clear A80
    replace H := Option.bind_eq_some_iff.mp H
    obtain ⟨t357, A90, H⟩ := H
    replace H : (if t357 = true then (if t347.toList = t350.toList then (if t348 = t351 then (if t349 = t352 then (if t349 = 0 then ((frame_Trailer.f a0).bind fun t358 => ((roadbookref18_Trailer.f a0).bind fun t359 => (if t358.toList = t359.toList then (if t353.toList = t355.toList then (some (t354 == t356)) else (some false)) else (some false)))) else (if t353.toList = t355.toList then (some (t354 == t356)) else (some false))) else (some false)) else (some false)) else (some false)) else (some false)) = some r := H
    have A9 := Aside0.mk A90
    clear A90
    by_cases c10 : t357 = true
    · subst c10
      have H1 : (if t347.toList = t350.toList then (if t348 = t351 then (if t349 = t352 then (if t349 = 0 then ((frame_Trailer.f a0).bind fun t358 => ((roadbookref18_Trailer.f a0).bind fun t359 => (if t358.toList = t359.toList then (if t353.toList = t355.toList then (some (t354 == t356)) else (some false)) else (some false)))) else (if t353.toList = t355.toList then (some (t354 == t356)) else (some false))) else (some false)) else (some false)) else (some false)) = some r := by rw [if_pos rfl] at H; exact H
      clear H
      have H := H1
      clear H1
      by_cases c11 : t347.toList = t350.toList
      · rw [if_pos c11] at H
        have c11b0 : (t347.toList == t350.toList) = true := beq_iff_eq.mpr c11
        have c11b1 : (t347.toList != t350.toList) = false := bne_eq_false_iff_eq.mpr c11
        clear c11
        by_cases c12 : t348 = t351
        · rw [if_pos c12] at H
          have c12b0 : (t348 == t351) = true := beq_iff_eq.mpr c12
          have c12b1 : (t348 != t351) = false := bne_eq_false_iff_eq.mpr c12
          clear c12
          by_cases c13 : t349 = t352
          · rw [if_pos c13] at H
            have c13b0 : (t349 == t352) = true := beq_iff_eq.mpr c13
            have c13b1 : (t349 != t352) = false := bne_eq_false_iff_eq.mpr c13
            clear c13
            by_cases c14 : t349 = 0
            · rw [if_pos c14] at H
              have c14b0 : (t349 == 0) = true := beq_iff_eq.mpr c14
              have c14b1 : (t349 != 0) = false := bne_eq_false_iff_eq.mpr c14
              clear c14
              replace H := Option.bind_eq_some_iff.mp H
              obtain ⟨t358, A150, H⟩ := H
              replace H : ((roadbookref18_Trailer.f a0).bind fun t359 => (if t358.toList = t359.toList then (if t353.toList = t355.toList then (some (t354 == t356)) else (some false)) else (some false))) = some r := H
              have A15 := Aside0.mk A150
              clear A150
              replace H := Option.bind_eq_some_iff.mp H
              obtain ⟨t359, A160, H⟩ := H
              replace H : (if t358.toList = t359.toList then (if t353.toList = t355.toList then (some (t354 == t356)) else (some false)) else (some false)) = some r := H
              have A16 := Aside0.mk A160
              clear A160
              by_cases c17 : t358.toList = t359.toList
              · rw [if_pos c17] at H
                have c17b0 : (t358.toList == t359.toList) = true := beq_iff_eq.mpr c17
                have c17b1 : (t358.toList != t359.toList) = false := bne_eq_false_iff_eq.mpr c17
                clear c17
                by_cases c18 : t353.toList = t355.toList
                · rw [if_pos c18] at H
                  have c18b0 : (t353.toList == t355.toList) = true := beq_iff_eq.mpr c18
                  have c18b1 : (t353.toList != t355.toList) = false := bne_eq_false_iff_eq.mpr c18
                  clear c18
                  obtain rfl := Option.some.inj H
                  go_enter Try.func6, Try.ntmps6
                  go_wp2_with (first | ((with_reducible refine gate_callee (f := 20) rfl ?_); refine goesL_ (some 19) rfl rfl Try.func20 (by kernel_rfl) rfl #[.string a0] rfl gAr ?_; (with_reducible refine (frame_Body.calls a0 t347 t348 t349 _ A5.out).mono ?_); rintro e w' ⟨rfl, ⟨nd, rfl⟩⟩; refine ⟨_, rfl, ?_⟩) | ((with_reducible refine gate_callee (f := 21) rfl ?_); refine goesL_ (some 25) rfl rfl Try.func21 (by kernel_rfl) rfl #[.string a0] rfl gAr ?_; (with_reducible refine (roadbookref18_Body.calls a0 t350 t351 t352 _ A6.out).mono ?_); rintro e w' ⟨rfl, ⟨nd, rfl⟩⟩; refine ⟨_, rfl, ?_⟩) | ((with_reducible refine gate_callee (f := 22) rfl ?_); refine goesL_ (some 31) rfl rfl Try.func22 (by kernel_rfl) rfl #[.string a0] rfl gAr ?_; (with_reducible refine (frame_Wrap.calls k a0 t353 t354 _ A7.out).mono ?_); rintro e w19 ⟨rfl, hb⟩; refine ⟨_, rfl, ?_⟩; have n0_ := Aside0.mk (below_step (bel) hb); clear HB; have HB := n0_; clear n0_; (try clear hb)) | ((with_reducible refine gate_callee (f := 23) rfl ?_); refine goesL_ (some 36) rfl rfl Try.func23 (by kernel_rfl) rfl #[.string a0] rfl gAr ?_; (with_reducible refine (roadbookref18_Wrap.calls k a0 t355 t356 _ A8.out).mono ?_); rintro e w20 ⟨rfl, hb⟩; refine ⟨_, rfl, ?_⟩; have n0_ := Aside0.mk (below_step (bel) hb); clear HB; have HB := n0_; clear n0_; (try clear hb)) | ((with_reducible refine gate_callee (f := 17) rfl ?_); refine goesL_ (some 39) rfl rfl Try.func17 (by kernel_rfl) rfl #[] rfl gAr ?_; (with_reducible refine (roadbooklaw18_awake.calls k  true _ A9.out).mono ?_); rintro e w21 ⟨rfl, hb⟩; refine ⟨_, rfl, ?_⟩; have n0_ := Aside0.mk (below_step (bel) hb); clear HB; have HB := n0_; clear n0_; (try clear hb)) | (go_at_call 24; (with_reducible refine (frame_Trailer.calls a0 t358 _ A15.out).mono ?_); rintro e w' ⟨rfl, ⟨nd, rfl⟩⟩) | (go_at_call 25; (with_reducible refine (roadbookref18_Trailer.calls a0 t359 _ A16.out).mono ?_); rintro e w' ⟨rfl, ⟨nd, rfl⟩⟩))
                  go_ret
                  exact ⟨rtE, bel⟩
                · rw [if_neg c18] at H
                  have c18b0 : (t353.toList == t355.toList) = false := beq_eq_false_iff_ne.mpr c18
                  have c18b1 : (t353.toList != t355.toList) = true := bne_iff_ne.mpr c18
                  obtain rfl := Option.some.inj H
                  go_enter Try.func6, Try.ntmps6
                  go_wp2_with (first | ((with_reducible refine gate_callee (f := 20) rfl ?_); refine goesL_ (some 19) rfl rfl Try.func20 (by kernel_rfl) rfl #[.string a0] rfl gAr ?_; (with_reducible refine (frame_Body.calls a0 t347 t348 t349 _ A5.out).mono ?_); rintro e w' ⟨rfl, ⟨nd, rfl⟩⟩; refine ⟨_, rfl, ?_⟩) | ((with_reducible refine gate_callee (f := 21) rfl ?_); refine goesL_ (some 25) rfl rfl Try.func21 (by kernel_rfl) rfl #[.string a0] rfl gAr ?_; (with_reducible refine (roadbookref18_Body.calls a0 t350 t351 t352 _ A6.out).mono ?_); rintro e w' ⟨rfl, ⟨nd, rfl⟩⟩; refine ⟨_, rfl, ?_⟩) | ((with_reducible refine gate_callee (f := 22) rfl ?_); refine goesL_ (some 31) rfl rfl Try.func22 (by kernel_rfl) rfl #[.string a0] rfl gAr ?_; (with_reducible refine (frame_Wrap.calls k a0 t353 t354 _ A7.out).mono ?_); rintro e w22 ⟨rfl, hb⟩; refine ⟨_, rfl, ?_⟩; have n0_ := Aside0.mk (below_step (bel) hb); clear HB; have HB := n0_; clear n0_; (try clear hb)) | ((with_reducible refine gate_callee (f := 23) rfl ?_); refine goesL_ (some 36) rfl rfl Try.func23 (by kernel_rfl) rfl #[.string a0] rfl gAr ?_; (with_reducible refine (roadbookref18_Wrap.calls k a0 t355 t356 _ A8.out).mono ?_); rintro e w23 ⟨rfl, hb⟩; refine ⟨_, rfl, ?_⟩; have n0_ := Aside0.mk (below_step (bel) hb); clear HB; have HB := n0_; clear n0_; (try clear hb)) | ((with_reducible refine gate_callee (f := 17) rfl ?_); refine goesL_ (some 39) rfl rfl Try.func17 (by kernel_rfl) rfl #[] rfl gAr ?_; (with_reducible refine (roadbooklaw18_awake.calls k  true _ A9.out).mono ?_); rintro e w24 ⟨rfl, hb⟩; refine ⟨_, rfl, ?_⟩; have n0_ := Aside0.mk (below_step (bel) hb); clear HB; have HB := n0_; clear n0_; (try clear hb)) | (go_at_call 24; (with_reducible refine (frame_Trailer.calls a0 t358 _ A15.out).mono ?_); rintro e w' ⟨rfl, ⟨nd, rfl⟩⟩) | (go_at_call 25; (with_reducible refine (roadbookref18_Trailer.calls a0 t359 _ A16.out).mono ?_); rintro e w' ⟨rfl, ⟨nd, rfl⟩⟩))
                  go_ret
                  exact ⟨rtE, bel⟩
              · rw [if_neg c17] at H
                have c17b0 : (t358.toList == t359.toList) = false := beq_eq_false_iff_ne.mpr c17
                have c17b1 : (t358.toList != t359.toList) = true := bne_iff_ne.mpr c17
                obtain rfl := Option.some.inj H
                go_enter Try.func6, Try.ntmps6
                go_wp2_with (first | ((with_reducible refine gate_callee (f := 20) rfl ?_); refine goesL_ (some 19) rfl rfl Try.func20 (by kernel_rfl) rfl #[.string a0] rfl gAr ?_; (with_reducible refine (frame_Body.calls a0 t347 t348 t349 _ A5.out).mono ?_); rintro e w' ⟨rfl, ⟨nd, rfl⟩⟩; refine ⟨_, rfl, ?_⟩) | ((with_reducible refine gate_callee (f := 21) rfl ?_); refine goesL_ (some 25) rfl rfl Try.func21 (by kernel_rfl) rfl #[.string a0] rfl gAr ?_; (with_reducible refine (roadbookref18_Body.calls a0 t350 t351 t352 _ A6.out).mono ?_); rintro e w' ⟨rfl, ⟨nd, rfl⟩⟩; refine ⟨_, rfl, ?_⟩) | ((with_reducible refine gate_callee (f := 22) rfl ?_); refine goesL_ (some 31) rfl rfl Try.func22 (by kernel_rfl) rfl #[.string a0] rfl gAr ?_; (with_reducible refine (frame_Wrap.calls k a0 t353 t354 _ A7.out).mono ?_); rintro e w25 ⟨rfl, hb⟩; refine ⟨_, rfl, ?_⟩; have n0_ := Aside0.mk (below_step (bel) hb); clear HB; have HB := n0_; clear n0_; (try clear hb)) | ((with_reducible refine gate_callee (f := 23) rfl ?_); refine goesL_ (some 36) rfl rfl Try.func23 (by kernel_rfl) rfl #[.string a0] rfl gAr ?_; (with_reducible refine (roadbookref18_Wrap.calls k a0 t355 t356 _ A8.out).mono ?_); rintro e w26 ⟨rfl, hb⟩; refine ⟨_, rfl, ?_⟩; have n0_ := Aside0.mk (below_step (bel) hb); clear HB; have HB := n0_; clear n0_; (try clear hb)) | ((with_reducible refine gate_callee (f := 17) rfl ?_); refine goesL_ (some 39) rfl rfl Try.func17 (by kernel_rfl) rfl #[] rfl gAr ?_; (with_reducible refine (roadbooklaw18_awake.calls k  true _ A9.out).mono ?_); rintro e w27 ⟨rfl, hb⟩; refine ⟨_, rfl, ?_⟩; have n0_ := Aside0.mk (below_step (bel) hb); clear HB; have HB := n0_; clear n0_; (try clear hb)) | (go_at_call 24; (with_reducible refine (frame_Trailer.calls a0 t358 _ A15.out).mono ?_); rintro e w' ⟨rfl, ⟨nd, rfl⟩⟩) | (go_at_call 25; (with_reducible refine (roadbookref18_Trailer.calls a0 t359 _ A16.out).mono ?_); rintro e w' ⟨rfl, ⟨nd, rfl⟩⟩))
                go_ret
                exact ⟨rtE, bel⟩
            · rw [if_neg c14] at H
              have c14b0 : (t349 == 0) = false := beq_eq_false_iff_ne.mpr c14
              have c14b1 : (t349 != 0) = true := bne_iff_ne.mpr c14
              by_cases c28 : t353.toList = t355.toList
              · rw [if_pos c28] at H
                have c28b0 : (t353.toList == t355.toList) = true := beq_iff_eq.mpr c28
                have c28b1 : (t353.toList != t355.toList) = false := bne_eq_false_iff_eq.mpr c28
                clear c28
                obtain rfl := Option.some.inj H
                go_enter Try.func6, Try.ntmps6
                go_wp2_with (first | ((with_reducible refine gate_callee (f := 20) rfl ?_); refine goesL_ (some 19) rfl rfl Try.func20 (by kernel_rfl) rfl #[.string a0] rfl gAr ?_; (with_reducible refine (frame_Body.calls a0 t347 t348 t349 _ A5.out).mono ?_); rintro e w' ⟨rfl, ⟨nd, rfl⟩⟩; refine ⟨_, rfl, ?_⟩) | ((with_reducible refine gate_callee (f := 21) rfl ?_); refine goesL_ (some 25) rfl rfl Try.func21 (by kernel_rfl) rfl #[.string a0] rfl gAr ?_; (with_reducible refine (roadbookref18_Body.calls a0 t350 t351 t352 _ A6.out).mono ?_); rintro e w' ⟨rfl, ⟨nd, rfl⟩⟩; refine ⟨_, rfl, ?_⟩) | ((with_reducible refine gate_callee (f := 22) rfl ?_); refine goesL_ (some 31) rfl rfl Try.func22 (by kernel_rfl) rfl #[.string a0] rfl gAr ?_; (with_reducible refine (frame_Wrap.calls k a0 t353 t354 _ A7.out).mono ?_); rintro e w29 ⟨rfl, hb⟩; refine ⟨_, rfl, ?_⟩; have n0_ := Aside0.mk (below_step (bel) hb); clear HB; have HB := n0_; clear n0_; (try clear hb)) | ((with_reducible refine gate_callee (f := 23) rfl ?_); refine goesL_ (some 36) rfl rfl Try.func23 (by kernel_rfl) rfl #[.string a0] rfl gAr ?_; (with_reducible refine (roadbookref18_Wrap.calls k a0 t355 t356 _ A8.out).mono ?_); rintro e w30 ⟨rfl, hb⟩; refine ⟨_, rfl, ?_⟩; have n0_ := Aside0.mk (below_step (bel) hb); clear HB; have HB := n0_; clear n0_; (try clear hb)) | ((with_reducible refine gate_callee (f := 17) rfl ?_); refine goesL_ (some 39) rfl rfl Try.func17 (by kernel_rfl) rfl #[] rfl gAr ?_; (with_reducible refine (roadbooklaw18_awake.calls k  true _ A9.out).mono ?_); rintro e w31 ⟨rfl, hb⟩; refine ⟨_, rfl, ?_⟩; have n0_ := Aside0.mk (below_step (bel) hb); clear HB; have HB := n0_; clear n0_; (try clear hb)))
                go_ret
                exact ⟨rtE, bel⟩
              · rw [if_neg c28] at H
                have c28b0 : (t353.toList == t355.toList) = false := beq_eq_false_iff_ne.mpr c28
                have c28b1 : (t353.toList != t355.toList) = true := bne_iff_ne.mpr c28
                obtain rfl := Option.some.inj H
                go_enter Try.func6, Try.ntmps6
                go_wp2_with (first | ((with_reducible refine gate_callee (f := 20) rfl ?_); refine goesL_ (some 19) rfl rfl Try.func20 (by kernel_rfl) rfl #[.string a0] rfl gAr ?_; (with_reducible refine (frame_Body.calls a0 t347 t348 t349 _ A5.out).mono ?_); rintro e w' ⟨rfl, ⟨nd, rfl⟩⟩; refine ⟨_, rfl, ?_⟩) | ((with_reducible refine gate_callee (f := 21) rfl ?_); refine goesL_ (some 25) rfl rfl Try.func21 (by kernel_rfl) rfl #[.string a0] rfl gAr ?_; (with_reducible refine (roadbookref18_Body.calls a0 t350 t351 t352 _ A6.out).mono ?_); rintro e w' ⟨rfl, ⟨nd, rfl⟩⟩; refine ⟨_, rfl, ?_⟩) | ((with_reducible refine gate_callee (f := 22) rfl ?_); refine goesL_ (some 31) rfl rfl Try.func22 (by kernel_rfl) rfl #[.string a0] rfl gAr ?_; (with_reducible refine (frame_Wrap.calls k a0 t353 t354 _ A7.out).mono ?_); rintro e w32 ⟨rfl, hb⟩; refine ⟨_, rfl, ?_⟩; have n0_ := Aside0.mk (below_step (bel) hb); clear HB; have HB := n0_; clear n0_; (try clear hb)) | ((with_reducible refine gate_callee (f := 23) rfl ?_); refine goesL_ (some 36) rfl rfl Try.func23 (by kernel_rfl) rfl #[.string a0] rfl gAr ?_; (with_reducible refine (roadbookref18_Wrap.calls k a0 t355 t356 _ A8.out).mono ?_); rintro e w33 ⟨rfl, hb⟩; refine ⟨_, rfl, ?_⟩; have n0_ := Aside0.mk (below_step (bel) hb); clear HB; have HB := n0_; clear n0_; (try clear hb)) | ((with_reducible refine gate_callee (f := 17) rfl ?_); refine goesL_ (some 39) rfl rfl Try.func17 (by kernel_rfl) rfl #[] rfl gAr ?_; (with_reducible refine (roadbooklaw18_awake.calls k  true _ A9.out).mono ?_); rintro e w34 ⟨rfl, hb⟩; refine ⟨_, rfl, ?_⟩; have n0_ := Aside0.mk (below_step (bel) hb); clear HB; have HB := n0_; clear n0_; (try clear hb)))
                go_ret
                exact ⟨rtE, bel⟩
          · rw [if_neg c13] at H
            have c13b0 : (t349 == t352) = false := beq_eq_false_iff_ne.mpr c13
            have c13b1 : (t349 != t352) = true := bne_iff_ne.mpr c13
            obtain rfl := Option.some.inj H
            go_enter Try.func6, Try.ntmps6
            go_wp2_with (first | ((with_reducible refine gate_callee (f := 20) rfl ?_); refine goesL_ (some 19) rfl rfl Try.func20 (by kernel_rfl) rfl #[.string a0] rfl gAr ?_; (with_reducible refine (frame_Body.calls a0 t347 t348 t349 _ A5.out).mono ?_); rintro e w' ⟨rfl, ⟨nd, rfl⟩⟩; refine ⟨_, rfl, ?_⟩) | ((with_reducible refine gate_callee (f := 21) rfl ?_); refine goesL_ (some 25) rfl rfl Try.func21 (by kernel_rfl) rfl #[.string a0] rfl gAr ?_; (with_reducible refine (roadbookref18_Body.calls a0 t350 t351 t352 _ A6.out).mono ?_); rintro e w' ⟨rfl, ⟨nd, rfl⟩⟩; refine ⟨_, rfl, ?_⟩) | ((with_reducible refine gate_callee (f := 22) rfl ?_); refine goesL_ (some 31) rfl rfl Try.func22 (by kernel_rfl) rfl #[.string a0] rfl gAr ?_; (with_reducible refine (frame_Wrap.calls k a0 t353 t354 _ A7.out).mono ?_); rintro e w35 ⟨rfl, hb⟩; refine ⟨_, rfl, ?_⟩; have n0_ := Aside0.mk (below_step (bel) hb); clear HB; have HB := n0_; clear n0_; (try clear hb)) | ((with_reducible refine gate_callee (f := 23) rfl ?_); refine goesL_ (some 36) rfl rfl Try.func23 (by kernel_rfl) rfl #[.string a0] rfl gAr ?_; (with_reducible refine (roadbookref18_Wrap.calls k a0 t355 t356 _ A8.out).mono ?_); rintro e w36 ⟨rfl, hb⟩; refine ⟨_, rfl, ?_⟩; have n0_ := Aside0.mk (below_step (bel) hb); clear HB; have HB := n0_; clear n0_; (try clear hb)) | ((with_reducible refine gate_callee (f := 17) rfl ?_); refine goesL_ (some 39) rfl rfl Try.func17 (by kernel_rfl) rfl #[] rfl gAr ?_; (with_reducible refine (roadbooklaw18_awake.calls k  true _ A9.out).mono ?_); rintro e w37 ⟨rfl, hb⟩; refine ⟨_, rfl, ?_⟩; have n0_ := Aside0.mk (below_step (bel) hb); clear HB; have HB := n0_; clear n0_; (try clear hb)))
            go_ret
            exact ⟨rtE, bel⟩
        · rw [if_neg c12] at H
          have c12b0 : (t348 == t351) = false := beq_eq_false_iff_ne.mpr c12
          have c12b1 : (t348 != t351) = true := bne_iff_ne.mpr c12
          obtain rfl := Option.some.inj H
          go_enter Try.func6, Try.ntmps6
          go_wp2_with (first | ((with_reducible refine gate_callee (f := 20) rfl ?_); refine goesL_ (some 19) rfl rfl Try.func20 (by kernel_rfl) rfl #[.string a0] rfl gAr ?_; (with_reducible refine (frame_Body.calls a0 t347 t348 t349 _ A5.out).mono ?_); rintro e w' ⟨rfl, ⟨nd, rfl⟩⟩; refine ⟨_, rfl, ?_⟩) | ((with_reducible refine gate_callee (f := 21) rfl ?_); refine goesL_ (some 25) rfl rfl Try.func21 (by kernel_rfl) rfl #[.string a0] rfl gAr ?_; (with_reducible refine (roadbookref18_Body.calls a0 t350 t351 t352 _ A6.out).mono ?_); rintro e w' ⟨rfl, ⟨nd, rfl⟩⟩; refine ⟨_, rfl, ?_⟩) | ((with_reducible refine gate_callee (f := 22) rfl ?_); refine goesL_ (some 31) rfl rfl Try.func22 (by kernel_rfl) rfl #[.string a0] rfl gAr ?_; (with_reducible refine (frame_Wrap.calls k a0 t353 t354 _ A7.out).mono ?_); rintro e w38 ⟨rfl, hb⟩; refine ⟨_, rfl, ?_⟩; have n0_ := Aside0.mk (below_step (bel) hb); clear HB; have HB := n0_; clear n0_; (try clear hb)) | ((with_reducible refine gate_callee (f := 23) rfl ?_); refine goesL_ (some 36) rfl rfl Try.func23 (by kernel_rfl) rfl #[.string a0] rfl gAr ?_; (with_reducible refine (roadbookref18_Wrap.calls k a0 t355 t356 _ A8.out).mono ?_); rintro e w39 ⟨rfl, hb⟩; refine ⟨_, rfl, ?_⟩; have n0_ := Aside0.mk (below_step (bel) hb); clear HB; have HB := n0_; clear n0_; (try clear hb)) | ((with_reducible refine gate_callee (f := 17) rfl ?_); refine goesL_ (some 39) rfl rfl Try.func17 (by kernel_rfl) rfl #[] rfl gAr ?_; (with_reducible refine (roadbooklaw18_awake.calls k  true _ A9.out).mono ?_); rintro e w40 ⟨rfl, hb⟩; refine ⟨_, rfl, ?_⟩; have n0_ := Aside0.mk (below_step (bel) hb); clear HB; have HB := n0_; clear n0_; (try clear hb)))
          go_ret
          exact ⟨rtE, bel⟩
      · rw [if_neg c11] at H
        have c11b0 : (t347.toList == t350.toList) = false := beq_eq_false_iff_ne.mpr c11
        have c11b1 : (t347.toList != t350.toList) = true := bne_iff_ne.mpr c11
        obtain rfl := Option.some.inj H
        go_enter Try.func6, Try.ntmps6
        go_wp2_with (first | ((with_reducible refine gate_callee (f := 20) rfl ?_); refine goesL_ (some 19) rfl rfl Try.func20 (by kernel_rfl) rfl #[.string a0] rfl gAr ?_; (with_reducible refine (frame_Body.calls a0 t347 t348 t349 _ A5.out).mono ?_); rintro e w' ⟨rfl, ⟨nd, rfl⟩⟩; refine ⟨_, rfl, ?_⟩) | ((with_reducible refine gate_callee (f := 21) rfl ?_); refine goesL_ (some 25) rfl rfl Try.func21 (by kernel_rfl) rfl #[.string a0] rfl gAr ?_; (with_reducible refine (roadbookref18_Body.calls a0 t350 t351 t352 _ A6.out).mono ?_); rintro e w' ⟨rfl, ⟨nd, rfl⟩⟩; refine ⟨_, rfl, ?_⟩) | ((with_reducible refine gate_callee (f := 22) rfl ?_); refine goesL_ (some 31) rfl rfl Try.func22 (by kernel_rfl) rfl #[.string a0] rfl gAr ?_; (with_reducible refine (frame_Wrap.calls k a0 t353 t354 _ A7.out).mono ?_); rintro e w41 ⟨rfl, hb⟩; refine ⟨_, rfl, ?_⟩; have n0_ := Aside0.mk (below_step (bel) hb); clear HB; have HB := n0_; clear n0_; (try clear hb)) | ((with_reducible refine gate_callee (f := 23) rfl ?_); refine goesL_ (some 36) rfl rfl Try.func23 (by kernel_rfl) rfl #[.string a0] rfl gAr ?_; (with_reducible refine (roadbookref18_Wrap.calls k a0 t355 t356 _ A8.out).mono ?_); rintro e w42 ⟨rfl, hb⟩; refine ⟨_, rfl, ?_⟩; have n0_ := Aside0.mk (below_step (bel) hb); clear HB; have HB := n0_; clear n0_; (try clear hb)) | ((with_reducible refine gate_callee (f := 17) rfl ?_); refine goesL_ (some 39) rfl rfl Try.func17 (by kernel_rfl) rfl #[] rfl gAr ?_; (with_reducible refine (roadbooklaw18_awake.calls k  true _ A9.out).mono ?_); rintro e w43 ⟨rfl, hb⟩; refine ⟨_, rfl, ?_⟩; have n0_ := Aside0.mk (below_step (bel) hb); clear HB; have HB := n0_; clear n0_; (try clear hb)))
        go_ret
        exact ⟨rtE, bel⟩
    · replace c10 := Bool.eq_false_iff.mpr c10
      subst c10
      have H1 : (some false) = some r := by rw [if_neg (show ¬ (false = true) by decide)] at H; exact H
      clear H
      have H := H1
      clear H1
      obtain rfl := Option.some.inj H
      go_enter Try.func6, Try.ntmps6
      go_wp2_with (first | ((with_reducible refine gate_callee (f := 20) rfl ?_); refine goesL_ (some 19) rfl rfl Try.func20 (by kernel_rfl) rfl #[.string a0] rfl gAr ?_; (with_reducible refine (frame_Body.calls a0 t347 t348 t349 _ A5.out).mono ?_); rintro e w' ⟨rfl, ⟨nd, rfl⟩⟩; refine ⟨_, rfl, ?_⟩) | ((with_reducible refine gate_callee (f := 21) rfl ?_); refine goesL_ (some 25) rfl rfl Try.func21 (by kernel_rfl) rfl #[.string a0] rfl gAr ?_; (with_reducible refine (roadbookref18_Body.calls a0 t350 t351 t352 _ A6.out).mono ?_); rintro e w' ⟨rfl, ⟨nd, rfl⟩⟩; refine ⟨_, rfl, ?_⟩) | ((with_reducible refine gate_callee (f := 22) rfl ?_); refine goesL_ (some 31) rfl rfl Try.func22 (by kernel_rfl) rfl #[.string a0] rfl gAr ?_; (with_reducible refine (frame_Wrap.calls k a0 t353 t354 _ A7.out).mono ?_); rintro e w44 ⟨rfl, hb⟩; refine ⟨_, rfl, ?_⟩; have n0_ := Aside0.mk (below_step (bel) hb); clear HB; have HB := n0_; clear n0_; (try clear hb)) | ((with_reducible refine gate_callee (f := 23) rfl ?_); refine goesL_ (some 36) rfl rfl Try.func23 (by kernel_rfl) rfl #[.string a0] rfl gAr ?_; (with_reducible refine (roadbookref18_Wrap.calls k a0 t355 t356 _ A8.out).mono ?_); rintro e w45 ⟨rfl, hb⟩; refine ⟨_, rfl, ?_⟩; have n0_ := Aside0.mk (below_step (bel) hb); clear HB; have HB := n0_; clear n0_; (try clear hb)) | ((with_reducible refine gate_callee (f := 17) rfl ?_); refine goesL_ (some 39) rfl rfl Try.func17 (by kernel_rfl) rfl #[] rfl gAr ?_; (with_reducible refine (roadbooklaw18_awake.calls k  false _ A9.out).mono ?_); rintro e w46 ⟨rfl, hb⟩; refine ⟨_, rfl, ?_⟩; have n0_ := Aside0.mk (below_step (bel) hb); clear HB; have HB := n0_; clear n0_; (try clear hb)))
      go_ret
      exact ⟨rtE, bel⟩

/-- THE ONE PURE STATEMENT of roadbooklaw18_FrameBodies. -/
def roadbooklaw18_FrameBodies.Pure : Prop := ∀ (a0 : ByteArray), a0.size ≤ 140737488351232 → ∃ k, roadbooklaw18_FrameBodies.f k a0 = some true
theorem roadbooklaw18_FrameBodies.walk (P : roadbooklaw18_FrameBodies.Pure) (a0 : ByteArray) (w : World) (g0 : a0.size ≤ 140737488351232) :
    Calls Try.prog 6 #[.string a0] w fun e w' => e = .returned (.bool true) ∧ Below w.heap.size w w' := by
  obtain ⟨k, h⟩ := P a0 g0
  refine (roadbooklaw18_FrameBodies.calls k a0 true w h).mono ?_
  rintro e w' ⟨rfl, hd⟩
  exact ⟨rfl, hd⟩

end Go.Proofs.Ytjgnpggpgkkknaa.Pr
