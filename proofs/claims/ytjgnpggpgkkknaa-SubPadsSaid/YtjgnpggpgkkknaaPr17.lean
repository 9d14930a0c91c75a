-- Written by wip/tools/xprint.py of this repo over the kit's printer, out of the translation. Lean checks it.
import Derived.Test.YtjgnpggpgkkknaaPr0
import Derived.Test.YtjgnpggpgkkknaaPr3
import Derived.Test.YtjgnpggpgkkknaaPr16
namespace Go.Proofs.Ytjgnpggpgkkknaa.Pr
open Go.RowKit Go.Proofs.YtjgnpggpgkkknaaW.PrintWords Go.Proofs.YtjgnpggpgkkknaaW.PrintLast
set_option linter.unusedVariables false
set_option linter.unusedSimpArgs false

attribute [local go_sem high] eqA78
/-! ### roadbookref07_subs: function 59 -/
def roadbookref07_subs.l0 : Nat → List (S78) → List (S78) → Int → Option (Bool)
  | 0, _, _, _ => none
  | k + 1, x0, x1, x5 => if x5 < (x0.length : Int) then (if 0 ≤ x5 then (if x5 < (x1.length : Int) then (if (!(((rd_T78 x0 x5).f0) == ((rd_T78 x1 x5).f0)) || (!((((rd_T78 x0 x5).f1).toList) == (((rd_T78 x1 x5).f1).toList)))) = true then (some false) else (roadbookref07_subs.l0 k x0 x1 (wrap64 (x5 + 1)))) else (none)) else (none)) else (some true)
def roadbookref07_subs.f (k : Nat) (l0 : List (S78)) (l1 : List (S78)) : Option (Bool) := if (l0.length : Int) = (l1.length : Int) then (roadbookref07_subs.l0 k l0 l1 0) else (some false)
theorem roadbookref07_subs.mono_l : ∀ k, (∀ y0 y1 y2, LeO (roadbookref07_subs.l0 k y0 y1 y2) (roadbookref07_subs.l0 (k + 1) y0 y1 y2))
  | 0 => fun _ _ _ r h => by simp [roadbookref07_subs.l0] at h
  | k + 1 => by
    have ih0 := roadbookref07_subs.mono_l k
    · intro y0 y1 y2
      unfold roadbookref07_subs.l0
      repeat' first
      | (with_reducible exact ih0 _ _ _)
      | (with_reducible exact LeO.refl _)
      | (with_reducible exact LeO.none _)
      | (with_reducible refine LeO.ite ?_ ?_)
      | (with_reducible refine LeO.bind ?_ (fun _ => ?_))
      | exact ih0 _ _ _
      | exact LeO.none _
      | refine LeO.ite ?_ ?_
      | refine LeO.bind ?_ (fun _ => ?_)
theorem roadbookref07_subs.mono : ∀ a0 a1 k, LeO (roadbookref07_subs.f k a0 a1) (roadbookref07_subs.f (k + 1) a0 a1) := by
  intro a0 a1 k
  have ih0 := roadbookref07_subs.mono_l k
  unfold roadbookref07_subs.f
  repeat' first
      | (with_reducible exact ih0 _ _ _)
      | (with_reducible exact LeO.refl _)
      | (with_reducible exact LeO.none _)
      | (with_reducible refine LeO.ite ?_ ?_)
      | (with_reducible refine LeO.bind ?_ (fun _ => ?_))
      | exact ih0 _ _ _
      | exact LeO.none _
      | refine LeO.ite ?_ ?_
      | refine LeO.bind ?_ (fun _ => ?_)
set_option maxHeartbeats 8000000 in
set_option maxRecDepth 100000 in
theorem roadbookref07_subs.calls (k : Nat) (A0 : Option Addr) (c0 : Nat) (l0 : List (S78)) (A1 : Option Addr) (c1 : Nat) (l1 : List (S78)) (r : Bool) (w : World) (hr0 : Kd.C k78 w A0 l0.length l0) (hc0 : l0.length ≤ c0) (hr1 : Kd.C k78 w A1 l1.length l1) (hc1 : l1.length ≤ c1) (h : roadbookref07_subs.f k l0 l1 = some r) :
    Calls Try.prog 59 #[.slice A0 l0.length c0, .slice A1 l1.length c1] w fun e w' => e = .returned (.bool r) ∧ Drawn0 w w' := by
  have hu78 := Try.underlying78
  have HR0 := Aside0.mk hr0
  have HC0 := Aside0.mk hc0
  clear hr0 hc0
  have HR1 := Aside0.mk hr1
  have HC1 := Aside0.mk hc1
  clear hr1 hc1
  have H : (if (l0.length : Int) = (l1.length : Int) then (roadbookref07_subs.l0 k l0 l1 0) else (some false)) = some r := h
  clear h
  by_cases c3 : (l0.length : Int) = (l1.length : Int)
  · rw [if_pos c3] at H
    have c3b0 : ((l0.length : Int) == (l1.length : Int)) = true := beq_iff_eq.mpr c3
    have c3b1 : ((l0.length : Int) != (l1.length : Int)) = false := bne_eq_false_iff_eq.mpr c3
    have c3b2 : (l0.length == l1.length) = true := by first | simpa using c3 | (simp at c3 ⊢; omega)
    clear c3
    have H' := Aside0.mk H
    clear H
    go_enter Try.func59, Try.ntmps59
    go_wp2
    repeat (go_quiet (fail); try go_wp2)
    go_loopg [5] k (fun kq v5 w' => ∃ (x5_1 : Int), v5 = .int .i64 x5_1 ∧ Aside0 (roadbookref07_subs.l0 kq l0 l1 x5_1 = some r) ∧ Aside0 (kq ≤ k) ∧ Drawn0 w w')
    case atStart => exact ⟨(0), rfS, H', ⟨Nat.le_refl _⟩, by repeat (first | exact Drawn0.refl _ | apply Drawn0.step)⟩
    case round =>
      clear H'
      try clear c1
      try clear c3
      try clear c3b0
      try clear c3b1
      try clear c3b2
      obtain ⟨x5_1, rfl, HA, HK1, ⟨m1, rfl⟩⟩ := hrel
      cases gk with
      | zero => exact absurd HA.out (by simp [roadbookref07_subs.l0])
      | succ k1 =>
        have H := HA.out
        clear HA
        simp only [roadbookref07_subs.l0] at H
        by_cases c4 : x5_1 < (l0.length : Int)
        · rw [if_pos c4] at H
          have c4b0 : decide (x5_1 < (l0.length : Int)) = true := decide_eq_true c4
          clear c4
          by_cases c5 : 0 ≤ x5_1
          · rw [if_pos c5] at H
            have c5b0 : decide (0 ≤ x5_1) = true := decide_eq_true c5
            clear c5
            by_cases c6 : x5_1 < (l1.length : Int)
            · rw [if_pos c6] at H
              have c6b0 : decide (x5_1 < (l1.length : Int)) = true := decide_eq_true c6
              clear c6
              by_cases c7 : (!(((rd_T78 l0 x5_1).f0) == ((rd_T78 l1 x5_1).f0)) || (!((((rd_T78 l0 x5_1).f1).toList) == (((rd_T78 l1 x5_1).f1).toList)))) = true
              · rw [if_pos c7] at H
                have c7b0 : (!(((rd_T78 l0 x5_1).f0) == ((rd_T78 l1 x5_1).f0)) || (!((((rd_T78 l0 x5_1).f1).toList) == (((rd_T78 l1 x5_1).f1).toList)))) = true := c7
                clear c7
                obtain rfl := Option.some.inj H
                have p480 : 0 ≤ (x5_1 : Int) := odt
                have q480 : x5_1 < (l0.length : Int) := odt
                obtain ⟨ad480, e480, hx480_0, hx480_1⟩ := at_T78 HR0.out x5_1 p480 q480
                cases e480
                replace p480 := eq_true p480
                replace q480 := eq_true q480
                have p481 : 0 ≤ (x5_1 : Int) := odt
                have q481 : x5_1 < (l1.length : Int) := odt
                obtain ⟨ad481, e481, hx481_0, hx481_1⟩ := at_T78 HR1.out x5_1 p481 q481
                cases e481
                replace p481 := eq_true p481
                replace q481 := eq_true q481
                go_wp2
                repeat (go_quiet (fail); try go_wp2)
                go_ret
                exact ⟨rfS, by repeat (first | exact Drawn0.refl _ | apply Drawn0.step)⟩
              · rw [if_neg c7] at H
                have c7b0 : (!(((rd_T78 l0 x5_1).f0) == ((rd_T78 l1 x5_1).f0)) || (!((((rd_T78 l0 x5_1).f1).toList) == (((rd_T78 l1 x5_1).f1).toList)))) = false := by simpa using c7
                clear c7
                have H' := Aside0.mk H
                clear H
                have p480 : 0 ≤ (x5_1 : Int) := odt
                have q480 : x5_1 < (l0.length : Int) := odt
                obtain ⟨ad480, e480, hx480_0, hx480_1⟩ := at_T78 HR0.out x5_1 p480 q480
                cases e480
                replace p480 := eq_true p480
                replace q480 := eq_true q480
                have p481 : 0 ≤ (x5_1 : Int) := odt
                have q481 : x5_1 < (l1.length : Int) := odt
                obtain ⟨ad481, e481, hx481_0, hx481_1⟩ := at_T78 HR1.out x5_1 p481 q481
                cases e481
                replace p481 := eq_true p481
                replace q481 := eq_true q481
                go_wp2
                repeat (go_quiet (fail); try go_wp2)
                go_roundg k1
                case measure => have := HK1.out; omega
                case rel => exact ⟨(wrap64 (x5_1 + 1)), rfS, H', ⟨by have := HK1.out; omega⟩, by repeat (first | exact Drawn0.refl _ | apply Drawn0.step)⟩
            · rw [if_neg c6] at H
              exact absurd H (by simp)
          · rw [if_neg c5] at H
            exact absurd H (by simp)
        · rw [if_neg c4] at H
          have c4b0 : decide (x5_1 < (l0.length : Int)) = false := decide_eq_false c4
          clear c4
          obtain rfl := Option.some.inj H
          go_wp2
          repeat (go_quiet (fail); try go_wp2)
          go_ret
          exact ⟨rfS, by repeat (first | exact Drawn0.refl _ | apply Drawn0.step)⟩
  · rw [if_neg c3] at H
    have c3b0 : ((l0.length : Int) == (l1.length : Int)) = false := beq_eq_false_iff_ne.mpr c3
    have c3b1 : ((l0.length : Int) != (l1.length : Int)) = true := bne_iff_ne.mpr c3
    have c3b2 : (l0.length == l1.length) = false := by first | simpa using c3 | (simp at c3 ⊢; omega)
    obtain rfl := Option.some.inj H
    go_enter Try.func59, Try.ntmps59
    go_wp2
    repeat (go_quiet (fail); try go_wp2)
    go_ret
    exact ⟨rfS, by repeat (first | exact Drawn0.refl _ | apply Drawn0.step)⟩

/-! ### roadbookref07_Same: function 54 -/
mutual
def roadbookref07_Same.j0 : Nat → Bool → Int → Int → Int → ByteArray → Int → Int → ByteArray → Int → Int → ByteArray → Int → ByteArray → Int → Int → Int → Int → Int → Int → Int → ByteArray → ByteArray → List (S88) → Int → ByteArray → List (S78) → Int → Int → Int → ByteArray → Int → Int → ByteArray → Int → Int → ByteArray → Int → ByteArray → Int → Int → Int → Int → Int → Int → Int → ByteArray → ByteArray → List (S88) → Int → ByteArray → List (S78) → Option (Bool)
  | 0, _, _, _, _, _, _, _, _, _, _, _, _, _, _, _, _, _, _, _, _, _, _, _, _, _, _, _, _, _, _, _, _, _, _, _, _, _, _, _, _, _, _, _, _, _, _, _, _, _, _, _ => none
  | k + 1, x79, x483000, x483001, x483002, x483003, x483004, x483005, x483006, x483007, x483008, x483009, x483010, x483011, x483012, x483013, x483014, x483015, x483016, x483017, x483018, x483019, x483020, x483021, x483022, x483023, x483024, x484000, x484001, x484002, x484003, x484004, x484005, x484006, x484007, x484008, x484009, x484010, x484011, x484012, x484013, x484014, x484015, x484016, x484017, x484018, x484019, x484020, x484021, x484022, x484023, x484024 => if x79 = true then (some false) else (if x483011.toList = x484011.toList then (if x483012 = x484012 then (if x483013 = x484013 then (if x483014 = x484014 then (if x483015 = x484015 then (if x483016 = x484016 then (if x483017 = x484017 then (if x483018 = x484018 then (if x483019.toList = x484019.toList then (if x483020.toList = x484020.toList then (if x483022 = x484022 then (roadbookref07_Same.j1 k (x483023.toList != x484023.toList) x483000 x483001 x483002 x483003 x483004 x483005 x483006 x483007 x483008 x483009 x483010 x483011 x483012 x483013 x483014 x483015 x483016 x483017 x483018 x483019 x483020 x483021 x483022 x483023 x483024 x484000 x484001 x484002 x484003 x484004 x484005 x484006 x484007 x484008 x484009 x484010 x484011 x484012 x484013 x484014 x484015 x484016 x484017 x484018 x484019 x484020 x484021 x484022 x484023 x484024) else (roadbookref07_Same.j1 k true x483000 x483001 x483002 x483003 x483004 x483005 x483006 x483007 x483008 x483009 x483010 x483011 x483012 x483013 x483014 x483015 x483016 x483017 x483018 x483019 x483020 x483021 x483022 x483023 x483024 x484000 x484001 x484002 x484003 x484004 x484005 x484006 x484007 x484008 x484009 x484010 x484011 x484012 x484013 x484014 x484015 x484016 x484017 x484018 x484019 x484020 x484021 x484022 x484023 x484024)) else (roadbookref07_Same.j1 k true x483000 x483001 x483002 x483003 x483004 x483005 x483006 x483007 x483008 x483009 x483010 x483011 x483012 x483013 x483014 x483015 x483016 x483017 x483018 x483019 x483020 x483021 x483022 x483023 x483024 x484000 x484001 x484002 x484003 x484004 x484005 x484006 x484007 x484008 x484009 x484010 x484011 x484012 x484013 x484014 x484015 x484016 x484017 x484018 x484019 x484020 x484021 x484022 x484023 x484024)) else (roadbookref07_Same.j1 k true x483000 x483001 x483002 x483003 x483004 x483005 x483006 x483007 x483008 x483009 x483010 x483011 x483012 x483013 x483014 x483015 x483016 x483017 x483018 x483019 x483020 x483021 x483022 x483023 x483024 x484000 x484001 x484002 x484003 x484004 x484005 x484006 x484007 x484008 x484009 x484010 x484011 x484012 x484013 x484014 x484015 x484016 x484017 x484018 x484019 x484020 x484021 x484022 x484023 x484024)) else (roadbookref07_Same.j1 k true x483000 x483001 x483002 x483003 x483004 x483005 x483006 x483007 x483008 x483009 x483010 x483011 x483012 x483013 x483014 x483015 x483016 x483017 x483018 x483019 x483020 x483021 x483022 x483023 x483024 x484000 x484001 x484002 x484003 x484004 x484005 x484006 x484007 x484008 x484009 x484010 x484011 x484012 x484013 x484014 x484015 x484016 x484017 x484018 x484019 x484020 x484021 x484022 x484023 x484024)) else (roadbookref07_Same.j1 k true x483000 x483001 x483002 x483003 x483004 x483005 x483006 x483007 x483008 x483009 x483010 x483011 x483012 x483013 x483014 x483015 x483016 x483017 x483018 x483019 x483020 x483021 x483022 x483023 x483024 x484000 x484001 x484002 x484003 x484004 x484005 x484006 x484007 x484008 x484009 x484010 x484011 x484012 x484013 x484014 x484015 x484016 x484017 x484018 x484019 x484020 x484021 x484022 x484023 x484024)) else (roadbookref07_Same.j1 k true x483000 x483001 x483002 x483003 x483004 x483005 x483006 x483007 x483008 x483009 x483010 x483011 x483012 x483013 x483014 x483015 x483016 x483017 x483018 x483019 x483020 x483021 x483022 x483023 x483024 x484000 x484001 x484002 x484003 x484004 x484005 x484006 x484007 x484008 x484009 x484010 x484011 x484012 x484013 x484014 x484015 x484016 x484017 x484018 x484019 x484020 x484021 x484022 x484023 x484024)) else (roadbookref07_Same.j1 k true x483000 x483001 x483002 x483003 x483004 x483005 x483006 x483007 x483008 x483009 x483010 x483011 x483012 x483013 x483014 x483015 x483016 x483017 x483018 x483019 x483020 x483021 x483022 x483023 x483024 x484000 x484001 x484002 x484003 x484004 x484005 x484006 x484007 x484008 x484009 x484010 x484011 x484012 x484013 x484014 x484015 x484016 x484017 x484018 x484019 x484020 x484021 x484022 x484023 x484024)) else (roadbookref07_Same.j1 k true x483000 x483001 x483002 x483003 x483004 x483005 x483006 x483007 x483008 x483009 x483010 x483011 x483012 x483013 x483014 x483015 x483016 x483017 x483018 x483019 x483020 x483021 x483022 x483023 x483024 x484000 x484001 x484002 x484003 x484004 x484005 x484006 x484007 x484008 x484009 x484010 x484011 x484012 x484013 x484014 x484015 x484016 x484017 x484018 x484019 x484020 x484021 x484022 x484023 x484024)) else (roadbookref07_Same.j1 k true x483000 x483001 x483002 x483003 x483004 x483005 x483006 x483007 x483008 x483009 x483010 x483011 x483012 x483013 x483014 x483015 x483016 x483017 x483018 x483019 x483020 x483021 x483022 x483023 x483024 x484000 x484001 x484002 x484003 x484004 x484005 x484006 x484007 x484008 x484009 x484010 x484011 x484012 x484013 x484014 x484015 x484016 x484017 x484018 x484019 x484020 x484021 x484022 x484023 x484024)) else (roadbookref07_Same.j1 k true x483000 x483001 x483002 x483003 x483004 x483005 x483006 x483007 x483008 x483009 x483010 x483011 x483012 x483013 x483014 x483015 x483016 x483017 x483018 x483019 x483020 x483021 x483022 x483023 x483024 x484000 x484001 x484002 x484003 x484004 x484005 x484006 x484007 x484008 x484009 x484010 x484011 x484012 x484013 x484014 x484015 x484016 x484017 x484018 x484019 x484020 x484021 x484022 x484023 x484024)) else (roadbookref07_Same.j1 k true x483000 x483001 x483002 x483003 x483004 x483005 x483006 x483007 x483008 x483009 x483010 x483011 x483012 x483013 x483014 x483015 x483016 x483017 x483018 x483019 x483020 x483021 x483022 x483023 x483024 x484000 x484001 x484002 x484003 x484004 x484005 x484006 x484007 x484008 x484009 x484010 x484011 x484012 x484013 x484014 x484015 x484016 x484017 x484018 x484019 x484020 x484021 x484022 x484023 x484024))
def roadbookref07_Same.j1 : Nat → Bool → Int → Int → Int → ByteArray → Int → Int → ByteArray → Int → Int → ByteArray → Int → ByteArray → Int → Int → Int → Int → Int → Int → Int → ByteArray → ByteArray → List (S88) → Int → ByteArray → List (S78) → Int → Int → Int → ByteArray → Int → Int → ByteArray → Int → Int → ByteArray → Int → ByteArray → Int → Int → Int → Int → Int → Int → Int → ByteArray → ByteArray → List (S88) → Int → ByteArray → List (S78) → Option (Bool)
  | 0, _, _, _, _, _, _, _, _, _, _, _, _, _, _, _, _, _, _, _, _, _, _, _, _, _, _, _, _, _, _, _, _, _, _, _, _, _, _, _, _, _, _, _, _, _, _, _, _, _, _, _ => none
  | k + 1, x161, x483000, x483001, x483002, x483003, x483004, x483005, x483006, x483007, x483008, x483009, x483010, x483011, x483012, x483013, x483014, x483015, x483016, x483017, x483018, x483019, x483020, x483021, x483022, x483023, x483024, x484000, x484001, x484002, x484003, x484004, x484005, x484006, x484007, x484008, x484009, x484010, x484011, x484012, x484013, x484014, x484015, x484016, x484017, x484018, x484019, x484020, x484021, x484022, x484023, x484024 => if x161 = true then (some false) else ((roadbookref07_dests.f k x483021 x484021).bind fun t484 => (if t484 = true then ((roadbookref07_subs.f k x483024 x484024).bind fun t485 => (some t485)) else (some false)))
end
def roadbookref07_Same.f (k : Nat) (a0_0 : Int) (a0_1 : Int) (a0_2 : Int) (a0_3 : ByteArray) (a0_4 : Int) (a0_5 : Int) (a0_6 : ByteArray) (a0_7 : Int) (a0_8 : Int) (a0_9 : ByteArray) (a0_10 : Int) (a0_11 : ByteArray) (a0_12 : Int) (a0_13 : Int) (a0_14 : Int) (a0_15 : Int) (a0_16 : Int) (a0_17 : Int) (a0_18 : Int) (a0_19 : ByteArray) (a0_20 : ByteArray) (l0_21 : List (S88)) (a0_22 : Int) (a0_23 : ByteArray) (l0_24 : List (S78)) (a1_0 : Int) (a1_1 : Int) (a1_2 : Int) (a1_3 : ByteArray) (a1_4 : Int) (a1_5 : Int) (a1_6 : ByteArray) (a1_7 : Int) (a1_8 : Int) (a1_9 : ByteArray) (a1_10 : Int) (a1_11 : ByteArray) (a1_12 : Int) (a1_13 : Int) (a1_14 : Int) (a1_15 : Int) (a1_16 : Int) (a1_17 : Int) (a1_18 : Int) (a1_19 : ByteArray) (a1_20 : ByteArray) (l1_21 : List (S88)) (a1_22 : Int) (a1_23 : ByteArray) (l1_24 : List (S78)) : Option (Bool) := if a0_0 = a1_0 then (if a0_1 = a1_1 then (if a0_2 = a1_2 then (if a0_3.toList = a1_3.toList then (if a0_4 = a1_4 then (if a0_5 = a1_5 then (if a0_6.toList = a1_6.toList then (if a0_7 = a1_7 then (if a0_8 = a1_8 then (if a0_9.toList = a1_9.toList then (roadbookref07_Same.j0 k (a0_10 != a1_10) a0_0 a0_1 a0_2 a0_3 a0_4 a0_5 a0_6 a0_7 a0_8 a0_9 a0_10 a0_11 a0_12 a0_13 a0_14 a0_15 a0_16 a0_17 a0_18 a0_19 a0_20 l0_21 a0_22 a0_23 l0_24 a1_0 a1_1 a1_2 a1_3 a1_4 a1_5 a1_6 a1_7 a1_8 a1_9 a1_10 a1_11 a1_12 a1_13 a1_14 a1_15 a1_16 a1_17 a1_18 a1_19 a1_20 l1_21 a1_22 a1_23 l1_24) else (roadbookref07_Same.j0 k true a0_0 a0_1 a0_2 a0_3 a0_4 a0_5 a0_6 a0_7 a0_8 a0_9 a0_10 a0_11 a0_12 a0_13 a0_14 a0_15 a0_16 a0_17 a0_18 a0_19 a0_20 l0_21 a0_22 a0_23 l0_24 a1_0 a1_1 a1_2 a1_3 a1_4 a1_5 a1_6 a1_7 a1_8 a1_9 a1_10 a1_11 a1_12 a1_13 a1_14 a1_15 a1_16 a1_17 a1_18 a1_19 a1_20 l1_21 a1_22 a1_23 l1_24)) else (roadbookref07_Same.j0 k true a0_0 a0_1 a0_2 a0_3 a0_4 a0_5 a0_6 a0_7 a0_8 a0_9 a0_10 a0_11 a0_12 a0_13 a0_14 a0_15 a0_16 a0_17 a0_18 a0_19 a0_20 l0_21 a0_22 a0_23 l0_24 a1_0 a1_1 a1_2 a1_3 a1_4 a1_5 a1_6 a1_7 a1_8 a1_9 a1_10 a1_11 a1_12 a1_13 a1_14 a1_15 a1_16 a1_17 a1_18 a1_19 a1_20 l1_21 a1_22 a1_23 l1_24)) else (roadbookref07_Same.j0 k true a0_0 a0_1 a0_2 a0_3 a0_4 a0_5 a0_6 a0_7 a0_8 a0_9 a0_10 a0_11 a0_12 a0_13 a0_14 a0_15 a0_16 a0_17 a0_18 a0_19 a0_20 l0_21 a0_22 a0_23 l0_24 a1_0 a1_1 a1_2 a1_3 a1_4 a1_5 a1_6 a1_7 a1_8 a1_9 a1_10 a1_11 a1_12 a1_13 a1_14 a1_15 a1_16 a1_17 a1_18 a1_19 a1_20 l1_21 a1_22 a1_23 l1_24)) else (roadbookref07_Same.j0 k true a0_0 a0_1 a0_2 a0_3 a0_4 a0_5 a0_6 a0_7 a0_8 a0_9 a0_10 a0_11 a0_12 a0_13 a0_14 a0_15 a0_16 a0_17 a0_18 a0_19 a0_20 l0_21 a0_22 a0_23 l0_24 a1_0 a1_1 a1_2 a1_3 a1_4 a1_5 a1_6 a1_7 a1_8 a1_9 a1_10 a1_11 a1_12 a1_13 a1_14 a1_15 a1_16 a1_17 a1_18 a1_19 a1_20 l1_21 a1_22 a1_23 l1_24)) else (roadbookref07_Same.j0 k true a0_0 a0_1 a0_2 a0_3 a0_4 a0_5 a0_6 a0_7 a0_8 a0_9 a0_10 a0_11 a0_12 a0_13 a0_14 a0_15 a0_16 a0_17 a0_18 a0_19 a0_20 l0_21 a0_22 a0_23 l0_24 a1_0 a1_1 a1_2 a1_3 a1_4 a1_5 a1_6 a1_7 a1_8 a1_9 a1_10 a1_11 a1_12 a1_13 a1_14 a1_15 a1_16 a1_17 a1_18 a1_19 a1_20 l1_21 a1_22 a1_23 l1_24)) else (roadbookref07_Same.j0 k true a0_0 a0_1 a0_2 a0_3 a0_4 a0_5 a0_6 a0_7 a0_8 a0_9 a0_10 a0_11 a0_12 a0_13 a0_14 a0_15 a0_16 a0_17 a0_18 a0_19 a0_20 l0_21 a0_22 a0_23 l0_24 a1_0 a1_1 a1_2 a1_3 a1_4 a1_5 a1_6 a1_7 a1_8 a1_9 a1_10 a1_11 a1_12 a1_13 a1_14 a1_15 a1_16 a1_17 a1_18 a1_19 a1_20 l1_21 a1_22 a1_23 l1_24)) else (roadbookref07_Same.j0 k true a0_0 a0_1 a0_2 a0_3 a0_4 a0_5 a0_6 a0_7 a0_8 a0_9 a0_10 a0_11 a0_12 a0_13 a0_14 a0_15 a0_16 a0_17 a0_18 a0_19 a0_20 l0_21 a0_22 a0_23 l0_24 a1_0 a1_1 a1_2 a1_3 a1_4 a1_5 a1_6 a1_7 a1_8 a1_9 a1_10 a1_11 a1_12 a1_13 a1_14 a1_15 a1_16 a1_17 a1_18 a1_19 a1_20 l1_21 a1_22 a1_23 l1_24)) else (roadbookref07_Same.j0 k true a0_0 a0_1 a0_2 a0_3 a0_4 a0_5 a0_6 a0_7 a0_8 a0_9 a0_10 a0_11 a0_12 a0_13 a0_14 a0_15 a0_16 a0_17 a0_18 a0_19 a0_20 l0_21 a0_22 a0_23 l0_24 a1_0 a1_1 a1_2 a1_3 a1_4 a1_5 a1_6 a1_7 a1_8 a1_9 a1_10 a1_11 a1_12 a1_13 a1_14 a1_15 a1_16 a1_17 a1_18 a1_19 a1_20 l1_21 a1_22 a1_23 l1_24)) else (roadbookref07_Same.j0 k true a0_0 a0_1 a0_2 a0_3 a0_4 a0_5 a0_6 a0_7 a0_8 a0_9 a0_10 a0_11 a0_12 a0_13 a0_14 a0_15 a0_16 a0_17 a0_18 a0_19 a0_20 l0_21 a0_22 a0_23 l0_24 a1_0 a1_1 a1_2 a1_3 a1_4 a1_5 a1_6 a1_7 a1_8 a1_9 a1_10 a1_11 a1_12 a1_13 a1_14 a1_15 a1_16 a1_17 a1_18 a1_19 a1_20 l1_21 a1_22 a1_23 l1_24)) else (roadbookref07_Same.j0 k true a0_0 a0_1 a0_2 a0_3 a0_4 a0_5 a0_6 a0_7 a0_8 a0_9 a0_10 a0_11 a0_12 a0_13 a0_14 a0_15 a0_16 a0_17 a0_18 a0_19 a0_20 l0_21 a0_22 a0_23 l0_24 a1_0 a1_1 a1_2 a1_3 a1_4 a1_5 a1_6 a1_7 a1_8 a1_9 a1_10 a1_11 a1_12 a1_13 a1_14 a1_15 a1_16 a1_17 a1_18 a1_19 a1_20 l1_21 a1_22 a1_23 l1_24)
theorem roadbookref07_Same.mono_l : ∀ k, (∀ y0 y1 y2 y3 y4 y5 y6 y7 y8 y9 y10 y11 y12 y13 y14 y15 y16 y17 y18 y19 y20 y21 y22 y23 y24 y25 y26 y27 y28 y29 y30 y31 y32 y33 y34 y35 y36 y37 y38 y39 y40 y41 y42 y43 y44 y45 y46 y47 y48 y49 y50, LeO (roadbookref07_Same.j0 k y0 y1 y2 y3 y4 y5 y6 y7 y8 y9 y10 y11 y12 y13 y14 y15 y16 y17 y18 y19 y20 y21 y22 y23 y24 y25 y26 y27 y28 y29 y30 y31 y32 y33 y34 y35 y36 y37 y38 y39 y40 y41 y42 y43 y44 y45 y46 y47 y48 y49 y50) (roadbookref07_Same.j0 (k + 1) y0 y1 y2 y3 y4 y5 y6 y7 y8 y9 y10 y11 y12 y13 y14 y15 y16 y17 y18 y19 y20 y21 y22 y23 y24 y25 y26 y27 y28 y29 y30 y31 y32 y33 y34 y35 y36 y37 y38 y39 y40 y41 y42 y43 y44 y45 y46 y47 y48 y49 y50)) ∧ (∀ y0 y1 y2 y3 y4 y5 y6 y7 y8 y9 y10 y11 y12 y13 y14 y15 y16 y17 y18 y19 y20 y21 y22 y23 y24 y25 y26 y27 y28 y29 y30 y31 y32 y33 y34 y35 y36 y37 y38 y39 y40 y41 y42 y43 y44 y45 y46 y47 y48 y49 y50, LeO (roadbookref07_Same.j1 k y0 y1 y2 y3 y4 y5 y6 y7 y8 y9 y10 y11 y12 y13 y14 y15 y16 y17 y18 y19 y20 y21 y22 y23 y24 y25 y26 y27 y28 y29 y30 y31 y32 y33 y34 y35 y36 y37 y38 y39 y40 y41 y42 y43 y44 y45 y46 y47 y48 y49 y50) (roadbookref07_Same.j1 (k + 1) y0 y1 y2 y3 y4 y5 y6 y7 y8 y9 y10 y11 y12 y13 y14 y15 y16 y17 y18 y19 y20 y21 y22 y23 y24 y25 y26 y27 y28 y29 y30 y31 y32 y33 y34 y35 y36 y37 y38 y39 y40 y41 y42 y43 y44 y45 y46 y47 y48 y49 y50))
  | 0 => ⟨fun _ _ _ _ _ _ _ _ _ _ _ _ _ _ _ _ _ _ _ _ _ _ _ _ _ _ _ _ _ _ _ _ _ _ _ _ _ _ _ _ _ _ _ _ _ _ _ _ _ _ _ r h => by simp [roadbookref07_Same.j0] at h, fun _ _ _ _ _ _ _ _ _ _ _ _ _ _ _ _ _ _ _ _ _ _ _ _ _ _ _ _ _ _ _ _ _ _ _ _ _ _ _ _ _ _ _ _ _ _ _ _ _ _ _ r h => by simp [roadbookref07_Same.j1] at h⟩
  | k + 1 => by
    obtain ⟨ih0, ih1⟩ := roadbookref07_Same.mono_l k
    refine ⟨?_, ?_⟩
    · intro y0 y1 y2 y3 y4 y5 y6 y7 y8 y9 y10 y11 y12 y13 y14 y15 y16 y17 y18 y19 y20 y21 y22 y23 y24 y25 y26 y27 y28 y29 y30 y31 y32 y33 y34 y35 y36 y37 y38 y39 y40 y41 y42 y43 y44 y45 y46 y47 y48 y49 y50
      unfold roadbookref07_Same.j0
      repeat' first
      | (with_reducible exact ih0 _ _ _ _ _ _ _ _ _ _ _ _ _ _ _ _ _ _ _ _ _ _ _ _ _ _ _ _ _ _ _ _ _ _ _ _ _ _ _ _ _ _ _ _ _ _ _ _ _ _ _)
      | (with_reducible exact ih1 _ _ _ _ _ _ _ _ _ _ _ _ _ _ _ _ _ _ _ _ _ _ _ _ _ _ _ _ _ _ _ _ _ _ _ _ _ _ _ _ _ _ _ _ _ _ _ _ _ _ _)
      | (with_reducible exact roadbookref07_dests.mono _ _ _)
      | (with_reducible exact roadbookref07_subs.mono _ _ _)
      | (with_reducible exact LeO.refl _)
      | (with_reducible exact LeO.none _)
      | (with_reducible refine LeO.ite ?_ ?_)
      | (with_reducible refine LeO.bind ?_ (fun _ => ?_))
      | exact ih0 _ _ _ _ _ _ _ _ _ _ _ _ _ _ _ _ _ _ _ _ _ _ _ _ _ _ _ _ _ _ _ _ _ _ _ _ _ _ _ _ _ _ _ _ _ _ _ _ _ _ _
      | exact ih1 _ _ _ _ _ _ _ _ _ _ _ _ _ _ _ _ _ _ _ _ _ _ _ _ _ _ _ _ _ _ _ _ _ _ _ _ _ _ _ _ _ _ _ _ _ _ _ _ _ _ _
      | exact roadbookref07_dests.mono _ _ _
      | exact roadbookref07_subs.mono _ _ _
      | exact LeO.none _
      | refine LeO.ite ?_ ?_
      | refine LeO.bind ?_ (fun _ => ?_)
    · intro y0 y1 y2 y3 y4 y5 y6 y7 y8 y9 y10 y11 y12 y13 y14 y15 y16 y17 y18 y19 y20 y21 y22 y23 y24 y25 y26 y27 y28 y29 y30 y31 y32 y33 y34 y35 y36 y37 y38 y39 y40 y41 y42 y43 y44 y45 y46 y47 y48 y49 y50
      unfold roadbookref07_Same.j1
      repeat' first
      | (with_reducible exact ih0 _ _ _ _ _ _ _ _ _ _ _ _ _ _ _ _ _ _ _ _ _ _ _ _ _ _ _ _ _ _ _ _ _ _ _ _ _ _ _ _ _ _ _ _ _ _ _ _ _ _ _)
      | (with_reducible exact ih1 _ _ _ _ _ _ _ _ _ _ _ _ _ _ _ _ _ _ _ _ _ _ _ _ _ _ _ _ _ _ _ _ _ _ _ _ _ _ _ _ _ _ _ _ _ _ _ _ _ _ _)
      | (with_reducible exact roadbookref07_dests.mono _ _ _)
      | (with_reducible exact roadbookref07_subs.mono _ _ _)
      | (with_reducible exact LeO.refl _)
      | (with_reducible exact LeO.none _)
      | (with_reducible refine LeO.ite ?_ ?_)
      | (with_reducible refine LeO.bind ?_ (fun _ => ?_))
      | exact ih0 _ _ _ _ _ _ _ _ _ _ _ _ _ _ _ _ _ _ _ _ _ _ _ _ _ _ _ _ _ _ _ _ _ _ _ _ _ _ _ _ _ _ _ _ _ _ _ _ _ _ _
      | exact ih1 _ _ _ _ _ _ _ _ _ _ _ _ _ _ _ _ _ _ _ _ _ _ _ _ _ _ _ _ _ _ _ _ _ _ _ _ _ _ _ _ _ _ _ _ _ _ _ _ _ _ _
      | exact roadbookref07_dests.mono _ _ _
      | exact roadbookref07_subs.mono _ _ _
      | exact LeO.none _
      | refine LeO.ite ?_ ?_
      | refine LeO.bind ?_ (fun _ => ?_)
theorem roadbookref07_Same.mono : ∀ a0 a1 a2 a3 a4 a5 a6 a7 a8 a9 a10 a11 a12 a13 a14 a15 a16 a17 a18 a19 a20 a21 a22 a23 a24 a25 a26 a27 a28 a29 a30 a31 a32 a33 a34 a35 a36 a37 a38 a39 a40 a41 a42 a43 a44 a45 a46 a47 a48 a49 k, LeO (roadbookref07_Same.f k a0 a1 a2 a3 a4 a5 a6 a7 a8 a9 a10 a11 a12 a13 a14 a15 a16 a17 a18 a19 a20 a21 a22 a23 a24 a25 a26 a27 a28 a29 a30 a31 a32 a33 a34 a35 a36 a37 a38 a39 a40 a41 a42 a43 a44 a45 a46 a47 a48 a49) (roadbookref07_Same.f (k + 1) a0 a1 a2 a3 a4 a5 a6 a7 a8 a9 a10 a11 a12 a13 a14 a15 a16 a17 a18 a19 a20 a21 a22 a23 a24 a25 a26 a27 a28 a29 a30 a31 a32 a33 a34 a35 a36 a37 a38 a39 a40 a41 a42 a43 a44 a45 a46 a47 a48 a49) := by
  intro a0 a1 a2 a3 a4 a5 a6 a7 a8 a9 a10 a11 a12 a13 a14 a15 a16 a17 a18 a19 a20 a21 a22 a23 a24 a25 a26 a27 a28 a29 a30 a31 a32 a33 a34 a35 a36 a37 a38 a39 a40 a41 a42 a43 a44 a45 a46 a47 a48 a49 k
  obtain ⟨ih0, ih1⟩ := roadbookref07_Same.mono_l k
  unfold roadbookref07_Same.f
  repeat' first
      | (with_reducible exact ih0 _ _ _ _ _ _ _ _ _ _ _ _ _ _ _ _ _ _ _ _ _ _ _ _ _ _ _ _ _ _ _ _ _ _ _ _ _ _ _ _ _ _ _ _ _ _ _ _ _ _ _)
      | (with_reducible exact ih1 _ _ _ _ _ _ _ _ _ _ _ _ _ _ _ _ _ _ _ _ _ _ _ _ _ _ _ _ _ _ _ _ _ _ _ _ _ _ _ _ _ _ _ _ _ _ _ _ _ _ _)
      | (with_reducible exact roadbookref07_dests.mono _ _ _)
      | (with_reducible exact roadbookref07_subs.mono _ _ _)
      | (with_reducible exact LeO.refl _)
      | (with_reducible exact LeO.none _)
      | (with_reducible refine LeO.ite ?_ ?_)
      | (with_reducible refine LeO.bind ?_ (fun _ => ?_))
      | exact ih0 _ _ _ _ _ _ _ _ _ _ _ _ _ _ _ _ _ _ _ _ _ _ _ _ _ _ _ _ _ _ _ _ _ _ _ _ _ _ _ _ _ _ _ _ _ _ _ _ _ _ _
      | exact ih1 _ _ _ _ _ _ _ _ _ _ _ _ _ _ _ _ _ _ _ _ _ _ _ _ _ _ _ _ _ _ _ _ _ _ _ _ _ _ _ _ _ _ _ _ _ _ _ _ _ _ _
      | exact roadbookref07_dests.mono _ _ _
      | exact roadbookref07_subs.mono _ _ _
      | exact LeO.none _
      | refine LeO.ite ?_ ?_
      | refine LeO.bind ?_ (fun _ => ?_)
set_option maxHeartbeats 8000000 in
set_option maxRecDepth 100000 in
theorem roadbookref07_Same.calls (k : Nat) (a0_0 : Int) (a0_1 : Int) (a0_2 : Int) (a0_3 : ByteArray) (a0_4 : Int) (a0_5 : Int) (a0_6 : ByteArray) (a0_7 : Int) (a0_8 : Int) (a0_9 : ByteArray) (a0_10 : Int) (a0_11 : ByteArray) (a0_12 : Int) (a0_13 : Int) (a0_14 : Int) (a0_15 : Int) (a0_16 : Int) (a0_17 : Int) (a0_18 : Int) (a0_19 : ByteArray) (a0_20 : ByteArray) (A0_21 : Option Addr) (c0_21 : Nat) (l0_21 : List (S88)) (a0_22 : Int) (a0_23 : ByteArray) (A0_24 : Option Addr) (c0_24 : Nat) (l0_24 : List (S78)) (a1_0 : Int) (a1_1 : Int) (a1_2 : Int) (a1_3 : ByteArray) (a1_4 : Int) (a1_5 : Int) (a1_6 : ByteArray) (a1_7 : Int) (a1_8 : Int) (a1_9 : ByteArray) (a1_10 : Int) (a1_11 : ByteArray) (a1_12 : Int) (a1_13 : Int) (a1_14 : Int) (a1_15 : Int) (a1_16 : Int) (a1_17 : Int) (a1_18 : Int) (a1_19 : ByteArray) (a1_20 : ByteArray) (A1_21 : Option Addr) (c1_21 : Nat) (l1_21 : List (S88)) (a1_22 : Int) (a1_23 : ByteArray) (A1_24 : Option Addr) (c1_24 : Nat) (l1_24 : List (S78)) (r : Bool) (w : World) (hr0_21 : Kd.C k88 w A0_21 l0_21.length l0_21) (hc0_21 : l0_21.length ≤ c0_21) (hr0_24 : Kd.C k78 w A0_24 l0_24.length l0_24) (hc0_24 : l0_24.length ≤ c0_24) (hr1_21 : Kd.C k88 w A1_21 l1_21.length l1_21) (hc1_21 : l1_21.length ≤ c1_21) (hr1_24 : Kd.C k78 w A1_24 l1_24.length l1_24) (hc1_24 : l1_24.length ≤ c1_24) (h : roadbookref07_Same.f k a0_0 a0_1 a0_2 a0_3 a0_4 a0_5 a0_6 a0_7 a0_8 a0_9 a0_10 a0_11 a0_12 a0_13 a0_14 a0_15 a0_16 a0_17 a0_18 a0_19 a0_20 l0_21 a0_22 a0_23 l0_24 a1_0 a1_1 a1_2 a1_3 a1_4 a1_5 a1_6 a1_7 a1_8 a1_9 a1_10 a1_11 a1_12 a1_13 a1_14 a1_15 a1_16 a1_17 a1_18 a1_19 a1_20 l1_21 a1_22 a1_23 l1_24 = some r) :
    Calls Try.prog 54 #[.agg #[.int .i64 a0_0, .int .i64 a0_1, .int .i64 a0_2, .string a0_3, .int .i64 a0_4, .int .i64 a0_5, .string a0_6, .int .i64 a0_7, .int .i64 a0_8, .string a0_9, .int .i64 a0_10, .string a0_11, .int .i64 a0_12, .int .i64 a0_13, .int .i64 a0_14, .int .i64 a0_15, .int .i64 a0_16, .int .i64 a0_17, .int .i64 a0_18, .string a0_19, .string a0_20, .slice A0_21 l0_21.length c0_21, .int .i64 a0_22, .string a0_23, .slice A0_24 l0_24.length c0_24], .agg #[.int .i64 a1_0, .int .i64 a1_1, .int .i64 a1_2, .string a1_3, .int .i64 a1_4, .int .i64 a1_5, .string a1_6, .int .i64 a1_7, .int .i64 a1_8, .string a1_9, .int .i64 a1_10, .string a1_11, .int .i64 a1_12, .int .i64 a1_13, .int .i64 a1_14, .int .i64 a1_15, .int .i64 a1_16, .int .i64 a1_17, .int .i64 a1_18, .string a1_19, .string a1_20, .slice A1_21 l1_21.length c1_21, .int .i64 a1_22, .string a1_23, .slice A1_24 l1_24.length c1_24]] w fun e w' => e = .returned (.bool r) ∧ Below w.heap.size w w' := by
  have hu76 := Try.underlying76
  have HR0_21 := Aside0.mk hr0_21
  have HC0_21 := Aside0.mk hc0_21
  clear hr0_21 hc0_21
  have HR0_24 := Aside0.mk hr0_24
  have HC0_24 := Aside0.mk hc0_24
  clear hr0_24 hc0_24
  have HR1_21 := Aside0.mk hr1_21
  have HC1_21 := Aside0.mk hc1_21
  clear hr1_21 hc1_21
  have HR1_24 := Aside0.mk hr1_24
  have HC1_24 := Aside0.mk hc1_24
  clear hr1_24 hc1_24
  have HB := Aside0.mk (Below.refl w.heap.size w)
  have H : (if a0_0 = a1_0 then (if a0_1 = a1_1 then (if a0_2 = a1_2 then (if a0_3.toList = a1_3.toList then (if a0_4 = a1_4 then (if a0_5 = a1_5 then (if a0_6.toList = a1_6.toList then (if a0_7 = a1_7 then (if a0_8 = a1_8 then (if a0_9.toList = a1_9.toList then (roadbookref07_Same.j0 k (a0_10 != a1_10) a0_0 a0_1 a0_2 a0_3 a0_4 a0_5 a0_6 a0_7 a0_8 a0_9 a0_10 a0_11 a0_12 a0_13 a0_14 a0_15 a0_16 a0_17 a0_18 a0_19 a0_20 l0_21 a0_22 a0_23 l0_24 a1_0 a1_1 a1_2 a1_3 a1_4 a1_5 a1_6 a1_7 a1_8 a1_9 a1_10 a1_11 a1_12 a1_13 a1_14 a1_15 a1_16 a1_17 a1_18 a1_19 a1_20 l1_21 a1_22 a1_23 l1_24) else (roadbookref07_Same.j0 k true a0_0 a0_1 a0_2 a0_3 a0_4 a0_5 a0_6 a0_7 a0_8 a0_9 a0_10 a0_11 a0_12 a0_13 a0_14 a0_15 a0_16 a0_17 a0_18 a0_19 a0_20 l0_21 a0_22 a0_23 l0_24 a1_0 a1_1 a1_2 a1_3 a1_4 a1_5 a1_6 a1_7 a1_8 a1_9 a1_10 a1_11 a1_12 a1_13 a1_14 a1_15 a1_16 a1_17 a1_18 a1_19 a1_20 l1_21 a1_22 a1_23 l1_24)) else (roadbookref07_Same.j0 k true a0_0 a0_1 a0_2 a0_3 a0_4 a0_5 a0_6 a0_7 a0_8 a0_9 a0_10 a0_11 a0_12 a0_13 a0_14 a0_15 a0_16 a0_17 a0_18 a0_19 a0_20 l0_21 a0_22 a0_23 l0_24 a1_0 a1_1 a1_2 a1_3 a1_4 a1_5 a1_6 a1_7 a1_8 a1_9 a1_10 a1_11 a1_12 a1_13 a1_14 a1_15 a1_16 a1_17 a1_18 a1_19 a1_20 l1_21 a1_22 a1_23 l1_24)) else (roadbookref07_Same.j0 k true a0_0 a0_1 a0_2 a0_3 a0_4 a0_5 a0_6 a0_7 a0_8 a0_9 a0_10 a0_11 a0_12 a0_13 a0_14 a0_15 a0_16 a0_17 a0_18 a0_19 a0_20 l0_21 a0_22 a0_23 l0_24 a1_0 a1_1 a1_2 a1_3 a1_4 a1_5 a1_6 a1_7 a1_8 a1_9 a1_10 a1_11 a1_12 a1_13 a1_14 a1_15 a1_16 a1_17 a1_18 a1_19 a1_20 l1_21 a1_22 a1_23 l1_24)) else (roadbookref07_Same.j0 k true a0_0 a0_1 a0_2 a0_3 a0_4 a0_5 a0_6 a0_7 a0_8 a0_9 a0_10 a0_11 a0_12 a0_13 a0_14 a0_15 a0_16 a0_17 a0_18 a0_19 a0_20 l0_21 a0_22 a0_23 l0_24 a1_0 a1_1 a1_2 a1_3 a1_4 a1_5 a1_6 a1_7 a1_8 a1_9 a1_10 a1_11 a1_12 a1_13 a1_14 a1_15 a1_16 a1_17 a1_18 a1_19 a1_20 l1_21 a1_22 a1_23 l1_24)) else (roadbookref07_Same.j0 k true a0_0 a0_1 a0_2 a0_3 a0_4 a0_5 a0_6 a0_7 a0_8 a0_9 a0_10 a0_11 a0_12 a0_13 a0_14 a0_15 a0_16 a0_17 a0_18 a0_19 a0_20 l0_21 a0_22 a0_23 l0_24 a1_0 a1_1 a1_2 a1_3 a1_4 a1_5 a1_6 a1_7 a1_8 a1_9 a1_10 a1_11 a1_12 a1_13 a1_14 a1_15 a1_16 a1_17 a1_18 a1_19 a1_20 l1_21 a1_22 a1_23 l1_24)) else (roadbookref07_Same.j0 k true a0_0 a0_1 a0_2 a0_3 a0_4 a0_5 a0_6 a0_7 a0_8 a0_9 a0_10 a0_11 a0_12 a0_13 a0_14 a0_15 a0_16 a0_17 a0_18 a0_19 a0_20 l0_21 a0_22 a0_23 l0_24 a1_0 a1_1 a1_2 a1_3 a1_4 a1_5 a1_6 a1_7 a1_8 a1_9 a1_10 a1_11 a1_12 a1_13 a1_14 a1_15 a1_16 a1_17 a1_18 a1_19 a1_20 l1_21 a1_22 a1_23 l1_24)) else (roadbookref07_Same.j0 k true a0_0 a0_1 a0_2 a0_3 a0_4 a0_5 a0_6 a0_7 a0_8 a0_9 a0_10 a0_11 a0_12 a0_13 a0_14 a0_15 a0_16 a0_17 a0_18 a0_19 a0_20 l0_21 a0_22 a0_23 l0_24 a1_0 a1_1 a1_2 a1_3 a1_4 a1_5 a1_6 a1_7 a1_8 a1_9 a1_10 a1_11 a1_12 a1_13 a1_14 a1_15 a1_16 a1_17 a1_18 a1_19 a1_20 l1_21 a1_22 a1_23 l1_24)) else (roadbookref07_Same.j0 k true a0_0 a0_1 a0_2 a0_3 a0_4 a0_5 a0_6 a0_7 a0_8 a0_9 a0_10 a0_11 a0_12 a0_13 a0_14 a0_15 a0_16 a0_17 a0_18 a0_19 a0_20 l0_21 a0_22 a0_23 l0_24 a1_0 a1_1 a1_2 a1_3 a1_4 a1_5 a1_6 a1_7 a1_8 a1_9 a1_10 a1_11 a1_12 a1_13 a1_14 a1_15 a1_16 a1_17 a1_18 a1_19 a1_20 l1_21 a1_22 a1_23 l1_24)) else (roadbookref07_Same.j0 k true a0_0 a0_1 a0_2 a0_3 a0_4 a0_5 a0_6 a0_7 a0_8 a0_9 a0_10 a0_11 a0_12 a0_13 a0_14 a0_15 a0_16 a0_17 a0_18 a0_19 a0_20 l0_21 a0_22 a0_23 l0_24 a1_0 a1_1 a1_2 a1_3 a1_4 a1_5 a1_6 a1_7 a1_8 a1_9 a1_10 a1_11 a1_12 a1_13 a1_14 a1_15 a1_16 a1_17 a1_18 a1_19 a1_20 l1_21 a1_22 a1_23 l1_24)) else (roadbookref07_Same.j0 k true a0_0 a0_1 a0_2 a0_3 a0_4 a0_5 a0_6 a0_7 a0_8 a0_9 a0_10 a0_11 a0_12 a0_13 a0_14 a0_15 a0_16 a0_17 a0_18 a0_19 a0_20 l0_21 a0_22 a0_23 l0_24 a1_0 a1_1 a1_2 a1_3 a1_4 a1_5 a1_6 a1_7 a1_8 a1_9 a1_10 a1_11 a1_12 a1_13 a1_14 a1_15 a1_16 a1_17 a1_18 a1_19 a1_20 l1_21 a1_22 a1_23 l1_24)) = some r := h
  clear h
  have HC3 := Aside0.mk H
  clear H
  go_enter Try.func54, Try.ntmps54
  go_upto_region 1 with (first | ((with_reducible refine gate_dst (N := 2) rfl ?_); refine box_event ?hg (N := 2) ?hd (cs := #[.int .i64 a0_0, .int .i64 a0_1, .int .i64 a0_2, .string a0_3, .int .i64 a0_4, .int .i64 a0_5, .string a0_6, .int .i64 a0_7, .int .i64 a0_8, .string a0_9, .int .i64 a0_10, .string a0_11, .int .i64 a0_12, .int .i64 a0_13, .int .i64 a0_14, .int .i64 a0_15, .int .i64 a0_16, .int .i64 a0_17, .int .i64 a0_18, .string a0_19, .string a0_20, .slice A0_21 l0_21.length c0_21, .int .i64 a0_22, .string a0_23, .slice A0_24 l0_24.length c0_24]) (t := 76) ?hr ?_; (case hd => rfl); (case hg => rfl); (case hr => first | (go_simp; done) | (go_simp; rfl)); intro gb482 hg w4 hbox hb; have n0_ := Aside0.mk (below_step (bel) hb); have n1_ := Aside0.mk (hbox); have n2_ := Aside0.mk ((by rw [hg]; exact bsz : w.heap.size ≤ gb482)); have n3_ := Aside0.mk ((by rw [hg]; exact bsz : w.heap.size ≤ gb482)); clear HB; have HB := n0_; have BK482 := n1_; have GW482 := n2_; have GE482 := n3_; clear n0_ n1_ n2_ n3_; clear hb hbox hg) | ((with_reducible refine gate_dst (N := 3) rfl ?_); refine box_event ?hg (N := 3) ?hd (cs := #[.int .i64 a1_0, .int .i64 a1_1, .int .i64 a1_2, .string a1_3, .int .i64 a1_4, .int .i64 a1_5, .string a1_6, .int .i64 a1_7, .int .i64 a1_8, .string a1_9, .int .i64 a1_10, .string a1_11, .int .i64 a1_12, .int .i64 a1_13, .int .i64 a1_14, .int .i64 a1_15, .int .i64 a1_16, .int .i64 a1_17, .int .i64 a1_18, .string a1_19, .string a1_20, .slice A1_21 l1_21.length c1_21, .int .i64 a1_22, .string a1_23, .slice A1_24 l1_24.length c1_24]) (t := 76) ?hr ?_; (case hd => rfl); (case hg => rfl); (case hr => first | (go_simp; done) | (go_simp; rfl)); intro gb483 hg w5 hbox hb; have n0_ := Aside0.mk (blk_below (blk_below BK482.out bll) hb); have n1_ := Aside0.mk (below_step (bel) hb); have n2_ := Aside0.mk (hbox); have n3_ := Aside0.mk ((by rw [hg]; exact bsz : w.heap.size ≤ gb483)); have n4_ := Aside0.mk ((by rw [hg]; exact bsz : w.heap.size ≤ gb483)); have n5_ := Aside0.mk ((by rw [hg]; exact Nat.ne_of_lt (blk_lt (blk_below BK482.out bll)) : gb482 ≠ gb483)); have n6_ := Aside0.mk ((by rw [hg]; exact Nat.ne_of_gt (blk_lt (blk_below BK482.out bll)) : gb483 ≠ gb482)); clear BK482; clear HB; have BK482 := n0_; have HB := n1_; have BK483 := n2_; have GW483 := n3_; have GE483 := n4_; have NB482_483 := n5_; have NB483_482 := n6_; clear n0_ n1_ n2_ n3_ n4_ n5_ n6_; clear hb hbox hg))
  (try simp only [Act.put, List.setIfInBounds_toArray, List.set_cons_zero, List.set_cons_succ])
  go_cut [79] (fun v79 wc => ∃ (kq : Nat) (x79_2 : Bool), v79 = .bool x79_2 ∧ Aside0 (roadbookref07_Same.j0 kq x79_2 a0_0 a0_1 a0_2 a0_3 a0_4 a0_5 a0_6 a0_7 a0_8 a0_9 a0_10 a0_11 a0_12 a0_13 a0_14 a0_15 a0_16 a0_17 a0_18 a0_19 a0_20 l0_21 a0_22 a0_23 l0_24 a1_0 a1_1 a1_2 a1_3 a1_4 a1_5 a1_6 a1_7 a1_8 a1_9 a1_10 a1_11 a1_12 a1_13 a1_14 a1_15 a1_16 a1_17 a1_18 a1_19 a1_20 l1_21 a1_22 a1_23 l1_24 = some r) ∧ Aside0 (kq ≤ k) ∧ Aside0 (wc.heap[gb482]? = some (.cells #[.int .i64 a0_0, .int .i64 a0_1, .int .i64 a0_2, .string a0_3, .int .i64 a0_4, .int .i64 a0_5, .string a0_6, .int .i64 a0_7, .int .i64 a0_8, .string a0_9, .int .i64 a0_10, .string a0_11, .int .i64 a0_12, .int .i64 a0_13, .int .i64 a0_14, .int .i64 a0_15, .int .i64 a0_16, .int .i64 a0_17, .int .i64 a0_18, .string a0_19, .string a0_20, (.slice A0_21 l0_21.length c0_21), .int .i64 a0_22, .string a0_23, (.slice A0_24 l0_24.length c0_24)] 76 (0, 0))) ∧ Aside0 (wc.heap[gb483]? = some (.cells #[.int .i64 a1_0, .int .i64 a1_1, .int .i64 a1_2, .string a1_3, .int .i64 a1_4, .int .i64 a1_5, .string a1_6, .int .i64 a1_7, .int .i64 a1_8, .string a1_9, .int .i64 a1_10, .string a1_11, .int .i64 a1_12, .int .i64 a1_13, .int .i64 a1_14, .int .i64 a1_15, .int .i64 a1_16, .int .i64 a1_17, .int .i64 a1_18, .string a1_19, .string a1_20, (.slice A1_21 l1_21.length c1_21), .int .i64 a1_22, .string a1_23, (.slice A1_24 l1_24.length c1_24)] 76 (0, 0))) ∧ Aside0 (Below w.heap.size w wc))
  case first =>
    have H := HC3.out
    clear HC3
    have hx := cl0 BK482.out
    have hy := cl0 BK483.out
    repeat (fail_if_success (apply gate_dst (N := 5); · rfl)); (first | go_values | go_skip | go_guarded | go_step | go_upon)
    refine chain_first (d := 5) (pa := 2) (pb := 3) (pA := .pointer (some ⟨gb482, 0, none⟩)) (pB := .pointer (some ⟨gb483, 0, none⟩)) (qA := .pointer (some ⟨gb482, 0, none⟩)) (qB := .pointer (some ⟨gb483, 0, none⟩)) (x := .int .i64 a0_0) (y := .int .i64 a1_0) (c := (a0_0 != a1_0)) (n := 174) rfl rfl rfl rfl rfl rfl rfl rfl rfl rfl rfl rfl rfl (by kernel_rfl) (by decide) (by decide) (by decide) rfl rfl (by intro ρ h; go_simp) (by intro ρ h; go_simp) (by intro ρ h; go_simp) (by intro ρ h; go_simp) (by intro ρ h h'; go_simp; all_goals simp [bne]) (fun t0 s0 k0 v0 => ?_)
    have A0 := (k0 2 (by omega)).trans rfl
    have B0 := (k0 3 (by omega)).trans rfl
    clear hx hy
    have hx := cl1 BK482.out
    have hy := cl1 BK483.out
    refine chain_core (d := 11) (pa := 2) (pb := 3) (g := 5) (dg := 10) (pA := .pointer (some ⟨gb482, 0, none⟩)) (pB := .pointer (some ⟨gb483, 0, none⟩)) (qA := .pointer (some ⟨gb482, 1, none⟩)) (qB := .pointer (some ⟨gb483, 1, none⟩)) (x := .int .i64 a0_1) (y := .int .i64 a1_1) (c := (a0_1 != a1_1)) (n := 174) rfl rfl rfl rfl rfl rfl rfl rfl rfl rfl rfl rfl rfl rfl s0 (by decide) (by decide) (by decide) (by decide) A0 B0 v0 (by intro ρ h; go_simp) (by intro ρ h; go_simp) (by intro ρ h; go_simp) (by intro ρ h; go_simp) (by intro ρ h h'; go_simp; all_goals simp [bne]) (fun t1 s1 k1 v1 => ?_)
    have A1 := (k1 2 (by omega)).trans A0
    have B1 := (k1 3 (by omega)).trans B0
    clear A0 B0 v0 s0
    refine chain_move (d := 16) rfl rfl rfl s1 (by decide) v1 (fun t2 s2 k2 v2 => ?_)
    have A2 := (k2 2 (by omega)).trans A1
    have B2 := (k2 3 (by omega)).trans B1
    clear A1 B1 v1 s1
    clear hx hy
    have hx := cl2 BK482.out
    have hy := cl2 BK483.out
    refine chain_core (d := 18) (pa := 2) (pb := 3) (g := 12) (dg := 17) (pA := .pointer (some ⟨gb482, 0, none⟩)) (pB := .pointer (some ⟨gb483, 0, none⟩)) (qA := .pointer (some ⟨gb482, 2, none⟩)) (qB := .pointer (some ⟨gb483, 2, none⟩)) (x := .int .i64 a0_2) (y := .int .i64 a1_2) (c := (a0_2 != a1_2)) (n := 174) rfl rfl rfl rfl rfl rfl rfl rfl rfl rfl rfl rfl rfl rfl s2 (by decide) (by decide) (by decide) (by decide) A2 B2 v2 (by intro ρ h; go_simp) (by intro ρ h; go_simp) (by intro ρ h; go_simp) (by intro ρ h; go_simp) (by intro ρ h h'; go_simp; all_goals simp [bne]) (fun t3 s3 k3 v3 => ?_)
    have A3 := (k3 2 (by omega)).trans A2
    have B3 := (k3 3 (by omega)).trans B2
    clear A2 B2 v2 s2
    refine chain_move (d := 23) rfl rfl rfl s3 (by decide) v3 (fun t4 s4 k4 v4 => ?_)
    have A4 := (k4 2 (by omega)).trans A3
    have B4 := (k4 3 (by omega)).trans B3
    clear A3 B3 v3 s3
    clear hx hy
    have hx := cl3 BK482.out
    have hy := cl3 BK483.out
    refine chain_core (d := 25) (pa := 2) (pb := 3) (g := 19) (dg := 24) (pA := .pointer (some ⟨gb482, 0, none⟩)) (pB := .pointer (some ⟨gb483, 0, none⟩)) (qA := .pointer (some ⟨gb482, 3, none⟩)) (qB := .pointer (some ⟨gb483, 3, none⟩)) (x := .string a0_3) (y := .string a1_3) (c := (a0_3.toList != a1_3.toList)) (n := 174) rfl rfl rfl rfl rfl rfl rfl rfl rfl rfl rfl rfl rfl rfl s4 (by decide) (by decide) (by decide) (by decide) A4 B4 v4 (by intro ρ h; go_simp) (by intro ρ h; go_simp) (by intro ρ h; go_simp) (by intro ρ h; go_simp) (by intro ρ h h'; go_simp; all_goals simp [bne]) (fun t5 s5 k5 v5 => ?_)
    have A5 := (k5 2 (by omega)).trans A4
    have B5 := (k5 3 (by omega)).trans B4
    clear A4 B4 v4 s4
    refine chain_move (d := 30) rfl rfl rfl s5 (by decide) v5 (fun t6 s6 k6 v6 => ?_)
    have A6 := (k6 2 (by omega)).trans A5
    have B6 := (k6 3 (by omega)).trans B5
    clear A5 B5 v5 s5
    clear hx hy
    have hx := cl4 BK482.out
    have hy := cl4 BK483.out
    refine chain_core (d := 32) (pa := 2) (pb := 3) (g := 26) (dg := 31) (pA := .pointer (some ⟨gb482, 0, none⟩)) (pB := .pointer (some ⟨gb483, 0, none⟩)) (qA := .pointer (some ⟨gb482, 4, none⟩)) (qB := .pointer (some ⟨gb483, 4, none⟩)) (x := .int .i64 a0_4) (y := .int .i64 a1_4) (c := (a0_4 != a1_4)) (n := 174) rfl rfl rfl rfl rfl rfl rfl rfl rfl rfl rfl rfl rfl rfl s6 (by decide) (by decide) (by decide) (by decide) A6 B6 v6 (by intro ρ h; go_simp) (by intro ρ h; go_simp) (by intro ρ h; go_simp) (by intro ρ h; go_simp) (by intro ρ h h'; go_simp; all_goals simp [bne]) (fun t7 s7 k7 v7 => ?_)
    have A7 := (k7 2 (by omega)).trans A6
    have B7 := (k7 3 (by omega)).trans B6
    clear A6 B6 v6 s6
    refine chain_move (d := 37) rfl rfl rfl s7 (by decide) v7 (fun t8 s8 k8 v8 => ?_)
    have A8 := (k8 2 (by omega)).trans A7
    have B8 := (k8 3 (by omega)).trans B7
    clear A7 B7 v7 s7
    clear hx hy
    have hx := cl5 BK482.out
    have hy := cl5 BK483.out
    refine chain_core (d := 39) (pa := 2) (pb := 3) (g := 33) (dg := 38) (pA := .pointer (some ⟨gb482, 0, none⟩)) (pB := .pointer (some ⟨gb483, 0, none⟩)) (qA := .pointer (some ⟨gb482, 5, none⟩)) (qB := .pointer (some ⟨gb483, 5, none⟩)) (x := .int .i64 a0_5) (y := .int .i64 a1_5) (c := (a0_5 != a1_5)) (n := 174) rfl rfl rfl rfl rfl rfl rfl rfl rfl rfl rfl rfl rfl rfl s8 (by decide) (by decide) (by decide) (by decide) A8 B8 v8 (by intro ρ h; go_simp) (by intro ρ h; go_simp) (by intro ρ h; go_simp) (by intro ρ h; go_simp) (by intro ρ h h'; go_simp; all_goals simp [bne]) (fun t9 s9 k9 v9 => ?_)
    have A9 := (k9 2 (by omega)).trans A8
    have B9 := (k9 3 (by omega)).trans B8
    clear A8 B8 v8 s8
    refine chain_move (d := 44) rfl rfl rfl s9 (by decide) v9 (fun t10 s10 k10 v10 => ?_)
    have A10 := (k10 2 (by omega)).trans A9
    have B10 := (k10 3 (by omega)).trans B9
    clear A9 B9 v9 s9
    clear hx hy
    have hx := cl6 BK482.out
    have hy := cl6 BK483.out
    refine chain_core (d := 46) (pa := 2) (pb := 3) (g := 40) (dg := 45) (pA := .pointer (some ⟨gb482, 0, none⟩)) (pB := .pointer (some ⟨gb483, 0, none⟩)) (qA := .pointer (some ⟨gb482, 6, none⟩)) (qB := .pointer (some ⟨gb483, 6, none⟩)) (x := .string a0_6) (y := .string a1_6) (c := (a0_6.toList != a1_6.toList)) (n := 174) rfl rfl rfl rfl rfl rfl rfl rfl rfl rfl rfl rfl rfl rfl s10 (by decide) (by decide) (by decide) (by decide) A10 B10 v10 (by intro ρ h; go_simp) (by intro ρ h; go_simp) (by intro ρ h; go_simp) (by intro ρ h; go_simp) (by intro ρ h h'; go_simp; all_goals simp [bne]) (fun t11 s11 k11 v11 => ?_)
    have A11 := (k11 2 (by omega)).trans A10
    have B11 := (k11 3 (by omega)).trans B10
    clear A10 B10 v10 s10
    refine chain_move (d := 51) rfl rfl rfl s11 (by decide) v11 (fun t12 s12 k12 v12 => ?_)
    have A12 := (k12 2 (by omega)).trans A11
    have B12 := (k12 3 (by omega)).trans B11
    clear A11 B11 v11 s11
    clear hx hy
    have hx := cl7 BK482.out
    have hy := cl7 BK483.out
    refine chain_core (d := 53) (pa := 2) (pb := 3) (g := 47) (dg := 52) (pA := .pointer (some ⟨gb482, 0, none⟩)) (pB := .pointer (some ⟨gb483, 0, none⟩)) (qA := .pointer (some ⟨gb482, 7, none⟩)) (qB := .pointer (some ⟨gb483, 7, none⟩)) (x := .int .i64 a0_7) (y := .int .i64 a1_7) (c := (a0_7 != a1_7)) (n := 174) rfl rfl rfl rfl rfl rfl rfl rfl rfl rfl rfl rfl rfl rfl s12 (by decide) (by decide) (by decide) (by decide) A12 B12 v12 (by intro ρ h; go_simp) (by intro ρ h; go_simp) (by intro ρ h; go_simp) (by intro ρ h; go_simp) (by intro ρ h h'; go_simp; all_goals simp [bne]) (fun t13 s13 k13 v13 => ?_)
    have A13 := (k13 2 (by omega)).trans A12
    have B13 := (k13 3 (by omega)).trans B12
    clear A12 B12 v12 s12
    refine chain_move (d := 58) rfl rfl rfl s13 (by decide) v13 (fun t14 s14 k14 v14 => ?_)
    have A14 := (k14 2 (by omega)).trans A13
    have B14 := (k14 3 (by omega)).trans B13
    clear A13 B13 v13 s13
    clear hx hy
    have hx := cl8 BK482.out
    have hy := cl8 BK483.out
    refine chain_core (d := 60) (pa := 2) (pb := 3) (g := 54) (dg := 59) (pA := .pointer (some ⟨gb482, 0, none⟩)) (pB := .pointer (some ⟨gb483, 0, none⟩)) (qA := .pointer (some ⟨gb482, 8, none⟩)) (qB := .pointer (some ⟨gb483, 8, none⟩)) (x := .int .i64 a0_8) (y := .int .i64 a1_8) (c := (a0_8 != a1_8)) (n := 174) rfl rfl rfl rfl rfl rfl rfl rfl rfl rfl rfl rfl rfl rfl s14 (by decide) (by decide) (by decide) (by decide) A14 B14 v14 (by intro ρ h; go_simp) (by intro ρ h; go_simp) (by intro ρ h; go_simp) (by intro ρ h; go_simp) (by intro ρ h h'; go_simp; all_goals simp [bne]) (fun t15 s15 k15 v15 => ?_)
    have A15 := (k15 2 (by omega)).trans A14
    have B15 := (k15 3 (by omega)).trans B14
    clear A14 B14 v14 s14
    refine chain_move (d := 65) rfl rfl rfl s15 (by decide) v15 (fun t16 s16 k16 v16 => ?_)
    have A16 := (k16 2 (by omega)).trans A15
    have B16 := (k16 3 (by omega)).trans B15
    clear A15 B15 v15 s15
    clear hx hy
    have hx := cl9 BK482.out
    have hy := cl9 BK483.out
    refine chain_core (d := 67) (pa := 2) (pb := 3) (g := 61) (dg := 66) (pA := .pointer (some ⟨gb482, 0, none⟩)) (pB := .pointer (some ⟨gb483, 0, none⟩)) (qA := .pointer (some ⟨gb482, 9, none⟩)) (qB := .pointer (some ⟨gb483, 9, none⟩)) (x := .string a0_9) (y := .string a1_9) (c := (a0_9.toList != a1_9.toList)) (n := 174) rfl rfl rfl rfl rfl rfl rfl rfl rfl rfl rfl rfl rfl rfl s16 (by decide) (by decide) (by decide) (by decide) A16 B16 v16 (by intro ρ h; go_simp) (by intro ρ h; go_simp) (by intro ρ h; go_simp) (by intro ρ h; go_simp) (by intro ρ h h'; go_simp; all_goals simp [bne]) (fun t17 s17 k17 v17 => ?_)
    have A17 := (k17 2 (by omega)).trans A16
    have B17 := (k17 3 (by omega)).trans B16
    clear A16 B16 v16 s16
    refine chain_move (d := 72) rfl rfl rfl s17 (by decide) v17 (fun t18 s18 k18 v18 => ?_)
    have A18 := (k18 2 (by omega)).trans A17
    have B18 := (k18 3 (by omega)).trans B17
    clear A17 B17 v17 s17
    clear hx hy
    have hx := cl10 BK482.out
    have hy := cl10 BK483.out
    refine chain_core (d := 74) (pa := 2) (pb := 3) (g := 68) (dg := 73) (pA := .pointer (some ⟨gb482, 0, none⟩)) (pB := .pointer (some ⟨gb483, 0, none⟩)) (qA := .pointer (some ⟨gb482, 10, none⟩)) (qB := .pointer (some ⟨gb483, 10, none⟩)) (x := .int .i64 a0_10) (y := .int .i64 a1_10) (c := (a0_10 != a1_10)) (n := 174) rfl rfl rfl rfl rfl rfl rfl rfl rfl rfl rfl rfl rfl rfl s18 (by decide) (by decide) (by decide) (by decide) A18 B18 v18 (by intro ρ h; go_simp) (by intro ρ h; go_simp) (by intro ρ h; go_simp) (by intro ρ h; go_simp) (by intro ρ h h'; go_simp; all_goals simp [bne]) (fun t19 s19 k19 v19 => ?_)
    have A19 := (k19 2 (by omega)).trans A18
    have B19 := (k19 3 (by omega)).trans B18
    clear A18 B18 v18 s18
    clear hx hy
    have hK : ∀ i, i < 5 ∨ 79 < i → t19[i]? = _ := fun i hi => (k19 i (by omega)).trans ((k18 i (by omega)).trans ((k17 i (by omega)).trans ((k16 i (by omega)).trans ((k15 i (by omega)).trans ((k14 i (by omega)).trans ((k13 i (by omega)).trans ((k12 i (by omega)).trans ((k11 i (by omega)).trans ((k10 i (by omega)).trans ((k9 i (by omega)).trans ((k8 i (by omega)).trans ((k7 i (by omega)).trans ((k6 i (by omega)).trans ((k5 i (by omega)).trans ((k4 i (by omega)).trans ((k3 i (by omega)).trans ((k2 i (by omega)).trans ((k1 i (by omega)).trans (k0 i (by omega))))))))))))))))))))
    clear k0 k1 k2 k3 k4 k5 k6 k7 k8 k9 k10 k11 k12 k13 k14 k15 k16 k17 k18 k19
    have hM := frame_mix (lo := 5) (hi := 79) s19 (by kernel_rfl) hK
    have hv : t19.getD 79 undef = .bool _ := ch_eval (df := []) v19
    apply wpList_nil
    rw [hM]
    clear hM hK
    repeat (first | go_values | go_step)
    refine Met.intro ?_
    go_step
    (repeat apply Exists.intro)
    refine ⟨?rel, rfl⟩
    case rel =>
      refine ⟨k, (((((((((((a0_0 != a1_0) || (a0_1 != a1_1)) || (a0_2 != a1_2)) || (a0_3.toList != a1_3.toList)) || (a0_4 != a1_4)) || (a0_5 != a1_5)) || (a0_6.toList != a1_6.toList)) || (a0_7 != a1_7)) || (a0_8 != a1_8)) || (a0_9.toList != a1_9.toList)) || (a0_10 != a1_10)), hv, ⟨?_⟩, ⟨by first | omega | exact Nat.le_refl _⟩, ⟨blk_below BK482.out bll⟩, ⟨blk_below BK483.out bll⟩, ⟨bel⟩⟩
      by_cases c : a0_0 = a1_0
      · rw [if_pos c] at H
        rw [show (a0_0 != a1_0) = false from bne_eq_false_iff_eq.mpr c, Bool.false_or]
        by_cases c : a0_1 = a1_1
        · rw [if_pos c] at H
          rw [show (a0_1 != a1_1) = false from bne_eq_false_iff_eq.mpr c, Bool.false_or]
          by_cases c : a0_2 = a1_2
          · rw [if_pos c] at H
            rw [show (a0_2 != a1_2) = false from bne_eq_false_iff_eq.mpr c, Bool.false_or]
            by_cases c : a0_3.toList = a1_3.toList
            · rw [if_pos c] at H
              rw [show (a0_3.toList != a1_3.toList) = false from bne_eq_false_iff_eq.mpr c, Bool.false_or]
              by_cases c : a0_4 = a1_4
              · rw [if_pos c] at H
                rw [show (a0_4 != a1_4) = false from bne_eq_false_iff_eq.mpr c, Bool.false_or]
                by_cases c : a0_5 = a1_5
                · rw [if_pos c] at H
                  rw [show (a0_5 != a1_5) = false from bne_eq_false_iff_eq.mpr c, Bool.false_or]
                  by_cases c : a0_6.toList = a1_6.toList
                  · rw [if_pos c] at H
                    rw [show (a0_6.toList != a1_6.toList) = false from bne_eq_false_iff_eq.mpr c, Bool.false_or]
                    by_cases c : a0_7 = a1_7
                    · rw [if_pos c] at H
                      rw [show (a0_7 != a1_7) = false from bne_eq_false_iff_eq.mpr c, Bool.false_or]
                      by_cases c : a0_8 = a1_8
                      · rw [if_pos c] at H
                        rw [show (a0_8 != a1_8) = false from bne_eq_false_iff_eq.mpr c, Bool.false_or]
                        by_cases c : a0_9.toList = a1_9.toList
                        · rw [if_pos c] at H
                          rw [show (a0_9.toList != a1_9.toList) = false from bne_eq_false_iff_eq.mpr c, Bool.false_or]
                          exact H
                        · rw [if_neg c] at H
                          rw [show (a0_9.toList != a1_9.toList) = true from bne_iff_ne.mpr c]
                          simp only [Bool.true_or]
                          exact H
                      · rw [if_neg c] at H
                        rw [show (a0_8 != a1_8) = true from bne_iff_ne.mpr c]
                        simp only [Bool.true_or]
                        exact H
                    · rw [if_neg c] at H
                      rw [show (a0_7 != a1_7) = true from bne_iff_ne.mpr c]
                      simp only [Bool.true_or]
                      exact H
                  · rw [if_neg c] at H
                    rw [show (a0_6.toList != a1_6.toList) = true from bne_iff_ne.mpr c]
                    simp only [Bool.true_or]
                    exact H
                · rw [if_neg c] at H
                  rw [show (a0_5 != a1_5) = true from bne_iff_ne.mpr c]
                  simp only [Bool.true_or]
                  exact H
              · rw [if_neg c] at H
                rw [show (a0_4 != a1_4) = true from bne_iff_ne.mpr c]
                simp only [Bool.true_or]
                exact H
            · rw [if_neg c] at H
              rw [show (a0_3.toList != a1_3.toList) = true from bne_iff_ne.mpr c]
              simp only [Bool.true_or]
              exact H
          · rw [if_neg c] at H
            rw [show (a0_2 != a1_2) = true from bne_iff_ne.mpr c]
            simp only [Bool.true_or]
            exact H
        · rw [if_neg c] at H
          rw [show (a0_1 != a1_1) = true from bne_iff_ne.mpr c]
          simp only [Bool.true_or]
          exact H
      · rw [if_neg c] at H
        rw [show (a0_0 != a1_0) = true from bne_iff_ne.mpr c]
        simp only [Bool.true_or]
        exact H
  case rest =>
    clear HC3
    obtain ⟨kq, x79_2, rfl, HA, HJ2, BK482, BK483, HB⟩ := hcut
    cases kq with
    | zero => exact absurd HA.out (by simp [roadbookref07_Same.j0])
    | succ kj2 =>
      have H := HA.out
      clear HA
      simp only [roadbookref07_Same.j0] at H
      by_cases c159 : x79_2 = true
      · subst c159
        have H1 : (some false) = some r := by rw [if_pos rfl] at H; exact H
        clear H
        have H := H1
        clear H1
        obtain rfl := Option.some.inj H
        go_wp2
        go_ret
        exact ⟨rtE, bel⟩
      · replace c159 := Bool.eq_false_iff.mpr c159
        subst c159
        have H1 : (if a0_11.toList = a1_11.toList then (if a0_12 = a1_12 then (if a0_13 = a1_13 then (if a0_14 = a1_14 then (if a0_15 = a1_15 then (if a0_16 = a1_16 then (if a0_17 = a1_17 then (if a0_18 = a1_18 then (if a0_19.toList = a1_19.toList then (if a0_20.toList = a1_20.toList then (if a0_22 = a1_22 then (roadbookref07_Same.j1 kj2 (a0_23.toList != a1_23.toList) a0_0 a0_1 a0_2 a0_3 a0_4 a0_5 a0_6 a0_7 a0_8 a0_9 a0_10 a0_11 a0_12 a0_13 a0_14 a0_15 a0_16 a0_17 a0_18 a0_19 a0_20 l0_21 a0_22 a0_23 l0_24 a1_0 a1_1 a1_2 a1_3 a1_4 a1_5 a1_6 a1_7 a1_8 a1_9 a1_10 a1_11 a1_12 a1_13 a1_14 a1_15 a1_16 a1_17 a1_18 a1_19 a1_20 l1_21 a1_22 a1_23 l1_24) else (roadbookref07_Same.j1 kj2 true a0_0 a0_1 a0_2 a0_3 a0_4 a0_5 a0_6 a0_7 a0_8 a0_9 a0_10 a0_11 a0_12 a0_13 a0_14 a0_15 a0_16 a0_17 a0_18 a0_19 a0_20 l0_21 a0_22 a0_23 l0_24 a1_0 a1_1 a1_2 a1_3 a1_4 a1_5 a1_6 a1_7 a1_8 a1_9 a1_10 a1_11 a1_12 a1_13 a1_14 a1_15 a1_16 a1_17 a1_18 a1_19 a1_20 l1_21 a1_22 a1_23 l1_24)) else (roadbookref07_Same.j1 kj2 true a0_0 a0_1 a0_2 a0_3 a0_4 a0_5 a0_6 a0_7 a0_8 a0_9 a0_10 a0_11 a0_12 a0_13 a0_14 a0_15 a0_16 a0_17 a0_18 a0_19 a0_20 l0_21 a0_22 a0_23 l0_24 a1_0 a1_1 a1_2 a1_3 a1_4 a1_5 a1_6 a1_7 a1_8 a1_9 a1_10 a1_11 a1_12 a1_13 a1_14 a1_15 a1_16 a1_17 a1_18 a1_19 a1_20 l1_21 a1_22 a1_23 l1_24)) else (roadbookref07_Same.j1 kj2 true a0_0 a0_1 a0_2 a0_3 a0_4 a0_5 a0_6 a0_7 a0_8 a0_9 a0_10 a0_11 a0_12 a0_13 a0_14 a0_15 a0_16 a0_17 a0_18 a0_19 a0_20 l0_21 a0_22 a0_23 l0_24 a1_0 a1_1 a1_2 a1_3 a1_4 a1_5 a1_6 a1_7 a1_8 a1_9 a1_10 a1_11 a1_12 a1_13 a1_14 a1_15 a1_16 a1_17 a1_18 a1_19 a1_20 l1_21 a1_22 a1_23 l1_24)) else (roadbookref07_Same.j1 kj2 true a0_0 a0_1 a0_2 a0_3 a0_4 a0_5 a0_6 a0_7 a0_8 a0_9 a0_10 a0_11 a0_12 a0_13 a0_14 a0_15 a0_16 a0_17 a0_18 a0_19 a0_20 l0_21 a0_22 a0_23 l0_24 a1_0 a1_1 a1_2 a1_3 a1_4 a1_5 a1_6 a1_7 a1_8 a1_9 a1_10 a1_11 a1_12 a1_13 a1_14 a1_15 a1_16 a1_17 a1_18 a1_19 a1_20 l1_21 a1_22 a1_23 l1_24)) else (roadbookref07_Same.j1 kj2 true a0_0 a0_1 a0_2 a0_3 a0_4 a0_5 a0_6 a0_7 a0_8 a0_9 a0_10 a0_11 a0_12 a0_13 a0_14 a0_15 a0_16 a0_17 a0_18 a0_19 a0_20 l0_21 a0_22 a0_23 l0_24 a1_0 a1_1 a1_2 a1_3 a1_4 a1_5 a1_6 a1_7 a1_8 a1_9 a1_10 a1_11 a1_12 a1_13 a1_14 a1_15 a1_16 a1_17 a1_18 a1_19 a1_20 l1_21 a1_22 a1_23 l1_24)) else (roadbookref07_Same.j1 kj2 true a0_0 a0_1 a0_2 a0_3 a0_4 a0_5 a0_6 a0_7 a0_8 a0_9 a0_10 a0_11 a0_12 a0_13 a0_14 a0_15 a0_16 a0_17 a0_18 a0_19 a0_20 l0_21 a0_22 a0_23 l0_24 a1_0 a1_1 a1_2 a1_3 a1_4 a1_5 a1_6 a1_7 a1_8 a1_9 a1_10 a1_11 a1_12 a1_13 a1_14 a1_15 a1_16 a1_17 a1_18 a1_19 a1_20 l1_21 a1_22 a1_23 l1_24)) else (roadbookref07_Same.j1 kj2 true a0_0 a0_1 a0_2 a0_3 a0_4 a0_5 a0_6 a0_7 a0_8 a0_9 a0_10 a0_11 a0_12 a0_13 a0_14 a0_15 a0_16 a0_17 a0_18 a0_19 a0_20 l0_21 a0_22 a0_23 l0_24 a1_0 a1_1 a1_2 a1_3 a1_4 a1_5 a1_6 a1_7 a1_8 a1_9 a1_10 a1_11 a1_12 a1_13 a1_14 a1_15 a1_16 a1_17 a1_18 a1_19 a1_20 l1_21 a1_22 a1_23 l1_24)) else (roadbookref07_Same.j1 kj2 true a0_0 a0_1 a0_2 a0_3 a0_4 a0_5 a0_6 a0_7 a0_8 a0_9 a0_10 a0_11 a0_12 a0_13 a0_14 a0_15 a0_16 a0_17 a0_18 a0_19 a0_20 l0_21 a0_22 a0_23 l0_24 a1_0 a1_1 a1_2 a1_3 a1_4 a1_5 a1_6 a1_7 a1_8 a1_9 a1_10 a1_11 a1_12 a1_13 a1_14 a1_15 a1_16 a1_17 a1_18 a1_19 a1_20 l1_21 a1_22 a1_23 l1_24)) else (roadbookref07_Same.j1 kj2 true a0_0 a0_1 a0_2 a0_3 a0_4 a0_5 a0_6 a0_7 a0_8 a0_9 a0_10 a0_11 a0_12 a0_13 a0_14 a0_15 a0_16 a0_17 a0_18 a0_19 a0_20 l0_21 a0_22 a0_23 l0_24 a1_0 a1_1 a1_2 a1_3 a1_4 a1_5 a1_6 a1_7 a1_8 a1_9 a1_10 a1_11 a1_12 a1_13 a1_14 a1_15 a1_16 a1_17 a1_18 a1_19 a1_20 l1_21 a1_22 a1_23 l1_24)) else (roadbookref07_Same.j1 kj2 true a0_0 a0_1 a0_2 a0_3 a0_4 a0_5 a0_6 a0_7 a0_8 a0_9 a0_10 a0_11 a0_12 a0_13 a0_14 a0_15 a0_16 a0_17 a0_18 a0_19 a0_20 l0_21 a0_22 a0_23 l0_24 a1_0 a1_1 a1_2 a1_3 a1_4 a1_5 a1_6 a1_7 a1_8 a1_9 a1_10 a1_11 a1_12 a1_13 a1_14 a1_15 a1_16 a1_17 a1_18 a1_19 a1_20 l1_21 a1_22 a1_23 l1_24)) else (roadbookref07_Same.j1 kj2 true a0_0 a0_1 a0_2 a0_3 a0_4 a0_5 a0_6 a0_7 a0_8 a0_9 a0_10 a0_11 a0_12 a0_13 a0_14 a0_15 a0_16 a0_17 a0_18 a0_19 a0_20 l0_21 a0_22 a0_23 l0_24 a1_0 a1_1 a1_2 a1_3 a1_4 a1_5 a1_6 a1_7 a1_8 a1_9 a1_10 a1_11 a1_12 a1_13 a1_14 a1_15 a1_16 a1_17 a1_18 a1_19 a1_20 l1_21 a1_22 a1_23 l1_24)) = some r := by rw [if_neg (show ¬ (false = true) by decide)] at H; exact H
        clear H
        have H := H1
        clear H1
        have HC160 := Aside0.mk H
        clear H
        go_upto_region 3 with (fail)
        go_cut [161] (fun v161 wc => ∃ (kq : Nat) (x161_159 : Bool), v161 = .bool x161_159 ∧ Aside0 (roadbookref07_Same.j1 kq x161_159 a0_0 a0_1 a0_2 a0_3 a0_4 a0_5 a0_6 a0_7 a0_8 a0_9 a0_10 a0_11 a0_12 a0_13 a0_14 a0_15 a0_16 a0_17 a0_18 a0_19 a0_20 l0_21 a0_22 a0_23 l0_24 a1_0 a1_1 a1_2 a1_3 a1_4 a1_5 a1_6 a1_7 a1_8 a1_9 a1_10 a1_11 a1_12 a1_13 a1_14 a1_15 a1_16 a1_17 a1_18 a1_19 a1_20 l1_21 a1_22 a1_23 l1_24 = some r) ∧ Aside0 (kq ≤ kj2) ∧ Aside0 (wc.heap[gb482]? = some (.cells #[.int .i64 a0_0, .int .i64 a0_1, .int .i64 a0_2, .string a0_3, .int .i64 a0_4, .int .i64 a0_5, .string a0_6, .int .i64 a0_7, .int .i64 a0_8, .string a0_9, .int .i64 a0_10, .string a0_11, .int .i64 a0_12, .int .i64 a0_13, .int .i64 a0_14, .int .i64 a0_15, .int .i64 a0_16, .int .i64 a0_17, .int .i64 a0_18, .string a0_19, .string a0_20, (.slice A0_21 l0_21.length c0_21), .int .i64 a0_22, .string a0_23, (.slice A0_24 l0_24.length c0_24)] 76 (0, 0))) ∧ Aside0 (wc.heap[gb483]? = some (.cells #[.int .i64 a1_0, .int .i64 a1_1, .int .i64 a1_2, .string a1_3, .int .i64 a1_4, .int .i64 a1_5, .string a1_6, .int .i64 a1_7, .int .i64 a1_8, .string a1_9, .int .i64 a1_10, .string a1_11, .int .i64 a1_12, .int .i64 a1_13, .int .i64 a1_14, .int .i64 a1_15, .int .i64 a1_16, .int .i64 a1_17, .int .i64 a1_18, .string a1_19, .string a1_20, (.slice A1_21 l1_21.length c1_21), .int .i64 a1_22, .string a1_23, (.slice A1_24 l1_24.length c1_24)] 76 (0, 0))) ∧ Aside0 (Below w.heap.size w wc))
        case first =>
          have H := HC160.out
          clear HC160
          have hx := cl11 BK482.out
          have hy := cl11 BK483.out
          repeat (fail_if_success (apply gate_dst (N := 80); · rfl)); (first | go_values | go_skip | go_guarded | go_step | go_upon)
          refine chain_first (d := 80) (pa := 2) (pb := 3) (pA := .pointer (some ⟨gb482, 0, none⟩)) (pB := .pointer (some ⟨gb483, 0, none⟩)) (qA := .pointer (some ⟨gb482, 11, none⟩)) (qB := .pointer (some ⟨gb483, 11, none⟩)) (x := .string a0_11) (y := .string a1_11) (c := (a0_11.toList != a1_11.toList)) (n := 174) rfl rfl rfl rfl rfl rfl rfl rfl rfl rfl rfl rfl rfl (by kernel_rfl) (by decide) (by decide) (by decide) rfl rfl (by intro ρ h; go_simp) (by intro ρ h; go_simp) (by intro ρ h; go_simp) (by intro ρ h; go_simp) (by intro ρ h h'; go_simp; all_goals simp [bne]) (fun t0 s0 k0 v0 => ?_)
          have A0 := (k0 2 (by omega)).trans rfl
          have B0 := (k0 3 (by omega)).trans rfl
          clear hx hy
          have hx := cl12 BK482.out
          have hy := cl12 BK483.out
          refine chain_core (d := 86) (pa := 2) (pb := 3) (g := 5) (dg := 85) (pA := .pointer (some ⟨gb482, 0, none⟩)) (pB := .pointer (some ⟨gb483, 0, none⟩)) (qA := .pointer (some ⟨gb482, 12, none⟩)) (qB := .pointer (some ⟨gb483, 12, none⟩)) (x := .int .i64 a0_12) (y := .int .i64 a1_12) (c := (a0_12 != a1_12)) (n := 174) rfl rfl rfl rfl rfl rfl rfl rfl rfl rfl rfl rfl rfl rfl s0 (by decide) (by decide) (by decide) (by decide) A0 B0 v0 (by intro ρ h; go_simp) (by intro ρ h; go_simp) (by intro ρ h; go_simp) (by intro ρ h; go_simp) (by intro ρ h h'; go_simp; all_goals simp [bne]) (fun t1 s1 k1 v1 => ?_)
          have A1 := (k1 2 (by omega)).trans A0
          have B1 := (k1 3 (by omega)).trans B0
          clear A0 B0 v0 s0
          refine chain_move (d := 91) rfl rfl rfl s1 (by decide) v1 (fun t2 s2 k2 v2 => ?_)
          have A2 := (k2 2 (by omega)).trans A1
          have B2 := (k2 3 (by omega)).trans B1
          clear A1 B1 v1 s1
          clear hx hy
          have hx := cl13 BK482.out
          have hy := cl13 BK483.out
          refine chain_core (d := 93) (pa := 2) (pb := 3) (g := 12) (dg := 92) (pA := .pointer (some ⟨gb482, 0, none⟩)) (pB := .pointer (some ⟨gb483, 0, none⟩)) (qA := .pointer (some ⟨gb482, 13, none⟩)) (qB := .pointer (some ⟨gb483, 13, none⟩)) (x := .int .i64 a0_13) (y := .int .i64 a1_13) (c := (a0_13 != a1_13)) (n := 174) rfl rfl rfl rfl rfl rfl rfl rfl rfl rfl rfl rfl rfl rfl s2 (by decide) (by decide) (by decide) (by decide) A2 B2 v2 (by intro ρ h; go_simp) (by intro ρ h; go_simp) (by intro ρ h; go_simp) (by intro ρ h; go_simp) (by intro ρ h h'; go_simp; all_goals simp [bne]) (fun t3 s3 k3 v3 => ?_)
          have A3 := (k3 2 (by omega)).trans A2
          have B3 := (k3 3 (by omega)).trans B2
          clear A2 B2 v2 s2
          refine chain_move (d := 98) rfl rfl rfl s3 (by decide) v3 (fun t4 s4 k4 v4 => ?_)
          have A4 := (k4 2 (by omega)).trans A3
          have B4 := (k4 3 (by omega)).trans B3
          clear A3 B3 v3 s3
          clear hx hy
          have hx := cl14 BK482.out
          have hy := cl14 BK483.out
          refine chain_core (d := 100) (pa := 2) (pb := 3) (g := 19) (dg := 99) (pA := .pointer (some ⟨gb482, 0, none⟩)) (pB := .pointer (some ⟨gb483, 0, none⟩)) (qA := .pointer (some ⟨gb482, 14, none⟩)) (qB := .pointer (some ⟨gb483, 14, none⟩)) (x := .int .i64 a0_14) (y := .int .i64 a1_14) (c := (a0_14 != a1_14)) (n := 174) rfl rfl rfl rfl rfl rfl rfl rfl rfl rfl rfl rfl rfl rfl s4 (by decide) (by decide) (by decide) (by decide) A4 B4 v4 (by intro ρ h; go_simp) (by intro ρ h; go_simp) (by intro ρ h; go_simp) (by intro ρ h; go_simp) (by intro ρ h h'; go_simp; all_goals simp [bne]) (fun t5 s5 k5 v5 => ?_)
          have A5 := (k5 2 (by omega)).trans A4
          have B5 := (k5 3 (by omega)).trans B4
          clear A4 B4 v4 s4
          refine chain_move (d := 105) rfl rfl rfl s5 (by decide) v5 (fun t6 s6 k6 v6 => ?_)
          have A6 := (k6 2 (by omega)).trans A5
          have B6 := (k6 3 (by omega)).trans B5
          clear A5 B5 v5 s5
          clear hx hy
          have hx := cl15 BK482.out
          have hy := cl15 BK483.out
          refine chain_core (d := 107) (pa := 2) (pb := 3) (g := 26) (dg := 106) (pA := .pointer (some ⟨gb482, 0, none⟩)) (pB := .pointer (some ⟨gb483, 0, none⟩)) (qA := .pointer (some ⟨gb482, 15, none⟩)) (qB := .pointer (some ⟨gb483, 15, none⟩)) (x := .int .i64 a0_15) (y := .int .i64 a1_15) (c := (a0_15 != a1_15)) (n := 174) rfl rfl rfl rfl rfl rfl rfl rfl rfl rfl rfl rfl rfl rfl s6 (by decide) (by decide) (by decide) (by decide) A6 B6 v6 (by intro ρ h; go_simp) (by intro ρ h; go_simp) (by intro ρ h; go_simp) (by intro ρ h; go_simp) (by intro ρ h h'; go_simp; all_goals simp [bne]) (fun t7 s7 k7 v7 => ?_)
          have A7 := (k7 2 (by omega)).trans A6
          have B7 := (k7 3 (by omega)).trans B6
          clear A6 B6 v6 s6
          refine chain_move (d := 112) rfl rfl rfl s7 (by decide) v7 (fun t8 s8 k8 v8 => ?_)
          have A8 := (k8 2 (by omega)).trans A7
          have B8 := (k8 3 (by omega)).trans B7
          clear A7 B7 v7 s7
          clear hx hy
          have hx := cl16 BK482.out
          have hy := cl16 BK483.out
          refine chain_core (d := 114) (pa := 2) (pb := 3) (g := 33) (dg := 113) (pA := .pointer (some ⟨gb482, 0, none⟩)) (pB := .pointer (some ⟨gb483, 0, none⟩)) (qA := .pointer (some ⟨gb482, 16, none⟩)) (qB := .pointer (some ⟨gb483, 16, none⟩)) (x := .int .i64 a0_16) (y := .int .i64 a1_16) (c := (a0_16 != a1_16)) (n := 174) rfl rfl rfl rfl rfl rfl rfl rfl rfl rfl rfl rfl rfl rfl s8 (by decide) (by decide) (by decide) (by decide) A8 B8 v8 (by intro ρ h; go_simp) (by intro ρ h; go_simp) (by intro ρ h; go_simp) (by intro ρ h; go_simp) (by intro ρ h h'; go_simp; all_goals simp [bne]) (fun t9 s9 k9 v9 => ?_)
          have A9 := (k9 2 (by omega)).trans A8
          have B9 := (k9 3 (by omega)).trans B8
          clear A8 B8 v8 s8
          refine chain_move (d := 119) rfl rfl rfl s9 (by decide) v9 (fun t10 s10 k10 v10 => ?_)
          have A10 := (k10 2 (by omega)).trans A9
          have B10 := (k10 3 (by omega)).trans B9
          clear A9 B9 v9 s9
          clear hx hy
          have hx := cl17 BK482.out
          have hy := cl17 BK483.out
          refine chain_core (d := 121) (pa := 2) (pb := 3) (g := 40) (dg := 120) (pA := .pointer (some ⟨gb482, 0, none⟩)) (pB := .pointer (some ⟨gb483, 0, none⟩)) (qA := .pointer (some ⟨gb482, 17, none⟩)) (qB := .pointer (some ⟨gb483, 17, none⟩)) (x := .int .i64 a0_17) (y := .int .i64 a1_17) (c := (a0_17 != a1_17)) (n := 174) rfl rfl rfl rfl rfl rfl rfl rfl rfl rfl rfl rfl rfl rfl s10 (by decide) (by decide) (by decide) (by decide) A10 B10 v10 (by intro ρ h; go_simp) (by intro ρ h; go_simp) (by intro ρ h; go_simp) (by intro ρ h; go_simp) (by intro ρ h h'; go_simp; all_goals simp [bne]) (fun t11 s11 k11 v11 => ?_)
          have A11 := (k11 2 (by omega)).trans A10
          have B11 := (k11 3 (by omega)).trans B10
          clear A10 B10 v10 s10
          refine chain_move (d := 126) rfl rfl rfl s11 (by decide) v11 (fun t12 s12 k12 v12 => ?_)
          have A12 := (k12 2 (by omega)).trans A11
          have B12 := (k12 3 (by omega)).trans B11
          clear A11 B11 v11 s11
          clear hx hy
          have hx := cl18 BK482.out
          have hy := cl18 BK483.out
          refine chain_core (d := 128) (pa := 2) (pb := 3) (g := 47) (dg := 127) (pA := .pointer (some ⟨gb482, 0, none⟩)) (pB := .pointer (some ⟨gb483, 0, none⟩)) (qA := .pointer (some ⟨gb482, 18, none⟩)) (qB := .pointer (some ⟨gb483, 18, none⟩)) (x := .int .i64 a0_18) (y := .int .i64 a1_18) (c := (a0_18 != a1_18)) (n := 174) rfl rfl rfl rfl rfl rfl rfl rfl rfl rfl rfl rfl rfl rfl s12 (by decide) (by decide) (by decide) (by decide) A12 B12 v12 (by intro ρ h; go_simp) (by intro ρ h; go_simp) (by intro ρ h; go_simp) (by intro ρ h; go_simp) (by intro ρ h h'; go_simp; all_goals simp [bne]) (fun t13 s13 k13 v13 => ?_)
          have A13 := (k13 2 (by omega)).trans A12
          have B13 := (k13 3 (by omega)).trans B12
          clear A12 B12 v12 s12
          refine chain_move (d := 133) rfl rfl rfl s13 (by decide) v13 (fun t14 s14 k14 v14 => ?_)
          have A14 := (k14 2 (by omega)).trans A13
          have B14 := (k14 3 (by omega)).trans B13
          clear A13 B13 v13 s13
          clear hx hy
          have hx := cl19 BK482.out
          have hy := cl19 BK483.out
          refine chain_core (d := 135) (pa := 2) (pb := 3) (g := 54) (dg := 134) (pA := .pointer (some ⟨gb482, 0, none⟩)) (pB := .pointer (some ⟨gb483, 0, none⟩)) (qA := .pointer (some ⟨gb482, 19, none⟩)) (qB := .pointer (some ⟨gb483, 19, none⟩)) (x := .string a0_19) (y := .string a1_19) (c := (a0_19.toList != a1_19.toList)) (n := 174) rfl rfl rfl rfl rfl rfl rfl rfl rfl rfl rfl rfl rfl rfl s14 (by decide) (by decide) (by decide) (by decide) A14 B14 v14 (by intro ρ h; go_simp) (by intro ρ h; go_simp) (by intro ρ h; go_simp) (by intro ρ h; go_simp) (by intro ρ h h'; go_simp; all_goals simp [bne]) (fun t15 s15 k15 v15 => ?_)
          have A15 := (k15 2 (by omega)).trans A14
          have B15 := (k15 3 (by omega)).trans B14
          clear A14 B14 v14 s14
          refine chain_move (d := 140) rfl rfl rfl s15 (by decide) v15 (fun t16 s16 k16 v16 => ?_)
          have A16 := (k16 2 (by omega)).trans A15
          have B16 := (k16 3 (by omega)).trans B15
          clear A15 B15 v15 s15
          clear hx hy
          have hx := cl20 BK482.out
          have hy := cl20 BK483.out
          refine chain_core (d := 142) (pa := 2) (pb := 3) (g := 61) (dg := 141) (pA := .pointer (some ⟨gb482, 0, none⟩)) (pB := .pointer (some ⟨gb483, 0, none⟩)) (qA := .pointer (some ⟨gb482, 20, none⟩)) (qB := .pointer (some ⟨gb483, 20, none⟩)) (x := .string a0_20) (y := .string a1_20) (c := (a0_20.toList != a1_20.toList)) (n := 174) rfl rfl rfl rfl rfl rfl rfl rfl rfl rfl rfl rfl rfl rfl s16 (by decide) (by decide) (by decide) (by decide) A16 B16 v16 (by intro ρ h; go_simp) (by intro ρ h; go_simp) (by intro ρ h; go_simp) (by intro ρ h; go_simp) (by intro ρ h h'; go_simp; all_goals simp [bne]) (fun t17 s17 k17 v17 => ?_)
          have A17 := (k17 2 (by omega)).trans A16
          have B17 := (k17 3 (by omega)).trans B16
          clear A16 B16 v16 s16
          refine chain_move (d := 147) rfl rfl rfl s17 (by decide) v17 (fun t18 s18 k18 v18 => ?_)
          have A18 := (k18 2 (by omega)).trans A17
          have B18 := (k18 3 (by omega)).trans B17
          clear A17 B17 v17 s17
          clear hx hy
          have hx := cl22 BK482.out
          have hy := cl22 BK483.out
          refine chain_core (d := 149) (pa := 2) (pb := 3) (g := 68) (dg := 148) (pA := .pointer (some ⟨gb482, 0, none⟩)) (pB := .pointer (some ⟨gb483, 0, none⟩)) (qA := .pointer (some ⟨gb482, 22, none⟩)) (qB := .pointer (some ⟨gb483, 22, none⟩)) (x := .int .i64 a0_22) (y := .int .i64 a1_22) (c := (a0_22 != a1_22)) (n := 174) rfl rfl rfl rfl rfl rfl rfl rfl rfl rfl rfl rfl rfl rfl s18 (by decide) (by decide) (by decide) (by decide) A18 B18 v18 (by intro ρ h; go_simp) (by intro ρ h; go_simp) (by intro ρ h; go_simp) (by intro ρ h; go_simp) (by intro ρ h h'; go_simp; all_goals simp [bne]) (fun t19 s19 k19 v19 => ?_)
          have A19 := (k19 2 (by omega)).trans A18
          have B19 := (k19 3 (by omega)).trans B18
          clear A18 B18 v18 s18
          refine chain_move (d := 154) rfl rfl rfl s19 (by decide) v19 (fun t20 s20 k20 v20 => ?_)
          have A20 := (k20 2 (by omega)).trans A19
          have B20 := (k20 3 (by omega)).trans B19
          clear A19 B19 v19 s19
          clear hx hy
          have hx := cl23 BK482.out
          have hy := cl23 BK483.out
          refine chain_core (d := 156) (pa := 2) (pb := 3) (g := 75) (dg := 155) (pA := .pointer (some ⟨gb482, 0, none⟩)) (pB := .pointer (some ⟨gb483, 0, none⟩)) (qA := .pointer (some ⟨gb482, 23, none⟩)) (qB := .pointer (some ⟨gb483, 23, none⟩)) (x := .string a0_23) (y := .string a1_23) (c := (a0_23.toList != a1_23.toList)) (n := 174) rfl rfl rfl rfl rfl rfl rfl rfl rfl rfl rfl rfl rfl rfl s20 (by decide) (by decide) (by decide) (by decide) A20 B20 v20 (by intro ρ h; go_simp) (by intro ρ h; go_simp) (by intro ρ h; go_simp) (by intro ρ h; go_simp) (by intro ρ h h'; go_simp; all_goals simp [bne]) (fun t21 s21 k21 v21 => ?_)
          have A21 := (k21 2 (by omega)).trans A20
          have B21 := (k21 3 (by omega)).trans B20
          clear A20 B20 v20 s20
          clear hx hy
          have hK : ∀ i, i < 80 ∨ 161 < i → t21[i]? = _ := fun i hi => (k21 i (by omega)).trans ((k20 i (by omega)).trans ((k19 i (by omega)).trans ((k18 i (by omega)).trans ((k17 i (by omega)).trans ((k16 i (by omega)).trans ((k15 i (by omega)).trans ((k14 i (by omega)).trans ((k13 i (by omega)).trans ((k12 i (by omega)).trans ((k11 i (by omega)).trans ((k10 i (by omega)).trans ((k9 i (by omega)).trans ((k8 i (by omega)).trans ((k7 i (by omega)).trans ((k6 i (by omega)).trans ((k5 i (by omega)).trans ((k4 i (by omega)).trans ((k3 i (by omega)).trans ((k2 i (by omega)).trans ((k1 i (by omega)).trans (k0 i (by omega))))))))))))))))))))))
          clear k0 k1 k2 k3 k4 k5 k6 k7 k8 k9 k10 k11 k12 k13 k14 k15 k16 k17 k18 k19 k20 k21
          have hM := frame_mix (lo := 80) (hi := 161) s21 (by kernel_rfl) hK
          have hv : t21.getD 161 undef = .bool _ := ch_eval (df := []) v21
          apply wpList_nil
          rw [hM]
          clear hM hK
          repeat (first | go_values | go_step)
          refine Met.intro ?_
          go_step
          (repeat apply Exists.intro)
          refine ⟨?rel, rfl⟩
          case rel =>
            refine ⟨kj2, ((((((((((((a0_11.toList != a1_11.toList) || (a0_12 != a1_12)) || (a0_13 != a1_13)) || (a0_14 != a1_14)) || (a0_15 != a1_15)) || (a0_16 != a1_16)) || (a0_17 != a1_17)) || (a0_18 != a1_18)) || (a0_19.toList != a1_19.toList)) || (a0_20.toList != a1_20.toList)) || (a0_22 != a1_22)) || (a0_23.toList != a1_23.toList)), hv, ⟨?_⟩, ⟨by have := HJ2.out; first | omega | exact Nat.le_refl _⟩, ⟨blk_below BK482.out bll⟩, ⟨blk_below BK483.out bll⟩, ⟨bel⟩⟩
            by_cases c : a0_11.toList = a1_11.toList
            · rw [if_pos c] at H
              rw [show (a0_11.toList != a1_11.toList) = false from bne_eq_false_iff_eq.mpr c, Bool.false_or]
              by_cases c : a0_12 = a1_12
              · rw [if_pos c] at H
                rw [show (a0_12 != a1_12) = false from bne_eq_false_iff_eq.mpr c, Bool.false_or]
                by_cases c : a0_13 = a1_13
                · rw [if_pos c] at H
                  rw [show (a0_13 != a1_13) = false from bne_eq_false_iff_eq.mpr c, Bool.false_or]
                  by_cases c : a0_14 = a1_14
                  · rw [if_pos c] at H
                    rw [show (a0_14 != a1_14) = false from bne_eq_false_iff_eq.mpr c, Bool.false_or]
                    by_cases c : a0_15 = a1_15
                    · rw [if_pos c] at H
                      rw [show (a0_15 != a1_15) = false from bne_eq_false_iff_eq.mpr c, Bool.false_or]
                      by_cases c : a0_16 = a1_16
                      · rw [if_pos c] at H
                        rw [show (a0_16 != a1_16) = false from bne_eq_false_iff_eq.mpr c, Bool.false_or]
                        by_cases c : a0_17 = a1_17
                        · rw [if_pos c] at H
                          rw [show (a0_17 != a1_17) = false from bne_eq_false_iff_eq.mpr c, Bool.false_or]
                          by_cases c : a0_18 = a1_18
                          · rw [if_pos c] at H
                            rw [show (a0_18 != a1_18) = false from bne_eq_false_iff_eq.mpr c, Bool.false_or]
                            by_cases c : a0_19.toList = a1_19.toList
                            · rw [if_pos c] at H
                              rw [show (a0_19.toList != a1_19.toList) = false from bne_eq_false_iff_eq.mpr c, Bool.false_or]
                              by_cases c : a0_20.toList = a1_20.toList
                              · rw [if_pos c] at H
                                rw [show (a0_20.toList != a1_20.toList) = false from bne_eq_false_iff_eq.mpr c, Bool.false_or]
                                by_cases c : a0_22 = a1_22
                                · rw [if_pos c] at H
                                  rw [show (a0_22 != a1_22) = false from bne_eq_false_iff_eq.mpr c, Bool.false_or]
                                  exact H
                                · rw [if_neg c] at H
                                  rw [show (a0_22 != a1_22) = true from bne_iff_ne.mpr c]
                                  simp only [Bool.true_or]
                                  exact H
                              · rw [if_neg c] at H
                                rw [show (a0_20.toList != a1_20.toList) = true from bne_iff_ne.mpr c]
                                simp only [Bool.true_or]
                                exact H
                            · rw [if_neg c] at H
                              rw [show (a0_19.toList != a1_19.toList) = true from bne_iff_ne.mpr c]
                              simp only [Bool.true_or]
                              exact H
                          · rw [if_neg c] at H
                            rw [show (a0_18 != a1_18) = true from bne_iff_ne.mpr c]
                            simp only [Bool.true_or]
                            exact H
                        · rw [if_neg c] at H
                          rw [show (a0_17 != a1_17) = true from bne_iff_ne.mpr c]
                          simp only [Bool.true_or]
                          exact H
                      · rw [if_neg c] at H
                        rw [show (a0_16 != a1_16) = true from bne_iff_ne.mpr c]
                        simp only [Bool.true_or]
                        exact H
                    · rw [if_neg c] at H
                      rw [show (a0_15 != a1_15) = true from bne_iff_ne.mpr c]
                      simp only [Bool.true_or]
                      exact H
                  · rw [if_neg c] at H
                    rw [show (a0_14 != a1_14) = true from bne_iff_ne.mpr c]
                    simp only [Bool.true_or]
                    exact H
                · rw [if_neg c] at H
                  rw [show (a0_13 != a1_13) = true from bne_iff_ne.mpr c]
                  simp only [Bool.true_or]
                  exact H
              · rw [if_neg c] at H
                rw [show (a0_12 != a1_12) = true from bne_iff_ne.mpr c]
                simp only [Bool.true_or]
                exact H
            · rw [if_neg c] at H
              rw [show (a0_11.toList != a1_11.toList) = true from bne_iff_ne.mpr c]
              simp only [Bool.true_or]
              exact H
        case rest =>
          clear HC160
          try clear c159
          obtain ⟨kq, x161_159, rfl, HA, HJ159, BK482, BK483, HB⟩ := hcut
          cases kq with
          | zero => exact absurd HA.out (by simp [roadbookref07_Same.j1])
          | succ kj159 =>
            have H := HA.out
            clear HA
            simp only [roadbookref07_Same.j1] at H
            by_cases c340 : x161_159 = true
            · subst c340
              have H1 : (some false) = some r := by rw [if_pos rfl] at H; exact H
              clear H
              have H := H1
              clear H1
              obtain rfl := Option.some.inj H
              go_wp2
              go_ret
              exact ⟨rtE, bel⟩
            · replace c340 := Bool.eq_false_iff.mpr c340
              subst c340
              have H1 : ((roadbookref07_dests.f kj159 l0_21 l1_21).bind fun t484 => (if t484 = true then ((roadbookref07_subs.f kj159 l0_24 l1_24).bind fun t485 => (some t485)) else (some false))) = some r := by rw [if_neg (show ¬ (false = true) by decide)] at H; exact H
              clear H
              have H := H1
              clear H1
              replace H := Option.bind_eq_some_iff.mp H
              obtain ⟨t484, A3410, H⟩ := H
              replace H : (if t484 = true then ((roadbookref07_subs.f kj159 l0_24 l1_24).bind fun t485 => (some t485)) else (some false)) = some r := H
              have A341 := Aside0.mk A3410
              clear A3410
              by_cases c342 : t484 = true
              · subst c342
                have H1 : ((roadbookref07_subs.f kj159 l0_24 l1_24).bind fun t485 => (some t485)) = some r := by rw [if_pos rfl] at H; exact H
                clear H
                have H := H1
                clear H1
                replace H := Option.bind_eq_some_iff.mp H
                obtain ⟨t485, A3430, H⟩ := H
                replace H : (some t485) = some r := H
                have A343 := Aside0.mk A3430
                clear A3430
                obtain rfl := Option.some.inj H
                have hnb344 := NB482_483.out
                have hnc344 := NB483_482.out
                have hcz345_21 := cl21 BK482.out
                have hfz345_21 := blk_frozen BK482.out 21
                have hcz346_21 := cl21 BK483.out
                have hfz346_21 := blk_frozen BK483.out 21
                go_wp2_with (first | ((with_reducible refine gate_callee (f := 58) rfl ?_); refine goesL_ (some 166) rfl rfl Try.func58 (by kernel_rfl) rfl #[.slice A0_21 l0_21.length c0_21, .slice A1_21 l1_21.length c1_21] rfl gAr ?_; (with_reducible refine (roadbookref07_dests.calls kj159 _ _ l0_21 _ _ l1_21 true _ ?side1 ?side2 ?side3 ?side4 A341.out).mono ?_); (case side1 => repeat (first | exact (Kd.C_below HR0_21.out HB.out) | (with_reducible refine Kd.C_alloc ?_ _) | (with_reducible refine Kd.C_drewN ?_ _) | (with_reducible refine Kd.C_drew ?_))); (case side2 => exact HC0_21.out); (case side3 => repeat (first | exact (Kd.C_below HR1_21.out HB.out) | (with_reducible refine Kd.C_alloc ?_ _) | (with_reducible refine Kd.C_drewN ?_ _) | (with_reducible refine Kd.C_drew ?_))); (case side4 => exact HC1_21.out); rintro e w' ⟨rfl, ⟨nd, rfl⟩⟩; refine ⟨_, rfl, ?_⟩; have hcz347_24 := cl24 BK482.out; have hfz347_24 := blk_frozen BK482.out 24; have hcz348_24 := cl24 BK483.out; have hfz348_24 := blk_frozen BK483.out 24) | (go_at_call 59; (with_reducible refine (roadbookref07_subs.calls kj159 _ _ l0_24 _ _ l1_24 t485 _ ?side1 ?side2 ?side3 ?side4 A343.out).mono ?_); (case side1 => repeat (first | exact (Kd.C_below HR0_24.out (bel)) | (with_reducible refine Kd.C_alloc ?_ _) | (with_reducible refine Kd.C_drewN ?_ _) | (with_reducible refine Kd.C_drew ?_))); (case side2 => exact HC0_24.out); (case side3 => repeat (first | exact (Kd.C_below HR1_24.out (bel)) | (with_reducible refine Kd.C_alloc ?_ _) | (with_reducible refine Kd.C_drewN ?_ _) | (with_reducible refine Kd.C_drew ?_))); (case side4 => exact HC1_24.out); rintro e w' ⟨rfl, ⟨nd, rfl⟩⟩))
                go_ret
                exact ⟨rtE, bel⟩
              · replace c342 := Bool.eq_false_iff.mpr c342
                subst c342
                have H1 : (some false) = some r := by rw [if_neg (show ¬ (false = true) by decide)] at H; exact H
                clear H
                have H := H1
                clear H1
                obtain rfl := Option.some.inj H
                have hnb349 := NB482_483.out
                have hnc349 := NB483_482.out
                have hcz350_21 := cl21 BK482.out
                have hfz350_21 := blk_frozen BK482.out 21
                have hcz351_21 := cl21 BK483.out
                have hfz351_21 := blk_frozen BK483.out 21
                go_wp2_with (first | ((with_reducible refine gate_callee (f := 58) rfl ?_); refine goesL_ (some 166) rfl rfl Try.func58 (by kernel_rfl) rfl #[.slice A0_21 l0_21.length c0_21, .slice A1_21 l1_21.length c1_21] rfl gAr ?_; (with_reducible refine (roadbookref07_dests.calls kj159 _ _ l0_21 _ _ l1_21 false _ ?side1 ?side2 ?side3 ?side4 A341.out).mono ?_); (case side1 => repeat (first | exact (Kd.C_below HR0_21.out HB.out) | (with_reducible refine Kd.C_alloc ?_ _) | (with_reducible refine Kd.C_drewN ?_ _) | (with_reducible refine Kd.C_drew ?_))); (case side2 => exact HC0_21.out); (case side3 => repeat (first | exact (Kd.C_below HR1_21.out HB.out) | (with_reducible refine Kd.C_alloc ?_ _) | (with_reducible refine Kd.C_drewN ?_ _) | (with_reducible refine Kd.C_drew ?_))); (case side4 => exact HC1_21.out); rintro e w' ⟨rfl, ⟨nd, rfl⟩⟩; refine ⟨_, rfl, ?_⟩))
                go_ret
                exact ⟨rtE, bel⟩

/-! ### roadbooklaw19_same: function 37 -/
def roadbooklaw19_same.f (k : Nat) (l0 : List (S78)) (l1 : List (S78)) : Option (Bool) := (roadbookref07_Same.f k 0 0 0 (⟨#[]⟩ : ByteArray) 0 0 (⟨#[]⟩ : ByteArray) 0 0 (⟨#[]⟩ : ByteArray) 0 (⟨#[]⟩ : ByteArray) 0 0 0 0 0 0 0 (⟨#[]⟩ : ByteArray) (⟨#[]⟩ : ByteArray) ([] : List (S88)) 0 (⟨#[]⟩ : ByteArray) l0 0 0 0 (⟨#[]⟩ : ByteArray) 0 0 (⟨#[]⟩ : ByteArray) 0 0 (⟨#[]⟩ : ByteArray) 0 (⟨#[]⟩ : ByteArray) 0 0 0 0 0 0 0 (⟨#[]⟩ : ByteArray) (⟨#[]⟩ : ByteArray) ([] : List (S88)) 0 (⟨#[]⟩ : ByteArray) l1).bind fun t486 => (some t486)
theorem roadbooklaw19_same.mono : ∀ a0 a1 k, LeO (roadbooklaw19_same.f k a0 a1) (roadbooklaw19_same.f (k + 1) a0 a1) := by
  intro a0 a1 k
  unfold roadbooklaw19_same.f
  repeat' first
      | (with_reducible exact roadbookref07_Same.mono _ _ _ _ _ _ _ _ _ _ _ _ _ _ _ _ _ _ _ _ _ _ _ _ _ _ _ _ _ _ _ _ _ _ _ _ _ _ _ _ _ _ _ _ _ _ _ _ _ _ _)
      | (with_reducible exact LeO.refl _)
      | (with_reducible exact LeO.none _)
      | (with_reducible refine LeO.ite ?_ ?_)
      | (with_reducible refine LeO.bind ?_ (fun _ => ?_))
      | exact roadbookref07_Same.mono _ _ _ _ _ _ _ _ _ _ _ _ _ _ _ _ _ _ _ _ _ _ _ _ _ _ _ _ _ _ _ _ _ _ _ _ _ _ _ _ _ _ _ _ _ _ _ _ _ _ _
      | exact LeO.none _
      | refine LeO.ite ?_ ?_
      | refine LeO.bind ?_ (fun _ => ?_)
set_option maxHeartbeats 8000000 in
set_option maxRecDepth 100000 in
theorem roadbooklaw19_same.calls (k : Nat) (A0 : Option Addr) (c0 : Nat) (l0 : List (S78)) (A1 : Option Addr) (c1 : Nat) (l1 : List (S78)) (r : Bool) (w : World) (hr0 : Kd.C k78 w A0 l0.length l0) (hc0 : l0.length ≤ c0) (hr1 : Kd.C k78 w A1 l1.length l1) (hc1 : l1.length ≤ c1) (h : roadbooklaw19_same.f k l0 l1 = some r) :
    Calls Try.prog 37 #[.slice A0 l0.length c0, .slice A1 l1.length c1] w fun e w' => e = .returned (.bool r) ∧ Below w.heap.size w w' := by
  have hu76 := Try.underlying76
  have HR0 := Aside0.mk hr0
  have HC0 := Aside0.mk hc0
  clear hr0 hc0
  have HR1 := Aside0.mk hr1
  have HC1 := Aside0.mk hc1
  clear hr1 hc1
  have HB := Aside0.mk (Below.refl w.heap.size w)
  have H : ((roadbookref07_Same.f k 0 0 0 (⟨#[]⟩ : ByteArray) 0 0 (⟨#[]⟩ : ByteArray) 0 0 (⟨#[]⟩ : ByteArray) 0 (⟨#[]⟩ : ByteArray) 0 0 0 0 0 0 0 (⟨#[]⟩ : ByteArray) (⟨#[]⟩ : ByteArray) ([] : List (S88)) 0 (⟨#[]⟩ : ByteArray) l0 0 0 0 (⟨#[]⟩ : ByteArray) 0 0 (⟨#[]⟩ : ByteArray) 0 0 (⟨#[]⟩ : ByteArray) 0 (⟨#[]⟩ : ByteArray) 0 0 0 0 0 0 0 (⟨#[]⟩ : ByteArray) (⟨#[]⟩ : ByteArray) ([] : List (S88)) 0 (⟨#[]⟩ : ByteArray) l1).bind fun t486 => (some t486)) = some r := h
  clear h
  replace H := Option.bind_eq_some_iff.mp H
  obtain ⟨t486, A30, H⟩ := H
  replace H : (some t486) = some r := H
  have A3 := Aside0.mk A30
  clear A30
  obtain rfl := Option.some.inj H
  go_enter Try.func37, Try.ntmps37
  go_wp2_with (first | ((with_reducible refine gate_callee (f := 54) rfl ?_); refine goesL_ (some 9) rfl rfl Try.func54 (by kernel_rfl) rfl #[.agg #[.int .i64 0, .int .i64 0, .int .i64 0, .string (⟨#[]⟩ : ByteArray), .int .i64 0, .int .i64 0, .string (⟨#[]⟩ : ByteArray), .int .i64 0, .int .i64 0, .string (⟨#[]⟩ : ByteArray), .int .i64 0, .string (⟨#[]⟩ : ByteArray), .int .i64 0, .int .i64 0, .int .i64 0, .int .i64 0, .int .i64 0, .int .i64 0, .int .i64 0, .string (⟨#[]⟩ : ByteArray), .string (⟨#[]⟩ : ByteArray), .slice none 0 0, .int .i64 0, .string (⟨#[]⟩ : ByteArray), .slice A0 l0.length c0], .agg #[.int .i64 0, .int .i64 0, .int .i64 0, .string (⟨#[]⟩ : ByteArray), .int .i64 0, .int .i64 0, .string (⟨#[]⟩ : ByteArray), .int .i64 0, .int .i64 0, .string (⟨#[]⟩ : ByteArray), .int .i64 0, .string (⟨#[]⟩ : ByteArray), .int .i64 0, .int .i64 0, .int .i64 0, .int .i64 0, .int .i64 0, .int .i64 0, .int .i64 0, .string (⟨#[]⟩ : ByteArray), .string (⟨#[]⟩ : ByteArray), .slice none 0 0, .int .i64 0, .string (⟨#[]⟩ : ByteArray), .slice A1 l1.length c1]] rfl gAr ?_; (refine (roadbookref07_Same.calls k 0 0 0 (⟨#[]⟩ : ByteArray) 0 0 (⟨#[]⟩ : ByteArray) 0 0 (⟨#[]⟩ : ByteArray) 0 (⟨#[]⟩ : ByteArray) 0 0 0 0 0 0 0 (⟨#[]⟩ : ByteArray) (⟨#[]⟩ : ByteArray) _ _ ([] : List (S88)) 0 (⟨#[]⟩ : ByteArray) _ _ l0 0 0 0 (⟨#[]⟩ : ByteArray) 0 0 (⟨#[]⟩ : ByteArray) 0 0 (⟨#[]⟩ : ByteArray) 0 (⟨#[]⟩ : ByteArray) 0 0 0 0 0 0 0 (⟨#[]⟩ : ByteArray) (⟨#[]⟩ : ByteArray) _ _ ([] : List (S88)) 0 (⟨#[]⟩ : ByteArray) _ _ l1 t486 _ ?side1 ?side2 ?side3 ?side4 ?side5 ?side6 ?side7 ?side8 A3.out).mono ?_); (case side1 => exact Kd.C_nil _ _); (case side2 => exact Nat.le_refl _); (case side3 => repeat (first | exact HR0.out | (with_reducible refine Kd.C_alloc ?_ _) | (with_reducible refine Kd.C_drewN ?_ _) | (with_reducible refine Kd.C_drew ?_))); (case side4 => exact HC0.out); (case side5 => exact Kd.C_nil _ _); (case side6 => exact Nat.le_refl _); (case side7 => repeat (first | exact HR1.out | (with_reducible refine Kd.C_alloc ?_ _) | (with_reducible refine Kd.C_drewN ?_ _) | (with_reducible refine Kd.C_drew ?_))); (case side8 => exact HC1.out); rintro e w4 ⟨rfl, hb⟩; refine ⟨_, rfl, ?_⟩; have n0_ := Aside0.mk (below_step (bel) hb); clear HB; have HB := n0_; clear n0_; (try clear hb)))
  go_ret
  exact ⟨rtE, bel⟩

end Go.Proofs.Ytjgnpggpgkkknaa.Pr
