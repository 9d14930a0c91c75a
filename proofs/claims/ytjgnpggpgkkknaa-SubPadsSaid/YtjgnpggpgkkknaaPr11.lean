-- Written by wip/tools/xprint.py of this repo over the kit's printer, out of the translation. Lean checks it.
import Derived.Test.YtjgnpggpgkkknaaPr0
import Derived.Test.YtjgnpggpgkkknaaPr2
import Derived.Test.YtjgnpggpgkkknaaPr9
import Derived.Test.YtjgnpggpgkkknaaPr10
namespace Go.Proofs.Ytjgnpggpgkkknaa.Pr
open Go.RowKit Go.Proofs.YtjgnpggpgkkknaaW.PrintWords Go.Proofs.YtjgnpggpgkkknaaW.PrintLast
set_option linter.unusedVariables false
set_option linter.unusedSimpArgs false

attribute [local go_sem high] eqA47
/-! ### roadbookref18_Same: function 19 -/
def roadbookref18_Same.l0 : Nat → List (S47) → List (S47) → Int → Option (Bool)
  | 0, _, _, _ => none
  | k + 1, x0, x1, x5 => if x5 < (x0.length : Int) then (if 0 ≤ x5 then (if x5 < (x1.length : Int) then (if (!(((rd_T47 x0 x5).f0) == ((rd_T47 x1 x5).f0)) || (!(((rd_T47 x0 x5).f1) == ((rd_T47 x1 x5).f1)) || (!((((rd_T47 x0 x5).f2).toList) == (((rd_T47 x1 x5).f2).toList))))) = true then (some false) else (roadbookref18_Same.l0 k x0 x1 (wrap64 (x5 + 1)))) else (none)) else (none)) else (some true)
def roadbookref18_Same.f (k : Nat) (l0 : List (S47)) (l1 : List (S47)) : Option (Bool) := if (l0.length : Int) = (l1.length : Int) then (roadbookref18_Same.l0 k l0 l1 0) else (some false)
theorem roadbookref18_Same.mono_l : ∀ k, (∀ y0 y1 y2, LeO (roadbookref18_Same.l0 k y0 y1 y2) (roadbookref18_Same.l0 (k + 1) y0 y1 y2))
  | 0 => fun _ _ _ r h => by simp [roadbookref18_Same.l0] at h
  | k + 1 => by
    have ih0 := roadbookref18_Same.mono_l k
    · intro y0 y1 y2
      unfold roadbookref18_Same.l0
      repeat' first
      | (with_reducible exact ih0 _ _ _)
      | (with_reducible exact LeO.refl _)
      | (with_reducible exact LeO.none _)
      | (with_reducible refine LeO.ite ?_ ?_)
      | (with_reducible refine LeO.bind ?_ (fun _ => ?_))
      | exact ih0 _ _ _
      | exact LeO.none _
      | refine LeO.ite ?_ ?_
      | refine LeO.bind ?_ (fun _ => ?_)
theorem roadbookref18_Same.mono : ∀ a0 a1 k, LeO (roadbookref18_Same.f k a0 a1) (roadbookref18_Same.f (k + 1) a0 a1) := by
  intro a0 a1 k
  have ih0 := roadbookref18_Same.mono_l k
  unfold roadbookref18_Same.f
  repeat' first
      | (with_reducible exact ih0 _ _ _)
      | (with_reducible exact LeO.refl _)
      | (with_reducible exact LeO.none _)
      | (with_reducible refine LeO.ite ?_ ?_)
      | (with_reducible refine LeO.bind ?_ (fun _ => ?_))
      | exact ih0 _ _ _
      | exact LeO.none _
      | refine LeO.ite ?_ ?_
      | refine LeO.bind ?_ (fun _ => ?_)
set_option maxHeartbeats 8000000 in
set_option maxRecDepth 100000 in
theorem roadbookref18_Same.calls (k : Nat) (A0 : Option Addr) (c0 : Nat) (l0 : List (S47)) (A1 : Option Addr) (c1 : Nat) (l1 : List (S47)) (r : Bool) (w : World) (hr0 : Kd.C k47 w A0 l0.length l0) (hc0 : l0.length ≤ c0) (hr1 : Kd.C k47 w A1 l1.length l1) (hc1 : l1.length ≤ c1) (h : roadbookref18_Same.f k l0 l1 = some r) :
    Calls Try.prog 19 #[.slice A0 l0.length c0, .slice A1 l1.length c1] w fun e w' => e = .returned (.bool r) ∧ Drawn0 w w' := by
  have hu47 := Try.underlying47
  have HR0 := Aside0.mk hr0
  have HC0 := Aside0.mk hc0
  clear hr0 hc0
  have HR1 := Aside0.mk hr1
  have HC1 := Aside0.mk hc1
  clear hr1 hc1
  have H : (if (l0.length : Int) = (l1.length : Int) then (roadbookref18_Same.l0 k l0 l1 0) else (some false)) = some r := h
  clear h
  by_cases c3 : (l0.length : Int) = (l1.length : Int)
  · rw [if_pos c3] at H
    have c3b0 : ((l0.length : Int) == (l1.length : Int)) = true := beq_iff_eq.mpr c3
    have c3b1 : ((l0.length : Int) != (l1.length : Int)) = false := bne_eq_false_iff_eq.mpr c3
    have c3b2 : (l0.length == l1.length) = true := by first | simpa using c3 | (simp at c3 ⊢; omega)
    clear c3
    have H' := Aside0.mk H
    clear H
    go_enter Try.func19, Try.ntmps19
    go_wp2
    repeat (go_quiet (fail); try go_wp2)
    go_loopg [5] k (fun kq v5 w' => ∃ (x5_1 : Int), v5 = .int .i64 x5_1 ∧ Aside0 (roadbookref18_Same.l0 kq l0 l1 x5_1 = some r) ∧ Aside0 (kq ≤ k) ∧ Drawn0 w w')
    case atStart => exact ⟨(0), rfS, H', ⟨Nat.le_refl _⟩, by repeat (first | exact Drawn0.refl _ | apply Drawn0.step)⟩
    case round =>
      clear H'
      try clear c1
      try clear c3
      try clear c3b0
      try clear c3b1
      try clear c3b2
      obtain ⟨x5_1, rfl, HA, HK1, ⟨m1, rfl⟩⟩ := hrel
      cases gk with
      | zero => exact absurd HA.out (by simp [roadbookref18_Same.l0])
      | succ k1 =>
        have H := HA.out
        clear HA
        simp only [roadbookref18_Same.l0] at H
        by_cases c4 : x5_1 < (l0.length : Int)
        · rw [if_pos c4] at H
          have c4b0 : decide (x5_1 < (l0.length : Int)) = true := decide_eq_true c4
          clear c4
          by_cases c5 : 0 ≤ x5_1
          · rw [if_pos c5] at H
            have c5b0 : decide (0 ≤ x5_1) = true := decide_eq_true c5
            clear c5
            by_cases c6 : x5_1 < (l1.length : Int)
            · rw [if_pos c6] at H
              have c6b0 : decide (x5_1 < (l1.length : Int)) = true := decide_eq_true c6
              clear c6
              by_cases c7 : (!(((rd_T47 l0 x5_1).f0) == ((rd_T47 l1 x5_1).f0)) || (!(((rd_T47 l0 x5_1).f1) == ((rd_T47 l1 x5_1).f1)) || (!((((rd_T47 l0 x5_1).f2).toList) == (((rd_T47 l1 x5_1).f2).toList))))) = true
              · rw [if_pos c7] at H
                have c7b0 : (!(((rd_T47 l0 x5_1).f0) == ((rd_T47 l1 x5_1).f0)) || (!(((rd_T47 l0 x5_1).f1) == ((rd_T47 l1 x5_1).f1)) || (!((((rd_T47 l0 x5_1).f2).toList) == (((rd_T47 l1 x5_1).f2).toList))))) = true := c7
                clear c7
                obtain rfl := Option.some.inj H
                have p308 : 0 ≤ (x5_1 : Int) := odt
                have q308 : x5_1 < (l0.length : Int) := odt
                obtain ⟨ad308, e308, hx308_0, hx308_1, hx308_2⟩ := at_T47 HR0.out x5_1 p308 q308
                cases e308
                replace p308 := eq_true p308
                replace q308 := eq_true q308
                have p309 : 0 ≤ (x5_1 : Int) := odt
                have q309 : x5_1 < (l1.length : Int) := odt
                obtain ⟨ad309, e309, hx309_0, hx309_1, hx309_2⟩ := at_T47 HR1.out x5_1 p309 q309
                cases e309
                replace p309 := eq_true p309
                replace q309 := eq_true q309
                go_wp2
                repeat (go_quiet (fail); try go_wp2)
                go_ret
                exact ⟨rfS, by repeat (first | exact Drawn0.refl _ | apply Drawn0.step)⟩
              · rw [if_neg c7] at H
                have c7b0 : (!(((rd_T47 l0 x5_1).f0) == ((rd_T47 l1 x5_1).f0)) || (!(((rd_T47 l0 x5_1).f1) == ((rd_T47 l1 x5_1).f1)) || (!((((rd_T47 l0 x5_1).f2).toList) == (((rd_T47 l1 x5_1).f2).toList))))) = false := by simpa using c7
                clear c7
                have H' := Aside0.mk H
                clear H
                have p308 : 0 ≤ (x5_1 : Int) := odt
                have q308 : x5_1 < (l0.length : Int) := odt
                obtain ⟨ad308, e308, hx308_0, hx308_1, hx308_2⟩ := at_T47 HR0.out x5_1 p308 q308
                cases e308
                replace p308 := eq_true p308
                replace q308 := eq_true q308
                have p309 : 0 ≤ (x5_1 : Int) := odt
                have q309 : x5_1 < (l1.length : Int) := odt
                obtain ⟨ad309, e309, hx309_0, hx309_1, hx309_2⟩ := at_T47 HR1.out x5_1 p309 q309
                cases e309
                replace p309 := eq_true p309
                replace q309 := eq_true q309
                go_wp2
                repeat (go_quiet (fail); try go_wp2)
                go_roundg k1
                case measure => have := HK1.out; omega
                case rel => exact ⟨(wrap64 (x5_1 + 1)), rfS, H', ⟨by have := HK1.out; omega⟩, by repeat (first | exact Drawn0.refl _ | apply Drawn0.step)⟩
            · rw [if_neg c6] at H
              exact absurd H (by simp)
          · rw [if_neg c5] at H
            exact absurd H (by simp)
        · rw [if_neg c4] at H
          have c4b0 : decide (x5_1 < (l0.length : Int)) = false := decide_eq_false c4
          clear c4
          obtain rfl := Option.some.inj H
          go_wp2
          repeat (go_quiet (fail); try go_wp2)
          go_ret
          exact ⟨rfS, by repeat (first | exact Drawn0.refl _ | apply Drawn0.step)⟩
  · rw [if_neg c3] at H
    have c3b0 : ((l0.length : Int) == (l1.length : Int)) = false := beq_eq_false_iff_ne.mpr c3
    have c3b1 : ((l0.length : Int) != (l1.length : Int)) = true := bne_iff_ne.mpr c3
    have c3b2 : (l0.length == l1.length) = false := by first | simpa using c3 | (simp at c3 ⊢; omega)
    obtain rfl := Option.some.inj H
    go_enter Try.func19, Try.ntmps19
    go_wp2
    repeat (go_quiet (fail); try go_wp2)
    go_ret
    exact ⟨rfS, by repeat (first | exact Drawn0.refl _ | apply Drawn0.step)⟩

/-! ### roadbookref18_Body: function 21 -/
def roadbookref18_Body.f (a0 : ByteArray) : Option (ByteArray × Int × Int) := if (a0.size : Int) > 65535 then (some ((⟨#[]⟩ : ByteArray), 65535, 10)) else (if (a0.size : Int) < 4 then (some ((⟨#[]⟩ : ByteArray), (a0.size : Int), 2)) else (if 0 < (a0.size : Int) then (if (bt a0 0) = 42 then (if 1 < (a0.size : Int) then (if (bt a0 1) = 2 then (if 2 < (a0.size : Int) then (if 3 < (a0.size : Int) then (if (a0.size : Int) < (wrap64 (4 + (wrap64 ((wrap64 (256 * (wrap64 (bt a0 2)))) + (wrap64 (bt a0 3)))))) then (some ((⟨#[]⟩ : ByteArray), (a0.size : Int), 2)) else (if 4 ≤ (wrap64 (4 + (wrap64 ((wrap64 (256 * (wrap64 (bt a0 2)))) + (wrap64 (bt a0 3)))))) then (if (wrap64 (4 + (wrap64 ((wrap64 (256 * (wrap64 (bt a0 2)))) + (wrap64 (bt a0 3)))))) ≤ (a0.size : Int) then (some (a0.extract 4 ((wrap64 (4 + (wrap64 ((wrap64 (256 * (wrap64 (bt a0 2)))) + (wrap64 (bt a0 3)))))) : Int).toNat, 0, 0)) else (none)) else (none))) else (none)) else (none)) else (some ((⟨#[]⟩ : ByteArray), 1, 4))) else (none)) else (some ((⟨#[]⟩ : ByteArray), 0, 4))) else (none)))
set_option maxHeartbeats 8000000 in
set_option maxRecDepth 100000 in
theorem roadbookref18_Body.calls (a0 : ByteArray) (r1 : ByteArray) (r2 : Int) (r3 : Int) (w : World) (h : roadbookref18_Body.f a0 = some (r1, r2, r3)) :
    Calls Try.prog 21 #[.string a0] w fun e w' => e = .returned (.tuple #[.string r1, .int .i64 r2, .int .i64 r3]) ∧ Drawn0 w w' := by
  have H : (if (a0.size : Int) > 65535 then (some ((⟨#[]⟩ : ByteArray), 65535, 10)) else (if (a0.size : Int) < 4 then (some ((⟨#[]⟩ : ByteArray), (a0.size : Int), 2)) else (if 0 < (a0.size : Int) then (if (bt a0 0) = 42 then (if 1 < (a0.size : Int) then (if (bt a0 1) = 2 then (if 2 < (a0.size : Int) then (if 3 < (a0.size : Int) then (if (a0.size : Int) < (wrap64 (4 + (wrap64 ((wrap64 (256 * (wrap64 (bt a0 2)))) + (wrap64 (bt a0 3)))))) then (some ((⟨#[]⟩ : ByteArray), (a0.size : Int), 2)) else (if 4 ≤ (wrap64 (4 + (wrap64 ((wrap64 (256 * (wrap64 (bt a0 2)))) + (wrap64 (bt a0 3)))))) then (if (wrap64 (4 + (wrap64 ((wrap64 (256 * (wrap64 (bt a0 2)))) + (wrap64 (bt a0 3)))))) ≤ (a0.size : Int) then (some (a0.extract 4 ((wrap64 (4 + (wrap64 ((wrap64 (256 * (wrap64 (bt a0 2)))) + (wrap64 (bt a0 3)))))) : Int).toNat, 0, 0)) else (none)) else (none))) else (none)) else (none)) else (some ((⟨#[]⟩ : ByteArray), 1, 4))) else (none)) else (some ((⟨#[]⟩ : ByteArray), 0, 4))) else (none)))) = some (r1, r2, r3) := h
  clear h
  by_cases c2 : (a0.size : Int) > 65535
  · rw [if_pos c2] at H
    have c2b0 : decide (65535 < (a0.size : Int)) = true := decide_eq_true c2
    have c2b1 : decide (65535 < a0.size) = true := decide_eq_true (by omega)
    clear c2
    simp only [Option.some.injEq, Prod.mk.injEq] at H
    obtain ⟨rfl, rfl, rfl⟩ := H
    go_enter Try.func21, Try.ntmps21
    go_wp2
    repeat (go_quiet (fail); try go_wp2)
    go_ret3
    exact ⟨rfS, by repeat (first | exact Drawn0.refl _ | apply Drawn0.step)⟩
  · rw [if_neg c2] at H
    have c2b0 : decide (65535 < (a0.size : Int)) = false := decide_eq_false c2
    have c2b1 : decide (65535 < a0.size) = false := decide_eq_false (by omega)
    clear c2
    by_cases c3 : (a0.size : Int) < 4
    · rw [if_pos c3] at H
      have c3b0 : decide ((a0.size : Int) < 4) = true := decide_eq_true c3
      have c3b1 : decide (a0.size < 4) = true := decide_eq_true (by omega)
      clear c3
      simp only [Option.some.injEq, Prod.mk.injEq] at H
      obtain ⟨rfl, rfl, rfl⟩ := H
      go_enter Try.func21, Try.ntmps21
      go_wp2
      repeat (go_quiet (fail); try go_wp2)
      go_ret3
      exact ⟨rfS, by repeat (first | exact Drawn0.refl _ | apply Drawn0.step)⟩
    · rw [if_neg c3] at H
      have c3b0 : decide ((a0.size : Int) < 4) = false := decide_eq_false c3
      have c3b1 : decide (a0.size < 4) = false := decide_eq_false (by omega)
      clear c3
      by_cases c4 : 0 < (a0.size : Int)
      · rw [if_pos c4] at H
        have c4b0 : decide (0 < (a0.size : Int)) = true := decide_eq_true c4
        have c4b1 : decide (0 < a0.size) = true := decide_eq_true (by omega)
        clear c4
        by_cases c6 : (bt a0 0) = 42
        · rw [if_pos c6] at H
          have c6b0 : ((bt a0 0) == 42) = true := beq_iff_eq.mpr c6
          have c6b1 : ((bt a0 0) != 42) = false := bne_eq_false_iff_eq.mpr c6
          clear c6
          by_cases c7 : 1 < (a0.size : Int)
          · rw [if_pos c7] at H
            have c7b0 : decide (1 < (a0.size : Int)) = true := decide_eq_true c7
            have c7b1 : decide (1 < a0.size) = true := decide_eq_true (by omega)
            clear c7
            by_cases c9 : (bt a0 1) = 2
            · rw [if_pos c9] at H
              have c9b0 : ((bt a0 1) == 2) = true := beq_iff_eq.mpr c9
              have c9b1 : ((bt a0 1) != 2) = false := bne_eq_false_iff_eq.mpr c9
              clear c9
              by_cases c10 : 2 < (a0.size : Int)
              · rw [if_pos c10] at H
                have c10b0 : decide (2 < (a0.size : Int)) = true := decide_eq_true c10
                have c10b1 : decide (2 < a0.size) = true := decide_eq_true (by omega)
                clear c10
                by_cases c12 : 3 < (a0.size : Int)
                · rw [if_pos c12] at H
                  have c12b0 : decide (3 < (a0.size : Int)) = true := decide_eq_true c12
                  have c12b1 : decide (3 < a0.size) = true := decide_eq_true (by omega)
                  clear c12
                  by_cases c14 : (a0.size : Int) < (wrap64 (4 + (wrap64 ((wrap64 (256 * (wrap64 (bt a0 2)))) + (wrap64 (bt a0 3))))))
                  · rw [if_pos c14] at H
                    have c14b0 : decide ((a0.size : Int) < (wrap64 (4 + (wrap64 ((wrap64 (256 * (wrap64 (bt a0 2)))) + (wrap64 (bt a0 3))))))) = true := decide_eq_true c14
                    clear c14
                    simp only [Option.some.injEq, Prod.mk.injEq] at H
                    obtain ⟨rfl, rfl, rfl⟩ := H
                    have p5 : 0 ≤ (0 : Int) := (by omega)
                    have q5 : 0 < a0.size := (by have : (0 : Int) < (a0.size : Int) := odt; omega)
                    have hx5 : ∀ h : 0 < a0.size, ((a0[0]'h).toNat : Int) = bt a0 0 := bt_at a0 0
                    clear p5
                    have qi5 : (0 < (a0.size : Int)) = True := eq_true (odt)
                    replace q5 := eq_true q5
                    have p8 : 0 ≤ (1 : Int) := (by omega)
                    have q8 : 1 < a0.size := (by have : (1 : Int) < (a0.size : Int) := odt; omega)
                    have hx8 : ∀ h : 1 < a0.size, ((a0[1]'h).toNat : Int) = bt a0 1 := bt_at a0 1
                    clear p8
                    have qi8 : (1 < (a0.size : Int)) = True := eq_true (odt)
                    replace q8 := eq_true q8
                    have p11 : 0 ≤ (2 : Int) := (by omega)
                    have q11 : 2 < a0.size := (by have : (2 : Int) < (a0.size : Int) := odt; omega)
                    have hx11 : ∀ h : 2 < a0.size, ((a0[2]'h).toNat : Int) = bt a0 2 := bt_at a0 2
                    clear p11
                    have qi11 : (2 < (a0.size : Int)) = True := eq_true (odt)
                    replace q11 := eq_true q11
                    have p13 : 0 ≤ (3 : Int) := (by omega)
                    have q13 : 3 < a0.size := (by have : (3 : Int) < (a0.size : Int) := odt; omega)
                    have hx13 : ∀ h : 3 < a0.size, ((a0[3]'h).toNat : Int) = bt a0 3 := bt_at a0 3
                    clear p13
                    have qi13 : (3 < (a0.size : Int)) = True := eq_true (odt)
                    replace q13 := eq_true q13
                    go_enter Try.func21, Try.ntmps21
                    go_wp2
                    repeat (go_quiet (fail); try go_wp2)
                    go_ret3
                    exact ⟨rfS, by repeat (first | exact Drawn0.refl _ | apply Drawn0.step)⟩
                  · rw [if_neg c14] at H
                    have c14b0 : decide ((a0.size : Int) < (wrap64 (4 + (wrap64 ((wrap64 (256 * (wrap64 (bt a0 2)))) + (wrap64 (bt a0 3))))))) = false := decide_eq_false c14
                    clear c14
                    by_cases c15 : 4 ≤ (wrap64 (4 + (wrap64 ((wrap64 (256 * (wrap64 (bt a0 2)))) + (wrap64 (bt a0 3))))))
                    · rw [if_pos c15] at H
                      have c15b0 := eq_true c15
                      have c15b1 : decide (4 ≤ (wrap64 (4 + (wrap64 ((wrap64 (256 * (wrap64 (bt a0 2)))) + (wrap64 (bt a0 3))))))) = true := decide_eq_true c15
                      by_cases c16 : (wrap64 (4 + (wrap64 ((wrap64 (256 * (wrap64 (bt a0 2)))) + (wrap64 (bt a0 3)))))) ≤ (a0.size : Int)
                      · rw [if_pos c16] at H
                        have c16b0 := eq_true c16
                        have c16b1 : decide ((wrap64 (4 + (wrap64 ((wrap64 (256 * (wrap64 (bt a0 2)))) + (wrap64 (bt a0 3)))))) ≤ (a0.size : Int)) = true := decide_eq_true c16
                        simp only [Option.some.injEq, Prod.mk.injEq] at H
                        obtain ⟨rfl, rfl, rfl⟩ := H
                        have p5 : 0 ≤ (0 : Int) := (by omega)
                        have q5 : 0 < a0.size := (by have : (0 : Int) < (a0.size : Int) := odt; omega)
                        have hx5 : ∀ h : 0 < a0.size, ((a0[0]'h).toNat : Int) = bt a0 0 := bt_at a0 0
                        clear p5
                        have qi5 : (0 < (a0.size : Int)) = True := eq_true (odt)
                        replace q5 := eq_true q5
                        have p8 : 0 ≤ (1 : Int) := (by omega)
                        have q8 : 1 < a0.size := (by have : (1 : Int) < (a0.size : Int) := odt; omega)
                        have hx8 : ∀ h : 1 < a0.size, ((a0[1]'h).toNat : Int) = bt a0 1 := bt_at a0 1
                        clear p8
                        have qi8 : (1 < (a0.size : Int)) = True := eq_true (odt)
                        replace q8 := eq_true q8
                        have p11 : 0 ≤ (2 : Int) := (by omega)
                        have q11 : 2 < a0.size := (by have : (2 : Int) < (a0.size : Int) := odt; omega)
                        have hx11 : ∀ h : 2 < a0.size, ((a0[2]'h).toNat : Int) = bt a0 2 := bt_at a0 2
                        clear p11
                        have qi11 : (2 < (a0.size : Int)) = True := eq_true (odt)
                        replace q11 := eq_true q11
                        have p13 : 0 ≤ (3 : Int) := (by omega)
                        have q13 : 3 < a0.size := (by have : (3 : Int) < (a0.size : Int) := odt; omega)
                        have hx13 : ∀ h : 3 < a0.size, ((a0[3]'h).toNat : Int) = bt a0 3 := bt_at a0 3
                        clear p13
                        have qi13 : (3 < (a0.size : Int)) = True := eq_true (odt)
                        replace q13 := eq_true q13
                        go_enter Try.func21, Try.ntmps21
                        go_wp2
                        repeat (go_quiet (fail); try go_wp2)
                        go_ret3
                        exact ⟨rfS, by repeat (first | exact Drawn0.refl _ | apply Drawn0.step)⟩
                      · rw [if_neg c16] at H
                        exact absurd H (by simp)
                    · rw [if_neg c15] at H
                      exact absurd H (by simp)
                · rw [if_neg c12] at H
                  exact absurd H (by simp)
              · rw [if_neg c10] at H
                exact absurd H (by simp)
            · rw [if_neg c9] at H
              have c9b0 : ((bt a0 1) == 2) = false := beq_eq_false_iff_ne.mpr c9
              have c9b1 : ((bt a0 1) != 2) = true := bne_iff_ne.mpr c9
              simp only [Option.some.injEq, Prod.mk.injEq] at H
              obtain ⟨rfl, rfl, rfl⟩ := H
              have p5 : 0 ≤ (0 : Int) := (by omega)
              have q5 : 0 < a0.size := (by have : (0 : Int) < (a0.size : Int) := odt; omega)
              have hx5 : ∀ h : 0 < a0.size, ((a0[0]'h).toNat : Int) = bt a0 0 := bt_at a0 0
              clear p5
              have qi5 : (0 < (a0.size : Int)) = True := eq_true (odt)
              replace q5 := eq_true q5
              have p8 : 0 ≤ (1 : Int) := (by omega)
              have q8 : 1 < a0.size := (by have : (1 : Int) < (a0.size : Int) := odt; omega)
              have hx8 : ∀ h : 1 < a0.size, ((a0[1]'h).toNat : Int) = bt a0 1 := bt_at a0 1
              clear p8
              have qi8 : (1 < (a0.size : Int)) = True := eq_true (odt)
              replace q8 := eq_true q8
              go_enter Try.func21, Try.ntmps21
              go_wp2
              repeat (go_quiet (fail); try go_wp2)
              go_ret3
              exact ⟨rfS, by repeat (first | exact Drawn0.refl _ | apply Drawn0.step)⟩
          · rw [if_neg c7] at H
            exact absurd H (by simp)
        · rw [if_neg c6] at H
          have c6b0 : ((bt a0 0) == 42) = false := beq_eq_false_iff_ne.mpr c6
          have c6b1 : ((bt a0 0) != 42) = true := bne_iff_ne.mpr c6
          simp only [Option.some.injEq, Prod.mk.injEq] at H
          obtain ⟨rfl, rfl, rfl⟩ := H
          have p5 : 0 ≤ (0 : Int) := (by omega)
          have q5 : 0 < a0.size := (by have : (0 : Int) < (a0.size : Int) := odt; omega)
          have hx5 : ∀ h : 0 < a0.size, ((a0[0]'h).toNat : Int) = bt a0 0 := bt_at a0 0
          clear p5
          have qi5 : (0 < (a0.size : Int)) = True := eq_true (odt)
          replace q5 := eq_true q5
          go_enter Try.func21, Try.ntmps21
          go_wp2
          repeat (go_quiet (fail); try go_wp2)
          go_ret3
          exact ⟨rfS, by repeat (first | exact Drawn0.refl _ | apply Drawn0.step)⟩
      · rw [if_neg c4] at H
        exact absurd H (by simp)

/-! ### roadbookref02_Of: function 48 -/
def roadbookref02_Of.f (k : Nat) (a0 : Int) (a1 : Int) : Option (ByteArray) := (roadbookref02_Put.f k a0 a1).bind fun bt339 => (some bt339.1)
theorem roadbookref02_Of.mono : ∀ a0 a1 k, LeO (roadbookref02_Of.f k a0 a1) (roadbookref02_Of.f (k + 1) a0 a1) := by
  intro a0 a1 k
  unfold roadbookref02_Of.f
  repeat' first
      | (with_reducible exact roadbookref02_Put.mono _ _ _)
      | (with_reducible exact LeO.refl _)
      | (with_reducible exact LeO.none _)
      | (with_reducible refine LeO.ite ?_ ?_)
      | (with_reducible refine LeO.bind ?_ (fun _ => ?_))
      | exact roadbookref02_Put.mono _ _ _
      | exact LeO.none _
      | refine LeO.ite ?_ ?_
      | refine LeO.bind ?_ (fun _ => ?_)
set_option maxHeartbeats 8000000 in
set_option maxRecDepth 100000 in
theorem roadbookref02_Of.calls (k : Nat) (a0 : Int) (a1 : Int) (r : ByteArray) (w : World) (h : roadbookref02_Of.f k a0 a1 = some r) :
    Calls Try.prog 48 #[.int .i64 a0, .int .i64 a1] w fun e w' => e = .returned (.string r) ∧ Below w.heap.size w w' := by
  have HB := Aside0.mk (Below.refl w.heap.size w)
  have H : ((roadbookref02_Put.f k a0 a1).bind fun bt339 => (some bt339.1)) = some r := h
  clear h
  replace H := Option.bind_eq_some_iff.mp H
  obtain ⟨⟨t339, t340⟩, A30, H⟩ := H
  replace H : (some t339) = some r := H
  have A3 := Aside0.mk A30
  clear A30
  obtain rfl := Option.some.inj H
  go_enter Try.func48, Try.ntmps48
  go_wp2_with (first | ((with_reducible refine gate_callee (f := 44) rfl ?_); refine goesL_ (some 10) rfl rfl Try.func44 (by kernel_rfl) rfl #[.int .i64 a0, .int .i64 a1] rfl gAr ?_; (with_reducible refine (roadbookref02_Put.calls k a0 a1 t339 t340 _ A3.out).mono ?_); rintro e w4 ⟨rfl, hb⟩; refine ⟨_, rfl, ?_⟩; have n0_ := Aside0.mk (below_step (bel) hb); clear HB; have HB := n0_; clear n0_; (try clear hb)))
  go_ret
  exact ⟨rtE, bel⟩

/-! ### roadbookref18_Wrap: function 23 -/
def roadbookref18_Wrap.f (k : Nat) (a0 : ByteArray) : Option (ByteArray × Bool) := if (a0.size : Int) > 65531 then (some ((⟨#[]⟩ : ByteArray), false)) else ((roadbookref02_Of.f k (a0.size : Int) 2).bind fun t341 => (if 2 + t341.size ≤ 9223372036854775807 then (if ((⟨#[42, 2]⟩ : ByteArray) ++ t341).size + a0.size ≤ 9223372036854775807 then (some (((⟨#[42, 2]⟩ : ByteArray) ++ t341) ++ a0, true)) else (none)) else (none)))
theorem roadbookref18_Wrap.mono : ∀ a0 k, LeO (roadbookref18_Wrap.f k a0) (roadbookref18_Wrap.f (k + 1) a0) := by
  intro a0 k
  unfold roadbookref18_Wrap.f
  repeat' first
      | (with_reducible exact roadbookref02_Of.mono _ _ _)
      | (with_reducible exact LeO.refl _)
      | (with_reducible exact LeO.none _)
      | (with_reducible refine LeO.ite ?_ ?_)
      | (with_reducible refine LeO.bind ?_ (fun _ => ?_))
      | exact roadbookref02_Of.mono _ _ _
      | exact LeO.none _
      | refine LeO.ite ?_ ?_
      | refine LeO.bind ?_ (fun _ => ?_)
set_option maxHeartbeats 8000000 in
set_option maxRecDepth 100000 in
theorem roadbookref18_Wrap.calls (k : Nat) (a0 : ByteArray) (r1 : ByteArray) (r2 : Bool) (w : World) (h : roadbookref18_Wrap.f k a0 = some (r1, r2)) :
    Calls Try.prog 23 #[.string a0] w fun e w' => e = .returned (.tuple #[.string r1, .bool r2]) ∧ Below w.heap.size w w' := by
  have HB := Aside0.mk (Below.refl w.heap.size w)
  have H : (if (a0.size : Int) > 65531 then (some ((⟨#[]⟩ : ByteArray), false)) else ((roadbookref02_Of.f k (a0.size : Int) 2).bind fun t341 => (if 2 + t341.size ≤ 9223372036854775807 then (if ((⟨#[42, 2]⟩ : ByteArray) ++ t341).size + a0.size ≤ 9223372036854775807 then (some (((⟨#[42, 2]⟩ : ByteArray) ++ t341) ++ a0, true)) else (none)) else (none)))) = some (r1, r2) := h
  clear h
  by_cases c2 : (a0.size : Int) > 65531
  · rw [if_pos c2] at H
    have c2b0 : decide (65531 < (a0.size : Int)) = true := decide_eq_true c2
    have c2b1 : decide (65531 < a0.size) = true := decide_eq_true (by omega)
    clear c2
    simp only [Option.some.injEq, Prod.mk.injEq] at H
    obtain ⟨rfl, rfl⟩ := H
    go_enter Try.func23, Try.ntmps23
    go_wp2
    go_ret2
    exact ⟨rtE, bel⟩
  · rw [if_neg c2] at H
    have c2b0 : decide (65531 < (a0.size : Int)) = false := decide_eq_false c2
    have c2b1 : decide (65531 < a0.size) = false := decide_eq_false (by omega)
    clear c2
    replace H := Option.bind_eq_some_iff.mp H
    obtain ⟨t341, A30, H⟩ := H
    replace H : (if 2 + t341.size ≤ 9223372036854775807 then (if ((⟨#[42, 2]⟩ : ByteArray) ++ t341).size + a0.size ≤ 9223372036854775807 then (some (((⟨#[42, 2]⟩ : ByteArray) ++ t341) ++ a0, true)) else (none)) else (none)) = some (r1, r2) := H
    have A3 := Aside0.mk A30
    clear A30
    by_cases c4 : 2 + t341.size ≤ 9223372036854775807
    · rw [if_pos c4] at H
      have c4b0 := eq_true c4
      have c4b1 : decide (2 + t341.size ≤ 9223372036854775807) = true := decide_eq_true c4
      try have c4b2 : (9223372036854775807 < 2 + t341.size) = False := eq_false (Nat.not_lt.2 c4)
      by_cases c5 : ((⟨#[42, 2]⟩ : ByteArray) ++ t341).size + a0.size ≤ 9223372036854775807
      · rw [if_pos c5] at H
        have c5b0 := eq_true c5
        have c5b1 : decide (((⟨#[42, 2]⟩ : ByteArray) ++ t341).size + a0.size ≤ 9223372036854775807) = true := decide_eq_true c5
        try have c5b2 : (9223372036854775807 < ((⟨#[42, 2]⟩ : ByteArray) ++ t341).size + a0.size) = False := eq_false (Nat.not_lt.2 c5)
        simp only [Option.some.injEq, Prod.mk.injEq] at H
        obtain ⟨rfl, rfl⟩ := H
        go_enter Try.func23, Try.ntmps23
        go_wp2_with (first | ((with_reducible refine gate_callee (f := 48) rfl ?_); refine goesL_ (some 9) rfl rfl Try.func48 (by kernel_rfl) rfl #[.int .i64 (a0.size : Int), .int .i64 2] rfl gAr ?_; (with_reducible refine (roadbookref02_Of.calls k (a0.size : Int) 2 t341 _ A3.out).mono ?_); rintro e w6 ⟨rfl, hb⟩; refine ⟨_, rfl, ?_⟩; have n0_ := Aside0.mk (below_step (bel) hb); clear HB; have HB := n0_; clear n0_; (try clear hb)))
        go_ret2
        exact ⟨rtE, bel⟩
      · rw [if_neg c5] at H
        exact absurd H (by simp)
    · rw [if_neg c4] at H
      exact absurd H (by simp)

/-! ### frame_Trailer: function 24 -/
def frame_Trailer.f (a0 : ByteArray) : Option (ByteArray) := (frame_size.f a0).bind fun t342 => (if 0 ≤ (wrap64 (4 + t342)) then (if (wrap64 (4 + t342)) ≤ (a0.size : Int) then (some (a0.extract ((wrap64 (4 + t342)) : Int).toNat a0.size)) else (none)) else (none))
set_option maxHeartbeats 8000000 in
set_option maxRecDepth 100000 in
theorem frame_Trailer.calls (a0 : ByteArray) (r : ByteArray) (w : World) (h : frame_Trailer.f a0 = some r) :
    Calls Try.prog 24 #[.string a0] w fun e w' => e = .returned (.string r) ∧ Drawn0 w w' := by
  have H : ((frame_size.f a0).bind fun t342 => (if 0 ≤ (wrap64 (4 + t342)) then (if (wrap64 (4 + t342)) ≤ (a0.size : Int) then (some (a0.extract ((wrap64 (4 + t342)) : Int).toNat a0.size)) else (none)) else (none))) = some r := h
  clear h
  replace H := Option.bind_eq_some_iff.mp H
  obtain ⟨t342, A20, H⟩ := H
  replace H : (if 0 ≤ (wrap64 (4 + t342)) then (if (wrap64 (4 + t342)) ≤ (a0.size : Int) then (some (a0.extract ((wrap64 (4 + t342)) : Int).toNat a0.size)) else (none)) else (none)) = some r := H
  have A2 := Aside0.mk A20
  clear A20
  obtain ⟨ji3, hji3⟩ : ∃ j_ : Int, (wrap64 (4 + t342)) = j_ := ⟨_, rfl⟩
  replace H : (if 0 ≤ (ji3) then (if (ji3) ≤ (a0.size : Int) then (some (a0.extract ((ji3) : Int).toNat a0.size)) else (none)) else (none)) = some r := by first | (rw [hji3] at H; exact H) | (simp only [hji3] at H ⊢; exact H)
  (try rw [hji3] at A2)
  have hji3w : (IntKind.i64.wrap (4 + t342)) = ji3 := (i64_w _).trans hji3
  by_cases c4 : 0 ≤ (ji3)
  · rw [if_pos c4] at H
    have c4b0 := eq_true c4
    have c4b1 : decide (0 ≤ (ji3)) = true := decide_eq_true c4
    clear c4
    by_cases c5 : (ji3) ≤ (a0.size : Int)
    · rw [if_pos c5] at H
      have c5b0 := eq_true c5
      have c5b1 : decide ((ji3) ≤ (a0.size : Int)) = true := decide_eq_true c5
      clear c5
      obtain rfl := Option.some.inj H
      go_enter Try.func24, Try.ntmps24
      go_wp2_with (first | ((with_reducible refine gate_callee (f := 47) rfl ?_); refine goesL_ (some 5) rfl rfl Try.func47 (by kernel_rfl) rfl #[.string a0] rfl gAr ?_; (with_reducible refine (frame_size.calls a0 t342 _ A2.out).mono ?_); rintro e w' ⟨rfl, ⟨nd, rfl⟩⟩; refine ⟨_, rfl, ?_⟩))
      go_ret
      exact ⟨by first | rfl | (simp; done) | (simp only [← hji3] <;> (first | rfl | simp)) | (simp [*]; done), by repeat (first | exact Drawn0.refl _ | apply Drawn0.step)⟩
    · rw [if_neg c5] at H
      exact absurd H (by simp)
  · rw [if_neg c4] at H
    exact absurd H (by simp)

/-! ### roadbookref18_Trailer: function 25 -/
def roadbookref18_Trailer.f (a0 : ByteArray) : Option (ByteArray) := (roadbookref18_Body.f a0).bind fun bt343 => (if 0 ≤ (wrap64 (4 + (bt343.1.size : Int))) then (if (wrap64 (4 + (bt343.1.size : Int))) ≤ (a0.size : Int) then (some (a0.extract ((wrap64 (4 + (bt343.1.size : Int))) : Int).toNat a0.size)) else (none)) else (none))
set_option maxHeartbeats 8000000 in
set_option maxRecDepth 100000 in
theorem roadbookref18_Trailer.calls (a0 : ByteArray) (r : ByteArray) (w : World) (h : roadbookref18_Trailer.f a0 = some r) :
    Calls Try.prog 25 #[.string a0] w fun e w' => e = .returned (.string r) ∧ Drawn0 w w' := by
  have H : ((roadbookref18_Body.f a0).bind fun bt343 => (if 0 ≤ (wrap64 (4 + (bt343.1.size : Int))) then (if (wrap64 (4 + (bt343.1.size : Int))) ≤ (a0.size : Int) then (some (a0.extract ((wrap64 (4 + (bt343.1.size : Int))) : Int).toNat a0.size)) else (none)) else (none))) = some r := h
  clear h
  replace H := Option.bind_eq_some_iff.mp H
  obtain ⟨⟨t343, t344, t345⟩, A20, H⟩ := H
  replace H : (if 0 ≤ (wrap64 (4 + (t343.size : Int))) then (if (wrap64 (4 + (t343.size : Int))) ≤ (a0.size : Int) then (some (a0.extract ((wrap64 (4 + (t343.size : Int))) : Int).toNat a0.size)) else (none)) else (none)) = some r := H
  have A2 := Aside0.mk A20
  clear A20
  obtain ⟨ji3, hji3⟩ : ∃ j_ : Int, (wrap64 (4 + (t343.size : Int))) = j_ := ⟨_, rfl⟩
  replace H : (if 0 ≤ (ji3) then (if (ji3) ≤ (a0.size : Int) then (some (a0.extract ((ji3) : Int).toNat a0.size)) else (none)) else (none)) = some r := by first | (rw [hji3] at H; exact H) | (simp only [hji3] at H ⊢; exact H)
  (try rw [hji3] at A2)
  have hji3w : (IntKind.i64.wrap (4 + (t343.size : Int))) = ji3 := (i64_w _).trans hji3
  by_cases c4 : 0 ≤ (ji3)
  · rw [if_pos c4] at H
    have c4b0 := eq_true c4
    have c4b1 : decide (0 ≤ (ji3)) = true := decide_eq_true c4
    clear c4
    by_cases c5 : (ji3) ≤ (a0.size : Int)
    · rw [if_pos c5] at H
      have c5b0 := eq_true c5
      have c5b1 : decide ((ji3) ≤ (a0.size : Int)) = true := decide_eq_true c5
      clear c5
      obtain rfl := Option.some.inj H
      go_enter Try.func25, Try.ntmps25
      go_wp2_with (first | ((with_reducible refine gate_callee (f := 21) rfl ?_); refine goesL_ (some 8) rfl rfl Try.func21 (by kernel_rfl) rfl #[.string a0] rfl gAr ?_; (with_reducible refine (roadbookref18_Body.calls a0 t343 t344 t345 _ A2.out).mono ?_); rintro e w' ⟨rfl, ⟨nd, rfl⟩⟩; refine ⟨_, rfl, ?_⟩))
      go_ret
      exact ⟨by first | rfl | (simp; done) | (simp only [← hji3] <;> (first | rfl | simp)) | (simp [*]; done), by repeat (first | exact Drawn0.refl _ | apply Drawn0.step)⟩
    · rw [if_neg c5] at H
      exact absurd H (by simp)
  · rw [if_neg c4] at H
    exact absurd H (by simp)

end Go.Proofs.Ytjgnpggpgkkknaa.Pr
