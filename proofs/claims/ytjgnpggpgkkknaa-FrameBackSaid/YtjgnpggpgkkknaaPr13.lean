-- Written by wip/tools/xprint.py of this repo over the kit's printer, out of the translation. Lean checks it.
import Derived.Test.YtjgnpggpgkkknaaPr0
import Derived.Test.YtjgnpggpgkkknaaPr2
import Derived.Test.YtjgnpggpgkkknaaPr5
import Derived.Test.YtjgnpggpgkkknaaPr12
namespace Go.Proofs.Ytjgnpggpgkkknaa.Pr
open Go.RowKit Go.Proofs.YtjgnpggpgkkknaaW.PrintWords Go.Proofs.YtjgnpggpgkkknaaW.PrintLast Go.Proofs.YtjgnpggpgkkknaaW.PrintMore
attribute [local go_sem] max2_int min2_int max_two min_two max_three min_three max_four min_four   -- for this text's walks alone
set_option linter.unusedVariables false
set_option linter.unusedSimpArgs false

attribute [local go_sem high] eqA47
/-! ### frame_Wrap: function 22 -/
def frame_Wrap.f (k : Nat) (a0 : ByteArray) : Option (ByteArray × Bool) := (octet_Put.f k (a0.size : Int) 2).bind fun bt295 => (if bt295.2 = true then (if (a0.size : Int) > 65531 then (some ((⟨#[]⟩ : ByteArray), false)) else (if 2 + bt295.1.size ≤ 9223372036854775807 then (if ((⟨#[42, 2]⟩ : ByteArray) ++ bt295.1).size + a0.size ≤ 9223372036854775807 then (some (((⟨#[42, 2]⟩ : ByteArray) ++ bt295.1) ++ a0, true)) else (none)) else (none))) else (some ((⟨#[]⟩ : ByteArray), false)))
theorem frame_Wrap.mono : ∀ a0 k, LeO (frame_Wrap.f k a0) (frame_Wrap.f (k + 1) a0) := by
  intro a0 k
  unfold frame_Wrap.f
  repeat' first
      | (with_reducible exact octet_Put.mono _ _ _)
      | (with_reducible exact LeO.refl _)
      | (with_reducible exact LeO.none _)
      | (with_reducible refine LeO.ite ?_ ?_)
      | (with_reducible refine LeO.bind ?_ (fun _ => ?_))
      | exact octet_Put.mono _ _ _
      | exact LeO.none _
      | refine LeO.ite ?_ ?_
      | refine LeO.bind ?_ (fun _ => ?_)
set_option maxHeartbeats 8000000 in
set_option maxRecDepth 100000 in
theorem frame_Wrap.calls (k : Nat) (a0 : ByteArray) (r1 : ByteArray) (r2 : Bool) (w : World) (h : frame_Wrap.f k a0 = some (r1, r2)) :
    Calls Try.prog 22 #[.string a0] w fun e w' => e = .returned (.tuple #[.string r1, .bool r2]) ∧ Below w.heap.size w w' := by
  have HB := Aside0.mk (Below.refl w.heap.size w)
  have H : ((octet_Put.f k (a0.size : Int) 2).bind fun bt295 => (if bt295.2 = true then (if (a0.size : Int) > 65531 then (some ((⟨#[]⟩ : ByteArray), false)) else (if 2 + bt295.1.size ≤ 9223372036854775807 then (if ((⟨#[42, 2]⟩ : ByteArray) ++ bt295.1).size + a0.size ≤ 9223372036854775807 then (some (((⟨#[42, 2]⟩ : ByteArray) ++ bt295.1) ++ a0, true)) else (none)) else (none))) else (some ((⟨#[]⟩ : ByteArray), false)))) = some (r1, r2) := h
  clear h
  replace H := Option.bind_eq_some_iff.mp H
  obtain ⟨⟨t295, t296⟩, A20, H⟩ := H
  replace H : (if t296 = true then (if (a0.size : Int) > 65531 then (some ((⟨#[]⟩ : ByteArray), false)) else (if 2 + t295.size ≤ 9223372036854775807 then (if ((⟨#[42, 2]⟩ : ByteArray) ++ t295).size + a0.size ≤ 9223372036854775807 then (some (((⟨#[42, 2]⟩ : ByteArray) ++ t295) ++ a0, true)) else (none)) else (none))) else (some ((⟨#[]⟩ : ByteArray), false))) = some (r1, r2) := H
  have A2 := Aside0.mk A20
  clear A20
  by_cases c3 : t296 = true
  · subst c3
    have H1 : (if (a0.size : Int) > 65531 then (some ((⟨#[]⟩ : ByteArray), false)) else (if 2 + t295.size ≤ 9223372036854775807 then (if ((⟨#[42, 2]⟩ : ByteArray) ++ t295).size + a0.size ≤ 9223372036854775807 then (some (((⟨#[42, 2]⟩ : ByteArray) ++ t295) ++ a0, true)) else (none)) else (none))) = some (r1, r2) := by rw [if_pos rfl] at H; exact H
    clear H
    have H := H1
    clear H1
    by_cases c4 : (a0.size : Int) > 65531
    · rw [if_pos c4] at H
      have c4b0 : decide (65531 < (a0.size : Int)) = true := decide_eq_true c4
      have c4b1 : decide (65531 < a0.size) = true := decide_eq_true (by omega)
      clear c4
      simp only [Option.some.injEq, Prod.mk.injEq] at H
      obtain ⟨rfl, rfl⟩ := H
      go_enter Try.func22, Try.ntmps22
      go_wp2_with (first | ((with_reducible refine gate_callee (f := 43) rfl ?_); refine goesL_ (some 9) rfl rfl Try.func43 (by kernel_rfl) rfl #[.int .i64 (a0.size : Int), .int .i64 2] rfl gAr ?_; (with_reducible refine (octet_Put.calls k (a0.size : Int) 2 t295 true _ A2.out).mono ?_); rintro e w5 ⟨rfl, hb⟩; refine ⟨_, rfl, ?_⟩; have n0_ := Aside0.mk (below_step (bel) hb); clear HB; have HB := n0_; clear n0_; (try clear hb)))
      go_ret2
      exact ⟨rtE, bel⟩
    · rw [if_neg c4] at H
      have c4b0 : decide (65531 < (a0.size : Int)) = false := decide_eq_false c4
      have c4b1 : decide (65531 < a0.size) = false := decide_eq_false (by omega)
      clear c4
      by_cases c6 : 2 + t295.size ≤ 9223372036854775807
      · rw [if_pos c6] at H
        have c6b0 := eq_true c6
        have c6b1 : decide (2 + t295.size ≤ 9223372036854775807) = true := decide_eq_true c6
        try have c6b2 : (9223372036854775807 < 2 + t295.size) = False := eq_false (Nat.not_lt.2 c6)
        by_cases c7 : ((⟨#[42, 2]⟩ : ByteArray) ++ t295).size + a0.size ≤ 9223372036854775807
        · rw [if_pos c7] at H
          have c7b0 := eq_true c7
          have c7b1 : decide (((⟨#[42, 2]⟩ : ByteArray) ++ t295).size + a0.size ≤ 9223372036854775807) = true := decide_eq_true c7
          try have c7b2 : (9223372036854775807 < ((⟨#[42, 2]⟩ : ByteArray) ++ t295).size + a0.size) = False := eq_false (Nat.not_lt.2 c7)
          simp only [Option.some.injEq, Prod.mk.injEq] at H
          obtain ⟨rfl, rfl⟩ := H
          go_enter Try.func22, Try.ntmps22
          go_wp2_with (first | ((with_reducible refine gate_callee (f := 43) rfl ?_); refine goesL_ (some 9) rfl rfl Try.func43 (by kernel_rfl) rfl #[.int .i64 (a0.size : Int), .int .i64 2] rfl gAr ?_; (with_reducible refine (octet_Put.calls k (a0.size : Int) 2 t295 true _ A2.out).mono ?_); rintro e w8 ⟨rfl, hb⟩; refine ⟨_, rfl, ?_⟩; have n0_ := Aside0.mk (below_step (bel) hb); clear HB; have HB := n0_; clear n0_; (try clear hb)))
          go_ret2
          exact ⟨rtE, bel⟩
        · rw [if_neg c7] at H
          exact absurd H (by simp)
      · rw [if_neg c6] at H
        exact absurd H (by simp)
  · replace c3 := Bool.eq_false_iff.mpr c3
    subst c3
    have H1 : (some ((⟨#[]⟩ : ByteArray), false)) = some (r1, r2) := by rw [if_neg (show ¬ (false = true) by decide)] at H; exact H
    clear H
    have H := H1
    clear H1
    simp only [Option.some.injEq, Prod.mk.injEq] at H
    obtain ⟨rfl, rfl⟩ := H
    go_enter Try.func22, Try.ntmps22
    go_wp2_with (first | ((with_reducible refine gate_callee (f := 43) rfl ?_); refine goesL_ (some 9) rfl rfl Try.func43 (by kernel_rfl) rfl #[.int .i64 (a0.size : Int), .int .i64 2] rfl gAr ?_; (with_reducible refine (octet_Put.calls k (a0.size : Int) 2 t295 false _ A2.out).mono ?_); rintro e w9 ⟨rfl, hb⟩; refine ⟨_, rfl, ?_⟩; have n0_ := Aside0.mk (below_step (bel) hb); clear HB; have HB := n0_; clear n0_; (try clear hb)))
    go_ret2
    exact ⟨rtE, bel⟩

/-! ### roadbooklaw18_awake: function 17 -/
def roadbooklaw18_awake.f (k : Nat)  : Option (Bool) := (frame_Body.f (⟨#[42, 2, 0, 0]⟩ : ByteArray)).bind fun bt297 => ((frame_Wrap.f k (⟨#[]⟩ : ByteArray)).bind fun bt300 => ((frame_Split.f k (⟨#[0, 3, 2, 97, 98]⟩ : ByteArray) 4).bind fun bt302 => (if bt297.2.2 = 0 then (if bt297.2.1 = 0 then (if bt297.1.toList = ([] : List UInt8) then (if bt300.2 = true then (if bt300.1.toList = ([42, 2, 0, 0] : List UInt8) then (if bt302.2.2 = 0 then (if (bt302.1.length : Int) = 2 then (if 1 < (bt302.1.length : Int) then (some (((rd_T47 bt302.1 1).f0) == 3 && (((rd_T47 bt302.1 1).f1) == 5 && ((((rd_T47 bt302.1 1).f2).toList) == ([97, 98] : List UInt8))))) else (none)) else (some false)) else (some false)) else (some false)) else (some false)) else (some false)) else (some false)) else (some false))))
theorem roadbooklaw18_awake.mono : ∀ k, LeO (roadbooklaw18_awake.f k ) (roadbooklaw18_awake.f (k + 1) ) := by
  intro  k
  unfold roadbooklaw18_awake.f
  repeat' first
      | (with_reducible exact frame_Split.mono _ _ _)
      | (with_reducible exact frame_Wrap.mono _ _)
      | (with_reducible exact LeO.refl _)
      | (with_reducible exact LeO.none _)
      | (with_reducible refine LeO.ite ?_ ?_)
      | (with_reducible refine LeO.bind ?_ (fun _ => ?_))
      | exact frame_Split.mono _ _ _
      | exact frame_Wrap.mono _ _
      | exact LeO.none _
      | refine LeO.ite ?_ ?_
      | refine LeO.bind ?_ (fun _ => ?_)
set_option maxHeartbeats 8000000 in
set_option maxRecDepth 100000 in
theorem roadbooklaw18_awake.calls (k : Nat)  (r : Bool) (w : World) (h : roadbooklaw18_awake.f k  = some r) :
    Calls Try.prog 17 #[] w fun e w' => e = .returned (.bool r) ∧ Below w.heap.size w w' := by
  have hu47 := Try.underlying47
  have HB := Aside0.mk (Below.refl w.heap.size w)
  have H : ((frame_Body.f (⟨#[42, 2, 0, 0]⟩ : ByteArray)).bind fun bt297 => ((frame_Wrap.f k (⟨#[]⟩ : ByteArray)).bind fun bt300 => ((frame_Split.f k (⟨#[0, 3, 2, 97, 98]⟩ : ByteArray) 4).bind fun bt302 => (if bt297.2.2 = 0 then (if bt297.2.1 = 0 then (if bt297.1.toList = ([] : List UInt8) then (if bt300.2 = true then (if bt300.1.toList = ([42, 2, 0, 0] : List UInt8) then (if bt302.2.2 = 0 then (if (bt302.1.length : Int) = 2 then (if 1 < (bt302.1.length : Int) then (some (((rd_T47 bt302.1 1).f0) == 3 && (((rd_T47 bt302.1 1).f1) == 5 && ((((rd_T47 bt302.1 1).f2).toList) == ([97, 98] : List UInt8))))) else (none)) else (some false)) else (some false)) else (some false)) else (some false)) else (some false)) else (some false)) else (some false))))) = some r := h
  clear h
  replace H := Option.bind_eq_some_iff.mp H
  obtain ⟨⟨t297, t298, t299⟩, A10, H⟩ := H
  replace H : ((frame_Wrap.f k (⟨#[]⟩ : ByteArray)).bind fun bt300 => ((frame_Split.f k (⟨#[0, 3, 2, 97, 98]⟩ : ByteArray) 4).bind fun bt302 => (if t299 = 0 then (if t298 = 0 then (if t297.toList = ([] : List UInt8) then (if bt300.2 = true then (if bt300.1.toList = ([42, 2, 0, 0] : List UInt8) then (if bt302.2.2 = 0 then (if (bt302.1.length : Int) = 2 then (if 1 < (bt302.1.length : Int) then (some (((rd_T47 bt302.1 1).f0) == 3 && (((rd_T47 bt302.1 1).f1) == 5 && ((((rd_T47 bt302.1 1).f2).toList) == ([97, 98] : List UInt8))))) else (none)) else (some false)) else (some false)) else (some false)) else (some false)) else (some false)) else (some false)) else (some false)))) = some r := H
  have A1 := Aside0.mk A10
  clear A10
  replace H := Option.bind_eq_some_iff.mp H
  obtain ⟨⟨t300, t301⟩, A20, H⟩ := H
  replace H : ((frame_Split.f k (⟨#[0, 3, 2, 97, 98]⟩ : ByteArray) 4).bind fun bt302 => (if t299 = 0 then (if t298 = 0 then (if t297.toList = ([] : List UInt8) then (if t301 = true then (if t300.toList = ([42, 2, 0, 0] : List UInt8) then (if bt302.2.2 = 0 then (if (bt302.1.length : Int) = 2 then (if 1 < (bt302.1.length : Int) then (some (((rd_T47 bt302.1 1).f0) == 3 && (((rd_T47 bt302.1 1).f1) == 5 && ((((rd_T47 bt302.1 1).f2).toList) == ([97, 98] : List UInt8))))) else (none)) else (some false)) else (some false)) else (some false)) else (some false)) else (some false)) else (some false)) else (some false))) = some r := H
  have A2 := Aside0.mk A20
  clear A20
  replace H := Option.bind_eq_some_iff.mp H
  obtain ⟨⟨t302, t303, t304⟩, A30, H⟩ := H
  replace H : (if t299 = 0 then (if t298 = 0 then (if t297.toList = ([] : List UInt8) then (if t301 = true then (if t300.toList = ([42, 2, 0, 0] : List UInt8) then (if t304 = 0 then (if (t302.length : Int) = 2 then (if 1 < (t302.length : Int) then (some (((rd_T47 t302 1).f0) == 3 && (((rd_T47 t302 1).f1) == 5 && ((((rd_T47 t302 1).f2).toList) == ([97, 98] : List UInt8))))) else (none)) else (some false)) else (some false)) else (some false)) else (some false)) else (some false)) else (some false)) else (some false)) = some r := H
  have A3 := Aside0.mk A30
  clear A30
  by_cases c4 : t299 = 0
  · rw [if_pos c4] at H
    have c4b0 : (t299 == 0) = true := beq_iff_eq.mpr c4
    have c4b1 : (t299 != 0) = false := bne_eq_false_iff_eq.mpr c4
    clear c4
    by_cases c5 : t298 = 0
    · rw [if_pos c5] at H
      have c5b0 : (t298 == 0) = true := beq_iff_eq.mpr c5
      have c5b1 : (t298 != 0) = false := bne_eq_false_iff_eq.mpr c5
      clear c5
      by_cases c6 : t297.toList = ([] : List UInt8)
      · rw [if_pos c6] at H
        have c6b0 : (t297.toList == ([] : List UInt8)) = true := beq_iff_eq.mpr c6
        have c6b1 : (t297.toList != ([] : List UInt8)) = false := bne_eq_false_iff_eq.mpr c6
        clear c6
        by_cases c7 : t301 = true
        · subst c7
          have H1 : (if t300.toList = ([42, 2, 0, 0] : List UInt8) then (if t304 = 0 then (if (t302.length : Int) = 2 then (if 1 < (t302.length : Int) then (some (((rd_T47 t302 1).f0) == 3 && (((rd_T47 t302 1).f1) == 5 && ((((rd_T47 t302 1).f2).toList) == ([97, 98] : List UInt8))))) else (none)) else (some false)) else (some false)) else (some false)) = some r := by rw [if_pos rfl] at H; exact H
          clear H
          have H := H1
          clear H1
          by_cases c8 : t300.toList = ([42, 2, 0, 0] : List UInt8)
          · rw [if_pos c8] at H
            have c8b0 : (t300.toList == ([42, 2, 0, 0] : List UInt8)) = true := beq_iff_eq.mpr c8
            have c8b1 : (t300.toList != ([42, 2, 0, 0] : List UInt8)) = false := bne_eq_false_iff_eq.mpr c8
            clear c8
            by_cases c9 : t304 = 0
            · rw [if_pos c9] at H
              have c9b0 : (t304 == 0) = true := beq_iff_eq.mpr c9
              have c9b1 : (t304 != 0) = false := bne_eq_false_iff_eq.mpr c9
              clear c9
              by_cases c10 : (t302.length : Int) = 2
              · rw [if_pos c10] at H
                have c10b0 : ((t302.length : Int) == 2) = true := beq_iff_eq.mpr c10
                have c10b1 : ((t302.length : Int) != 2) = false := bne_eq_false_iff_eq.mpr c10
                clear c10
                by_cases c11 : 1 < (t302.length : Int)
                · rw [if_pos c11] at H
                  have c11b0 : decide (1 < (t302.length : Int)) = true := decide_eq_true c11
                  have c11b1 : decide (1 < t302.length) = true := decide_eq_true (by omega)
                  clear c11
                  obtain rfl := Option.some.inj H
                  go_enter Try.func17, Try.ntmps17
                  go_wp2_with (first | ((with_reducible refine gate_callee (f := 20) rfl ?_); refine goesL_ (some 10) rfl rfl Try.func20 (by kernel_rfl) rfl #[.string (⟨#[42, 2, 0, 0]⟩ : ByteArray)] rfl gAr ?_; (with_reducible refine (frame_Body.calls (⟨#[42, 2, 0, 0]⟩ : ByteArray) t297 t298 t299 _ A1.out).mono ?_); rintro e w' ⟨rfl, ⟨nd, rfl⟩⟩; refine ⟨_, rfl, ?_⟩) | ((with_reducible refine gate_callee (f := 22) rfl ?_); refine goesL_ (some 15) rfl rfl Try.func22 (by kernel_rfl) rfl #[.string (⟨#[]⟩ : ByteArray)] rfl gAr ?_; (with_reducible refine (frame_Wrap.calls k (⟨#[]⟩ : ByteArray) t300 true _ A2.out).mono ?_); rintro e w12 ⟨rfl, hb⟩; refine ⟨_, rfl, ?_⟩; have n0_ := Aside0.mk (below_step (bel) hb); clear HB; have HB := n0_; clear n0_; (try clear hb)) | ((with_reducible refine gate_callee (f := 18) rfl ?_); refine goesL_ (some 19) rfl rfl Try.func18 (by kernel_rfl) rfl #[.string (⟨#[0, 3, 2, 97, 98]⟩ : ByteArray), .int .i64 4] rfl gAr ?_; (with_reducible refine (frame_Split.calls k (⟨#[0, 3, 2, 97, 98]⟩ : ByteArray) 4 t302 t303 t304 _ A3.out).mono ?_); rintro e w13 ⟨v305, rfl, ho0, hb⟩; refine ⟨_, rfl, ?_⟩; have n0_ := Aside0.mk (Kd.R_lower ho0 bsz); have n1_ := Aside0.mk (below_step (bel) hb); clear HB; have HO306 := n0_; have HB := n1_; clear n0_ n1_; (try clear hb); (try clear ho0); obtain ⟨Ao14, co14, eo14⟩ := Kd.R_slice HO306.out; subst eo14; have p307 : 0 ≤ (1 : Int) := (by omega); have q307 : 1 < (t302.length : Int) := odt; obtain ⟨ad307, e307, hx307_0, hx307_1, hx307_2⟩ := at_T47 (Kd.R_reads' HO306.out).2.2 1 p307 q307; cases e307; (try simp only [show (1 : Int).toNat = 1 from rfl, Nat.reduceMul, Nat.reduceEqDiff, Go.Addr.add, ↓reduceIte] at hx307_0); (try simp only [show (1 : Int).toNat = 1 from rfl, Nat.reduceMul, Nat.reduceEqDiff, Go.Addr.add, ↓reduceIte] at hx307_1); (try simp only [show (1 : Int).toNat = 1 from rfl, Nat.reduceMul, Nat.reduceEqDiff, Go.Addr.add, ↓reduceIte] at hx307_2); have qi307 : (1 < t302.length) = True := eq_true (by omega); (try rw [show ((1 : Int)).toNat = 1 from rfl] at hx307_0); (try rw [show 1 * 3 = 3 from rfl] at hx307_0); (try rw [show ((1 : Int)).toNat = 1 from rfl] at hx307_1); (try rw [show 1 * 3 = 3 from rfl] at hx307_1); (try rw [show ((1 : Int)).toNat = 1 from rfl] at hx307_2); (try rw [show 1 * 3 = 3 from rfl] at hx307_2); replace p307 := eq_true p307; replace q307 := eq_true q307))
                  go_ret
                  exact ⟨rtE, bel⟩
                · rw [if_neg c11] at H
                  exact absurd H (by simp)
              · rw [if_neg c10] at H
                have c10b0 : ((t302.length : Int) == 2) = false := beq_eq_false_iff_ne.mpr c10
                have c10b1 : ((t302.length : Int) != 2) = true := bne_iff_ne.mpr c10
                obtain rfl := Option.some.inj H
                go_enter Try.func17, Try.ntmps17
                go_wp2_with (first | ((with_reducible refine gate_callee (f := 20) rfl ?_); refine goesL_ (some 10) rfl rfl Try.func20 (by kernel_rfl) rfl #[.string (⟨#[42, 2, 0, 0]⟩ : ByteArray)] rfl gAr ?_; (with_reducible refine (frame_Body.calls (⟨#[42, 2, 0, 0]⟩ : ByteArray) t297 t298 t299 _ A1.out).mono ?_); rintro e w' ⟨rfl, ⟨nd, rfl⟩⟩; refine ⟨_, rfl, ?_⟩) | ((with_reducible refine gate_callee (f := 22) rfl ?_); refine goesL_ (some 15) rfl rfl Try.func22 (by kernel_rfl) rfl #[.string (⟨#[]⟩ : ByteArray)] rfl gAr ?_; (with_reducible refine (frame_Wrap.calls k (⟨#[]⟩ : ByteArray) t300 true _ A2.out).mono ?_); rintro e w15 ⟨rfl, hb⟩; refine ⟨_, rfl, ?_⟩; have n0_ := Aside0.mk (below_step (bel) hb); clear HB; have HB := n0_; clear n0_; (try clear hb)) | ((with_reducible refine gate_callee (f := 18) rfl ?_); refine goesL_ (some 19) rfl rfl Try.func18 (by kernel_rfl) rfl #[.string (⟨#[0, 3, 2, 97, 98]⟩ : ByteArray), .int .i64 4] rfl gAr ?_; (with_reducible refine (frame_Split.calls k (⟨#[0, 3, 2, 97, 98]⟩ : ByteArray) 4 t302 t303 t304 _ A3.out).mono ?_); rintro e w16 ⟨v305, rfl, ho0, hb⟩; refine ⟨_, rfl, ?_⟩; have n0_ := Aside0.mk (Kd.R_lower ho0 bsz); have n1_ := Aside0.mk (below_step (bel) hb); clear HB; have HO306 := n0_; have HB := n1_; clear n0_ n1_; (try clear hb); (try clear ho0); obtain ⟨Ao17, co17, eo17⟩ := Kd.R_slice HO306.out; subst eo17))
                go_ret
                exact ⟨rtE, bel⟩
            · rw [if_neg c9] at H
              have c9b0 : (t304 == 0) = false := beq_eq_false_iff_ne.mpr c9
              have c9b1 : (t304 != 0) = true := bne_iff_ne.mpr c9
              obtain rfl := Option.some.inj H
              go_enter Try.func17, Try.ntmps17
              go_wp2_with (first | ((with_reducible refine gate_callee (f := 20) rfl ?_); refine goesL_ (some 10) rfl rfl Try.func20 (by kernel_rfl) rfl #[.string (⟨#[42, 2, 0, 0]⟩ : ByteArray)] rfl gAr ?_; (with_reducible refine (frame_Body.calls (⟨#[42, 2, 0, 0]⟩ : ByteArray) t297 t298 t299 _ A1.out).mono ?_); rintro e w' ⟨rfl, ⟨nd, rfl⟩⟩; refine ⟨_, rfl, ?_⟩) | ((with_reducible refine gate_callee (f := 22) rfl ?_); refine goesL_ (some 15) rfl rfl Try.func22 (by kernel_rfl) rfl #[.string (⟨#[]⟩ : ByteArray)] rfl gAr ?_; (with_reducible refine (frame_Wrap.calls k (⟨#[]⟩ : ByteArray) t300 true _ A2.out).mono ?_); rintro e w18 ⟨rfl, hb⟩; refine ⟨_, rfl, ?_⟩; have n0_ := Aside0.mk (below_step (bel) hb); clear HB; have HB := n0_; clear n0_; (try clear hb)) | ((with_reducible refine gate_callee (f := 18) rfl ?_); refine goesL_ (some 19) rfl rfl Try.func18 (by kernel_rfl) rfl #[.string (⟨#[0, 3, 2, 97, 98]⟩ : ByteArray), .int .i64 4] rfl gAr ?_; (with_reducible refine (frame_Split.calls k (⟨#[0, 3, 2, 97, 98]⟩ : ByteArray) 4 t302 t303 t304 _ A3.out).mono ?_); rintro e w19 ⟨v305, rfl, ho0, hb⟩; refine ⟨_, rfl, ?_⟩; have n0_ := Aside0.mk (Kd.R_lower ho0 bsz); have n1_ := Aside0.mk (below_step (bel) hb); clear HB; have HO306 := n0_; have HB := n1_; clear n0_ n1_; (try clear hb); (try clear ho0)))
              go_ret
              exact ⟨rtE, bel⟩
          · rw [if_neg c8] at H
            have c8b0 : (t300.toList == ([42, 2, 0, 0] : List UInt8)) = false := beq_eq_false_iff_ne.mpr c8
            have c8b1 : (t300.toList != ([42, 2, 0, 0] : List UInt8)) = true := bne_iff_ne.mpr c8
            obtain rfl := Option.some.inj H
            go_enter Try.func17, Try.ntmps17
            go_wp2_with (first | ((with_reducible refine gate_callee (f := 20) rfl ?_); refine goesL_ (some 10) rfl rfl Try.func20 (by kernel_rfl) rfl #[.string (⟨#[42, 2, 0, 0]⟩ : ByteArray)] rfl gAr ?_; (with_reducible refine (frame_Body.calls (⟨#[42, 2, 0, 0]⟩ : ByteArray) t297 t298 t299 _ A1.out).mono ?_); rintro e w' ⟨rfl, ⟨nd, rfl⟩⟩; refine ⟨_, rfl, ?_⟩) | ((with_reducible refine gate_callee (f := 22) rfl ?_); refine goesL_ (some 15) rfl rfl Try.func22 (by kernel_rfl) rfl #[.string (⟨#[]⟩ : ByteArray)] rfl gAr ?_; (with_reducible refine (frame_Wrap.calls k (⟨#[]⟩ : ByteArray) t300 true _ A2.out).mono ?_); rintro e w20 ⟨rfl, hb⟩; refine ⟨_, rfl, ?_⟩; have n0_ := Aside0.mk (below_step (bel) hb); clear HB; have HB := n0_; clear n0_; (try clear hb)) | ((with_reducible refine gate_callee (f := 18) rfl ?_); refine goesL_ (some 19) rfl rfl Try.func18 (by kernel_rfl) rfl #[.string (⟨#[0, 3, 2, 97, 98]⟩ : ByteArray), .int .i64 4] rfl gAr ?_; (with_reducible refine (frame_Split.calls k (⟨#[0, 3, 2, 97, 98]⟩ : ByteArray) 4 t302 t303 t304 _ A3.out).mono ?_); rintro e w21 ⟨v305, rfl, ho0, hb⟩; refine ⟨_, rfl, ?_⟩; have n0_ := Aside0.mk (Kd.R_lower ho0 bsz); have n1_ := Aside0.mk (below_step (bel) hb); clear HB; have HO306 := n0_; have HB := n1_; clear n0_ n1_; (try clear hb); (try clear ho0)))
            go_ret
            exact ⟨rtE, bel⟩
        · replace c7 := Bool.eq_false_iff.mpr c7
          subst c7
          have H1 : (some false) = some r := by rw [if_neg (show ¬ (false = true) by decide)] at H; exact H
          clear H
          have H := H1
          clear H1
          obtain rfl := Option.some.inj H
          go_enter Try.func17, Try.ntmps17
          go_wp2_with (first | ((with_reducible refine gate_callee (f := 20) rfl ?_); refine goesL_ (some 10) rfl rfl Try.func20 (by kernel_rfl) rfl #[.string (⟨#[42, 2, 0, 0]⟩ : ByteArray)] rfl gAr ?_; (with_reducible refine (frame_Body.calls (⟨#[42, 2, 0, 0]⟩ : ByteArray) t297 t298 t299 _ A1.out).mono ?_); rintro e w' ⟨rfl, ⟨nd, rfl⟩⟩; refine ⟨_, rfl, ?_⟩) | ((with_reducible refine gate_callee (f := 22) rfl ?_); refine goesL_ (some 15) rfl rfl Try.func22 (by kernel_rfl) rfl #[.string (⟨#[]⟩ : ByteArray)] rfl gAr ?_; (with_reducible refine (frame_Wrap.calls k (⟨#[]⟩ : ByteArray) t300 false _ A2.out).mono ?_); rintro e w22 ⟨rfl, hb⟩; refine ⟨_, rfl, ?_⟩; have n0_ := Aside0.mk (below_step (bel) hb); clear HB; have HB := n0_; clear n0_; (try clear hb)) | ((with_reducible refine gate_callee (f := 18) rfl ?_); refine goesL_ (some 19) rfl rfl Try.func18 (by kernel_rfl) rfl #[.string (⟨#[0, 3, 2, 97, 98]⟩ : ByteArray), .int .i64 4] rfl gAr ?_; (with_reducible refine (frame_Split.calls k (⟨#[0, 3, 2, 97, 98]⟩ : ByteArray) 4 t302 t303 t304 _ A3.out).mono ?_); rintro e w23 ⟨v305, rfl, ho0, hb⟩; refine ⟨_, rfl, ?_⟩; have n0_ := Aside0.mk (Kd.R_lower ho0 bsz); have n1_ := Aside0.mk (below_step (bel) hb); clear HB; have HO306 := n0_; have HB := n1_; clear n0_ n1_; (try clear hb); (try clear ho0)))
          go_ret
          exact ⟨rtE, bel⟩
      · rw [if_neg c6] at H
        have c6b0 : (t297.toList == ([] : List UInt8)) = false := beq_eq_false_iff_ne.mpr c6
        have c6b1 : (t297.toList != ([] : List UInt8)) = true := bne_iff_ne.mpr c6
        obtain rfl := Option.some.inj H
        go_enter Try.func17, Try.ntmps17
        go_wp2_with (first | ((with_reducible refine gate_callee (f := 20) rfl ?_); refine goesL_ (some 10) rfl rfl Try.func20 (by kernel_rfl) rfl #[.string (⟨#[42, 2, 0, 0]⟩ : ByteArray)] rfl gAr ?_; (with_reducible refine (frame_Body.calls (⟨#[42, 2, 0, 0]⟩ : ByteArray) t297 t298 t299 _ A1.out).mono ?_); rintro e w' ⟨rfl, ⟨nd, rfl⟩⟩; refine ⟨_, rfl, ?_⟩) | ((with_reducible refine gate_callee (f := 22) rfl ?_); refine goesL_ (some 15) rfl rfl Try.func22 (by kernel_rfl) rfl #[.string (⟨#[]⟩ : ByteArray)] rfl gAr ?_; (with_reducible refine (frame_Wrap.calls k (⟨#[]⟩ : ByteArray) t300 t301 _ A2.out).mono ?_); rintro e w24 ⟨rfl, hb⟩; refine ⟨_, rfl, ?_⟩; have n0_ := Aside0.mk (below_step (bel) hb); clear HB; have HB := n0_; clear n0_; (try clear hb)) | ((with_reducible refine gate_callee (f := 18) rfl ?_); refine goesL_ (some 19) rfl rfl Try.func18 (by kernel_rfl) rfl #[.string (⟨#[0, 3, 2, 97, 98]⟩ : ByteArray), .int .i64 4] rfl gAr ?_; (with_reducible refine (frame_Split.calls k (⟨#[0, 3, 2, 97, 98]⟩ : ByteArray) 4 t302 t303 t304 _ A3.out).mono ?_); rintro e w25 ⟨v305, rfl, ho0, hb⟩; refine ⟨_, rfl, ?_⟩; have n0_ := Aside0.mk (Kd.R_lower ho0 bsz); have n1_ := Aside0.mk (below_step (bel) hb); clear HB; have HO306 := n0_; have HB := n1_; clear n0_ n1_; (try clear hb); (try clear ho0)))
        go_ret
        exact ⟨rtE, bel⟩
    · rw [if_neg c5] at H
      have c5b0 : (t298 == 0) = false := beq_eq_false_iff_ne.mpr c5
      have c5b1 : (t298 != 0) = true := bne_iff_ne.mpr c5
      obtain rfl := Option.some.inj H
      go_enter Try.func17, Try.ntmps17
      go_wp2_with (first | ((with_reducible refine gate_callee (f := 20) rfl ?_); refine goesL_ (some 10) rfl rfl Try.func20 (by kernel_rfl) rfl #[.string (⟨#[42, 2, 0, 0]⟩ : ByteArray)] rfl gAr ?_; (with_reducible refine (frame_Body.calls (⟨#[42, 2, 0, 0]⟩ : ByteArray) t297 t298 t299 _ A1.out).mono ?_); rintro e w' ⟨rfl, ⟨nd, rfl⟩⟩; refine ⟨_, rfl, ?_⟩) | ((with_reducible refine gate_callee (f := 22) rfl ?_); refine goesL_ (some 15) rfl rfl Try.func22 (by kernel_rfl) rfl #[.string (⟨#[]⟩ : ByteArray)] rfl gAr ?_; (with_reducible refine (frame_Wrap.calls k (⟨#[]⟩ : ByteArray) t300 t301 _ A2.out).mono ?_); rintro e w26 ⟨rfl, hb⟩; refine ⟨_, rfl, ?_⟩; have n0_ := Aside0.mk (below_step (bel) hb); clear HB; have HB := n0_; clear n0_; (try clear hb)) | ((with_reducible refine gate_callee (f := 18) rfl ?_); refine goesL_ (some 19) rfl rfl Try.func18 (by kernel_rfl) rfl #[.string (⟨#[0, 3, 2, 97, 98]⟩ : ByteArray), .int .i64 4] rfl gAr ?_; (with_reducible refine (frame_Split.calls k (⟨#[0, 3, 2, 97, 98]⟩ : ByteArray) 4 t302 t303 t304 _ A3.out).mono ?_); rintro e w27 ⟨v305, rfl, ho0, hb⟩; refine ⟨_, rfl, ?_⟩; have n0_ := Aside0.mk (Kd.R_lower ho0 bsz); have n1_ := Aside0.mk (below_step (bel) hb); clear HB; have HO306 := n0_; have HB := n1_; clear n0_ n1_; (try clear hb); (try clear ho0)))
      go_ret
      exact ⟨rtE, bel⟩
  · rw [if_neg c4] at H
    have c4b0 : (t299 == 0) = false := beq_eq_false_iff_ne.mpr c4
    have c4b1 : (t299 != 0) = true := bne_iff_ne.mpr c4
    obtain rfl := Option.some.inj H
    go_enter Try.func17, Try.ntmps17
    go_wp2_with (first | ((with_reducible refine gate_callee (f := 20) rfl ?_); refine goesL_ (some 10) rfl rfl Try.func20 (by kernel_rfl) rfl #[.string (⟨#[42, 2, 0, 0]⟩ : ByteArray)] rfl gAr ?_; (with_reducible refine (frame_Body.calls (⟨#[42, 2, 0, 0]⟩ : ByteArray) t297 t298 t299 _ A1.out).mono ?_); rintro e w' ⟨rfl, ⟨nd, rfl⟩⟩; refine ⟨_, rfl, ?_⟩) | ((with_reducible refine gate_callee (f := 22) rfl ?_); refine goesL_ (some 15) rfl rfl Try.func22 (by kernel_rfl) rfl #[.string (⟨#[]⟩ : ByteArray)] rfl gAr ?_; (with_reducible refine (frame_Wrap.calls k (⟨#[]⟩ : ByteArray) t300 t301 _ A2.out).mono ?_); rintro e w28 ⟨rfl, hb⟩; refine ⟨_, rfl, ?_⟩; have n0_ := Aside0.mk (below_step (bel) hb); clear HB; have HB := n0_; clear n0_; (try clear hb)) | ((with_reducible refine gate_callee (f := 18) rfl ?_); refine goesL_ (some 19) rfl rfl Try.func18 (by kernel_rfl) rfl #[.string (⟨#[0, 3, 2, 97, 98]⟩ : ByteArray), .int .i64 4] rfl gAr ?_; (with_reducible refine (frame_Split.calls k (⟨#[0, 3, 2, 97, 98]⟩ : ByteArray) 4 t302 t303 t304 _ A3.out).mono ?_); rintro e w29 ⟨v305, rfl, ho0, hb⟩; refine ⟨_, rfl, ?_⟩; have n0_ := Aside0.mk (Kd.R_lower ho0 bsz); have n1_ := Aside0.mk (below_step (bel) hb); clear HB; have HO306 := n0_; have HB := n1_; clear n0_ n1_; (try clear hb); (try clear ho0)))
    go_ret
    exact ⟨rtE, bel⟩

/-! ### roadbookref18_Same: function 19 -/
def roadbookref18_Same.l0 : Nat → List (S47) → List (S47) → Int → Option (Bool)
  | 0, _, _, _ => none
  | k + 1, x0, x1, x5 => if x5 < (x0.length : Int) then (if 0 ≤ x5 then (if x5 < (x1.length : Int) then (if (!(((rd_T47 x0 x5).f0) == ((rd_T47 x1 x5).f0)) || (!(((rd_T47 x0 x5).f1) == ((rd_T47 x1 x5).f1)) || (!((((rd_T47 x0 x5).f2).toList) == (((rd_T47 x1 x5).f2).toList))))) = true then (some false) else (roadbookref18_Same.l0 k x0 x1 (wrap64 (x5 + 1)))) else (none)) else (none)) else (some true)
def roadbookref18_Same.f (k : Nat) (l0 : List (S47)) (l1 : List (S47)) : Option (Bool) := if (l0.length : Int) = (l1.length : Int) then (roadbookref18_Same.l0 k l0 l1 0) else (some false)
theorem roadbookref18_Same.mono_l : ∀ k, (∀ y0 y1 y2, LeO (roadbookref18_Same.l0 k y0 y1 y2) (roadbookref18_Same.l0 (k + 1) y0 y1 y2))
  | 0 => fun _ _ _ r h => by simp [roadbookref18_Same.l0] at h
  | k + 1 => by
    have ih0 := roadbookref18_Same.mono_l k
    · intro y0 y1 y2
      unfold roadbookref18_Same.l0
      repeat' first
      | (with_reducible exact ih0 _ _ _)
      | (with_reducible exact LeO.refl _)
      | (with_reducible exact LeO.none _)
      | (with_reducible refine LeO.ite ?_ ?_)
      | (with_reducible refine LeO.bind ?_ (fun _ => ?_))
      | exact ih0 _ _ _
      | exact LeO.none _
      | refine LeO.ite ?_ ?_
      | refine LeO.bind ?_ (fun _ => ?_)
theorem roadbookref18_Same.mono : ∀ a0 a1 k, LeO (roadbookref18_Same.f k a0 a1) (roadbookref18_Same.f (k + 1) a0 a1) := by
  intro a0 a1 k
  have ih0 := roadbookref18_Same.mono_l k
  unfold roadbookref18_Same.f
  repeat' first
      | (with_reducible exact ih0 _ _ _)
      | (with_reducible exact LeO.refl _)
      | (with_reducible exact LeO.none _)
      | (with_reducible refine LeO.ite ?_ ?_)
      | (with_reducible refine LeO.bind ?_ (fun _ => ?_))
      | exact ih0 _ _ _
      | exact LeO.none _
      | refine LeO.ite ?_ ?_
      | refine LeO.bind ?_ (fun _ => ?_)
set_option maxHeartbeats 8000000 in
set_option maxRecDepth 100000 in
theorem roadbookref18_Same.calls (k : Nat) (A0 : Option Addr) (c0 : Nat) (l0 : List (S47)) (A1 : Option Addr) (c1 : Nat) (l1 : List (S47)) (r : Bool) (w : World) (hr0 : Kd.C k47 w A0 l0.length l0) (hc0 : l0.length ≤ c0) (hr1 : Kd.C k47 w A1 l1.length l1) (hc1 : l1.length ≤ c1) (h : roadbookref18_Same.f k l0 l1 = some r) :
    Calls Try.prog 19 #[.slice A0 l0.length c0, .slice A1 l1.length c1] w fun e w' => e = .returned (.bool r) ∧ Drawn0 w w' := by
  have hu47 := Try.underlying47
  have HR0 := Aside0.mk hr0
  have HC0 := Aside0.mk hc0
  clear hr0 hc0
  have HR1 := Aside0.mk hr1
  have HC1 := Aside0.mk hc1
  clear hr1 hc1
  have H : (if (l0.length : Int) = (l1.length : Int) then (roadbookref18_Same.l0 k l0 l1 0) else (some false)) = some r := h
  clear h
  by_cases c3 : (l0.length : Int) = (l1.length : Int)
  · rw [if_pos c3] at H
    have c3b0 : ((l0.length : Int) == (l1.length : Int)) = true := beq_iff_eq.mpr c3
    have c3b1 : ((l0.length : Int) != (l1.length : Int)) = false := bne_eq_false_iff_eq.mpr c3
    have c3b2 : (l0.length == l1.length) = true := by first | simpa using c3 | (simp at c3 ⊢; omega)
    clear c3
    have H' := Aside0.mk H
    clear H
    go_enter Try.func19, Try.ntmps19
    go_wp2
    repeat (go_quiet (fail); try go_wp2)
    go_loopg [5] k (fun kq v5 w' => ∃ (x5_1 : Int), v5 = .int .i64 x5_1 ∧ Aside0 (roadbookref18_Same.l0 kq l0 l1 x5_1 = some r) ∧ Aside0 (kq ≤ k) ∧ Drawn0 w w')
    case atStart => exact ⟨(0), rfS, H', ⟨Nat.le_refl _⟩, by repeat (first | exact Drawn0.refl _ | apply Drawn0.step)⟩
    case round =>
      clear H'
      try clear c1
      try clear p2
      try clear c3
      try clear c3b0
      try clear c3b1
      try clear c3b2
      obtain ⟨x5_1, rfl, HA, HK1, ⟨m1, rfl⟩⟩ := hrel
      cases gk with
      | zero => exact absurd HA.out (by simp [roadbookref18_Same.l0])
      | succ k1 =>
        have H := HA.out
        clear HA
        simp only [roadbookref18_Same.l0] at H
        by_cases c4 : x5_1 < (l0.length : Int)
        · rw [if_pos c4] at H
          have c4b0 : decide (x5_1 < (l0.length : Int)) = true := decide_eq_true c4
          clear c4
          by_cases c5 : 0 ≤ x5_1
          · rw [if_pos c5] at H
            have c5b0 : decide (0 ≤ x5_1) = true := decide_eq_true c5
            clear c5
            by_cases c6 : x5_1 < (l1.length : Int)
            · rw [if_pos c6] at H
              have c6b0 : decide (x5_1 < (l1.length : Int)) = true := decide_eq_true c6
              clear c6
              by_cases c7 : (!(((rd_T47 l0 x5_1).f0) == ((rd_T47 l1 x5_1).f0)) || (!(((rd_T47 l0 x5_1).f1) == ((rd_T47 l1 x5_1).f1)) || (!((((rd_T47 l0 x5_1).f2).toList) == (((rd_T47 l1 x5_1).f2).toList))))) = true
              · rw [if_pos c7] at H
                have c7b0 : (!(((rd_T47 l0 x5_1).f0) == ((rd_T47 l1 x5_1).f0)) || (!(((rd_T47 l0 x5_1).f1) == ((rd_T47 l1 x5_1).f1)) || (!((((rd_T47 l0 x5_1).f2).toList) == (((rd_T47 l1 x5_1).f2).toList))))) = true := c7
                clear c7
                obtain rfl := Option.some.inj H
                have p308 : 0 ≤ (x5_1 : Int) := odt
                have q308 : x5_1 < (l0.length : Int) := odt
                obtain ⟨ad308, e308, hx308_0, hx308_1, hx308_2⟩ := at_T47 HR0.out x5_1 p308 q308
                cases e308
                replace p308 := eq_true p308
                replace q308 := eq_true q308
                have p309 : 0 ≤ (x5_1 : Int) := odt
                have q309 : x5_1 < (l1.length : Int) := odt
                obtain ⟨ad309, e309, hx309_0, hx309_1, hx309_2⟩ := at_T47 HR1.out x5_1 p309 q309
                cases e309
                replace p309 := eq_true p309
                replace q309 := eq_true q309
                go_wp2
                repeat (go_quiet (fail); try go_wp2)
                go_ret
                exact ⟨rfS, by repeat (first | exact Drawn0.refl _ | apply Drawn0.step)⟩
              · rw [if_neg c7] at H
                have c7b0 : (!(((rd_T47 l0 x5_1).f0) == ((rd_T47 l1 x5_1).f0)) || (!(((rd_T47 l0 x5_1).f1) == ((rd_T47 l1 x5_1).f1)) || (!((((rd_T47 l0 x5_1).f2).toList) == (((rd_T47 l1 x5_1).f2).toList))))) = false := by simpa using c7
                clear c7
                have H' := Aside0.mk H
                clear H
                have p308 : 0 ≤ (x5_1 : Int) := odt
                have q308 : x5_1 < (l0.length : Int) := odt
                obtain ⟨ad308, e308, hx308_0, hx308_1, hx308_2⟩ := at_T47 HR0.out x5_1 p308 q308
                cases e308
                replace p308 := eq_true p308
                replace q308 := eq_true q308
                have p309 : 0 ≤ (x5_1 : Int) := odt
                have q309 : x5_1 < (l1.length : Int) := odt
                obtain ⟨ad309, e309, hx309_0, hx309_1, hx309_2⟩ := at_T47 HR1.out x5_1 p309 q309
                cases e309
                replace p309 := eq_true p309
                replace q309 := eq_true q309
                go_wp2
                repeat (go_quiet (fail); try go_wp2)
                go_roundg k1
                case measure => have := HK1.out; omega
                case rel => exact ⟨(wrap64 (x5_1 + 1)), rfS, H', ⟨by have := HK1.out; omega⟩, by repeat (first | exact Drawn0.refl _ | apply Drawn0.step)⟩
            · rw [if_neg c6] at H
              exact absurd H (by simp)
          · rw [if_neg c5] at H
            exact absurd H (by simp)
        · rw [if_neg c4] at H
          have c4b0 : decide (x5_1 < (l0.length : Int)) = false := decide_eq_false c4
          clear c4
          obtain rfl := Option.some.inj H
          go_wp2
          repeat (go_quiet (fail); try go_wp2)
          go_ret
          exact ⟨rfS, by repeat (first | exact Drawn0.refl _ | apply Drawn0.step)⟩
  · rw [if_neg c3] at H
    have c3b0 : ((l0.length : Int) == (l1.length : Int)) = false := beq_eq_false_iff_ne.mpr c3
    have c3b1 : ((l0.length : Int) != (l1.length : Int)) = true := bne_iff_ne.mpr c3
    have c3b2 : (l0.length == l1.length) = false := by first | simpa using c3 | (simp at c3 ⊢; omega)
    obtain rfl := Option.some.inj H
    go_enter Try.func19, Try.ntmps19
    go_wp2
    repeat (go_quiet (fail); try go_wp2)
    go_ret
    exact ⟨rfS, by repeat (first | exact Drawn0.refl _ | apply Drawn0.step)⟩

/-! ### roadbookref18_Body: function 21 -/
def roadbookref18_Body.f (a0 : ByteArray) : Option (ByteArray × Int × Int) := if (a0.size : Int) > 65535 then (some ((⟨#[]⟩ : ByteArray), 65535, 10)) else (if (a0.size : Int) < 4 then (some ((⟨#[]⟩ : ByteArray), (a0.size : Int), 2)) else (if 0 < (a0.size : Int) then (if (bt a0 0) = 42 then (if 1 < (a0.size : Int) then (if (bt a0 1) = 2 then (if 2 < (a0.size : Int) then (if 3 < (a0.size : Int) then (if (a0.size : Int) < (wrap64 (4 + (wrap64 ((wrap64 (256 * (wrap64 (bt a0 2)))) + (wrap64 (bt a0 3)))))) then (some ((⟨#[]⟩ : ByteArray), (a0.size : Int), 2)) else (if 4 ≤ (wrap64 (4 + (wrap64 ((wrap64 (256 * (wrap64 (bt a0 2)))) + (wrap64 (bt a0 3)))))) then (if (wrap64 (4 + (wrap64 ((wrap64 (256 * (wrap64 (bt a0 2)))) + (wrap64 (bt a0 3)))))) ≤ (a0.size : Int) then (some (a0.extract 4 ((wrap64 (4 + (wrap64 ((wrap64 (256 * (wrap64 (bt a0 2)))) + (wrap64 (bt a0 3)))))) : Int).toNat, 0, 0)) else (none)) else (none))) else (none)) else (none)) else (some ((⟨#[]⟩ : ByteArray), 1, 4))) else (none)) else (some ((⟨#[]⟩ : ByteArray), 0, 4))) else (none)))
set_option maxHeartbeats 8000000 in
set_option maxRecDepth 100000 in
theorem roadbookref18_Body.calls (a0 : ByteArray) (r1 : ByteArray) (r2 : Int) (r3 : Int) (w : World) (h : roadbookref18_Body.f a0 = some (r1, r2, r3)) :
    Calls Try.prog 21 #[.string a0] w fun e w' => e = .returned (.tuple #[.string r1, .int .i64 r2, .int .i64 r3]) ∧ Drawn0 w w' := by
  have H : (if (a0.size : Int) > 65535 then (some ((⟨#[]⟩ : ByteArray), 65535, 10)) else (if (a0.size : Int) < 4 then (some ((⟨#[]⟩ : ByteArray), (a0.size : Int), 2)) else (if 0 < (a0.size : Int) then (if (bt a0 0) = 42 then (if 1 < (a0.size : Int) then (if (bt a0 1) = 2 then (if 2 < (a0.size : Int) then (if 3 < (a0.size : Int) then (if (a0.size : Int) < (wrap64 (4 + (wrap64 ((wrap64 (256 * (wrap64 (bt a0 2)))) + (wrap64 (bt a0 3)))))) then (some ((⟨#[]⟩ : ByteArray), (a0.size : Int), 2)) else (if 4 ≤ (wrap64 (4 + (wrap64 ((wrap64 (256 * (wrap64 (bt a0 2)))) + (wrap64 (bt a0 3)))))) then (if (wrap64 (4 + (wrap64 ((wrap64 (256 * (wrap64 (bt a0 2)))) + (wrap64 (bt a0 3)))))) ≤ (a0.size : Int) then (some (a0.extract 4 ((wrap64 (4 + (wrap64 ((wrap64 (256 * (wrap64 (bt a0 2)))) + (wrap64 (bt a0 3)))))) : Int).toNat, 0, 0)) else (none)) else (none))) else (none)) else (none)) else (some ((⟨#[]⟩ : ByteArray), 1, 4))) else (none)) else (some ((⟨#[]⟩ : ByteArray), 0, 4))) else (none)))) = some (r1, r2, r3) := h
  clear h
  by_cases c2 : (a0.size : Int) > 65535
  · rw [if_pos c2] at H
    have c2b0 : decide (65535 < (a0.size : Int)) = true := decide_eq_true c2
    have c2b1 : decide (65535 < a0.size) = true := decide_eq_true (by omega)
    clear c2
    simp only [Option.some.injEq, Prod.mk.injEq] at H
    obtain ⟨rfl, rfl, rfl⟩ := H
    go_enter Try.func21, Try.ntmps21
    go_wp2
    repeat (go_quiet (fail); try go_wp2)
    go_ret3
    exact ⟨rfS, by repeat (first | exact Drawn0.refl _ | apply Drawn0.step)⟩
  · rw [if_neg c2] at H
    have c2b0 : decide (65535 < (a0.size : Int)) = false := decide_eq_false c2
    have c2b1 : decide (65535 < a0.size) = false := decide_eq_false (by omega)
    clear c2
    by_cases c3 : (a0.size : Int) < 4
    · rw [if_pos c3] at H
      have c3b0 : decide ((a0.size : Int) < 4) = true := decide_eq_true c3
      have c3b1 : decide (a0.size < 4) = true := decide_eq_true (by omega)
      clear c3
      simp only [Option.some.injEq, Prod.mk.injEq] at H
      obtain ⟨rfl, rfl, rfl⟩ := H
      go_enter Try.func21, Try.ntmps21
      go_wp2
      repeat (go_quiet (fail); try go_wp2)
      go_ret3
      exact ⟨rfS, by repeat (first | exact Drawn0.refl _ | apply Drawn0.step)⟩
    · rw [if_neg c3] at H
      have c3b0 : decide ((a0.size : Int) < 4) = false := decide_eq_false c3
      have c3b1 : decide (a0.size < 4) = false := decide_eq_false (by omega)
      clear c3
      by_cases c4 : 0 < (a0.size : Int)
      · rw [if_pos c4] at H
        have c4b0 : decide (0 < (a0.size : Int)) = true := decide_eq_true c4
        have c4b1 : decide (0 < a0.size) = true := decide_eq_true (by omega)
        clear c4
        by_cases c6 : (bt a0 0) = 42
        · rw [if_pos c6] at H
          have c6b0 : ((bt a0 0) == 42) = true := beq_iff_eq.mpr c6
          have c6b1 : ((bt a0 0) != 42) = false := bne_eq_false_iff_eq.mpr c6
          clear c6
          by_cases c7 : 1 < (a0.size : Int)
          · rw [if_pos c7] at H
            have c7b0 : decide (1 < (a0.size : Int)) = true := decide_eq_true c7
            have c7b1 : decide (1 < a0.size) = true := decide_eq_true (by omega)
            clear c7
            by_cases c9 : (bt a0 1) = 2
            · rw [if_pos c9] at H
              have c9b0 : ((bt a0 1) == 2) = true := beq_iff_eq.mpr c9
              have c9b1 : ((bt a0 1) != 2) = false := bne_eq_false_iff_eq.mpr c9
              clear c9
              by_cases c10 : 2 < (a0.size : Int)
              · rw [if_pos c10] at H
                have c10b0 : decide (2 < (a0.size : Int)) = true := decide_eq_true c10
                have c10b1 : decide (2 < a0.size) = true := decide_eq_true (by omega)
                clear c10
                by_cases c12 : 3 < (a0.size : Int)
                · rw [if_pos c12] at H
                  have c12b0 : decide (3 < (a0.size : Int)) = true := decide_eq_true c12
                  have c12b1 : decide (3 < a0.size) = true := decide_eq_true (by omega)
                  clear c12
                  by_cases c14 : (a0.size : Int) < (wrap64 (4 + (wrap64 ((wrap64 (256 * (wrap64 (bt a0 2)))) + (wrap64 (bt a0 3))))))
                  · rw [if_pos c14] at H
                    have c14b0 : decide ((a0.size : Int) < (wrap64 (4 + (wrap64 ((wrap64 (256 * (wrap64 (bt a0 2)))) + (wrap64 (bt a0 3))))))) = true := decide_eq_true c14
                    clear c14
                    simp only [Option.some.injEq, Prod.mk.injEq] at H
                    obtain ⟨rfl, rfl, rfl⟩ := H
                    have p5 : 0 ≤ (0 : Int) := (by omega)
                    have q5 : 0 < a0.size := (by have : (0 : Int) < (a0.size : Int) := odt; omega)
                    have hx5 : ∀ h : 0 < a0.size, ((a0[0]'h).toNat : Int) = bt a0 0 := bt_at a0 0
                    clear p5
                    have qi5 : (0 < (a0.size : Int)) = True := eq_true (odt)
                    replace q5 := eq_true q5
                    have p8 : 0 ≤ (1 : Int) := (by omega)
                    have q8 : 1 < a0.size := (by have : (1 : Int) < (a0.size : Int) := odt; omega)
                    have hx8 : ∀ h : 1 < a0.size, ((a0[1]'h).toNat : Int) = bt a0 1 := bt_at a0 1
                    clear p8
                    have qi8 : (1 < (a0.size : Int)) = True := eq_true (odt)
                    replace q8 := eq_true q8
                    have p11 : 0 ≤ (2 : Int) := (by omega)
                    have q11 : 2 < a0.size := (by have : (2 : Int) < (a0.size : Int) := odt; omega)
                    have hx11 : ∀ h : 2 < a0.size, ((a0[2]'h).toNat : Int) = bt a0 2 := bt_at a0 2
                    clear p11
                    have qi11 : (2 < (a0.size : Int)) = True := eq_true (odt)
                    replace q11 := eq_true q11
                    have p13 : 0 ≤ (3 : Int) := (by omega)
                    have q13 : 3 < a0.size := (by have : (3 : Int) < (a0.size : Int) := odt; omega)
                    have hx13 : ∀ h : 3 < a0.size, ((a0[3]'h).toNat : Int) = bt a0 3 := bt_at a0 3
                    clear p13
                    have qi13 : (3 < (a0.size : Int)) = True := eq_true (odt)
                    replace q13 := eq_true q13
                    go_enter Try.func21, Try.ntmps21
                    go_wp2
                    repeat (go_quiet (fail); try go_wp2)
                    go_ret3
                    exact ⟨rfS, by repeat (first | exact Drawn0.refl _ | apply Drawn0.step)⟩
                  · rw [if_neg c14] at H
                    have c14b0 : decide ((a0.size : Int) < (wrap64 (4 + (wrap64 ((wrap64 (256 * (wrap64 (bt a0 2)))) + (wrap64 (bt a0 3))))))) = false := decide_eq_false c14
                    clear c14
                    by_cases c15 : 4 ≤ (wrap64 (4 + (wrap64 ((wrap64 (256 * (wrap64 (bt a0 2)))) + (wrap64 (bt a0 3))))))
                    · rw [if_pos c15] at H
                      have c15b0 := eq_true c15
                      have c15b1 : decide (4 ≤ (wrap64 (4 + (wrap64 ((wrap64 (256 * (wrap64 (bt a0 2)))) + (wrap64 (bt a0 3))))))) = true := decide_eq_true c15
                      by_cases c16 : (wrap64 (4 + (wrap64 ((wrap64 (256 * (wrap64 (bt a0 2)))) + (wrap64 (bt a0 3)))))) ≤ (a0.size : Int)
                      · rw [if_pos c16] at H
                        have c16b0 := eq_true c16
                        have c16b1 : decide ((wrap64 (4 + (wrap64 ((wrap64 (256 * (wrap64 (bt a0 2)))) + (wrap64 (bt a0 3)))))) ≤ (a0.size : Int)) = true := decide_eq_true c16
                        simp only [Option.some.injEq, Prod.mk.injEq] at H
                        obtain ⟨rfl, rfl, rfl⟩ := H
                        have p5 : 0 ≤ (0 : Int) := (by omega)
                        have q5 : 0 < a0.size := (by have : (0 : Int) < (a0.size : Int) := odt; omega)
                        have hx5 : ∀ h : 0 < a0.size, ((a0[0]'h).toNat : Int) = bt a0 0 := bt_at a0 0
                        clear p5
                        have qi5 : (0 < (a0.size : Int)) = True := eq_true (odt)
                        replace q5 := eq_true q5
                        have p8 : 0 ≤ (1 : Int) := (by omega)
                        have q8 : 1 < a0.size := (by have : (1 : Int) < (a0.size : Int) := odt; omega)
                        have hx8 : ∀ h : 1 < a0.size, ((a0[1]'h).toNat : Int) = bt a0 1 := bt_at a0 1
                        clear p8
                        have qi8 : (1 < (a0.size : Int)) = True := eq_true (odt)
                        replace q8 := eq_true q8
                        have p11 : 0 ≤ (2 : Int) := (by omega)
                        have q11 : 2 < a0.size := (by have : (2 : Int) < (a0.size : Int) := odt; omega)
                        have hx11 : ∀ h : 2 < a0.size, ((a0[2]'h).toNat : Int) = bt a0 2 := bt_at a0 2
                        clear p11
                        have qi11 : (2 < (a0.size : Int)) = True := eq_true (odt)
                        replace q11 := eq_true q11
                        have p13 : 0 ≤ (3 : Int) := (by omega)
                        have q13 : 3 < a0.size := (by have : (3 : Int) < (a0.size : Int) := odt; omega)
                        have hx13 : ∀ h : 3 < a0.size, ((a0[3]'h).toNat : Int) = bt a0 3 := bt_at a0 3
                        clear p13
                        have qi13 : (3 < (a0.size : Int)) = True := eq_true (odt)
                        replace q13 := eq_true q13
                        go_enter Try.func21, Try.ntmps21
                        go_wp2
                        repeat (go_quiet (fail); try go_wp2)
                        go_ret3
                        exact ⟨rfS, by repeat (first | exact Drawn0.refl _ | apply Drawn0.step)⟩
                      · rw [if_neg c16] at H
                        exact absurd H (by simp)
                    · rw [if_neg c15] at H
                      exact absurd H (by simp)
                · rw [if_neg c12] at H
                  exact absurd H (by simp)
              · rw [if_neg c10] at H
                exact absurd H (by simp)
            · rw [if_neg c9] at H
              have c9b0 : ((bt a0 1) == 2) = false := beq_eq_false_iff_ne.mpr c9
              have c9b1 : ((bt a0 1) != 2) = true := bne_iff_ne.mpr c9
              simp only [Option.some.injEq, Prod.mk.injEq] at H
              obtain ⟨rfl, rfl, rfl⟩ := H
              have p5 : 0 ≤ (0 : Int) := (by omega)
              have q5 : 0 < a0.size := (by have : (0 : Int) < (a0.size : Int) := odt; omega)
              have hx5 : ∀ h : 0 < a0.size, ((a0[0]'h).toNat : Int) = bt a0 0 := bt_at a0 0
              clear p5
              have qi5 : (0 < (a0.size : Int)) = True := eq_true (odt)
              replace q5 := eq_true q5
              have p8 : 0 ≤ (1 : Int) := (by omega)
              have q8 : 1 < a0.size := (by have : (1 : Int) < (a0.size : Int) := odt; omega)
              have hx8 : ∀ h : 1 < a0.size, ((a0[1]'h).toNat : Int) = bt a0 1 := bt_at a0 1
              clear p8
              have qi8 : (1 < (a0.size : Int)) = True := eq_true (odt)
              replace q8 := eq_true q8
              go_enter Try.func21, Try.ntmps21
              go_wp2
              repeat (go_quiet (fail); try go_wp2)
              go_ret3
              exact ⟨rfS, by repeat (first | exact Drawn0.refl _ | apply Drawn0.step)⟩
          · rw [if_neg c7] at H
            exact absurd H (by simp)
        · rw [if_neg c6] at H
          have c6b0 : ((bt a0 0) == 42) = false := beq_eq_false_iff_ne.mpr c6
          have c6b1 : ((bt a0 0) != 42) = true := bne_iff_ne.mpr c6
          simp only [Option.some.injEq, Prod.mk.injEq] at H
          obtain ⟨rfl, rfl, rfl⟩ := H
          have p5 : 0 ≤ (0 : Int) := (by omega)
          have q5 : 0 < a0.size := (by have : (0 : Int) < (a0.size : Int) := odt; omega)
          have hx5 : ∀ h : 0 < a0.size, ((a0[0]'h).toNat : Int) = bt a0 0 := bt_at a0 0
          clear p5
          have qi5 : (0 < (a0.size : Int)) = True := eq_true (odt)
          replace q5 := eq_true q5
          go_enter Try.func21, Try.ntmps21
          go_wp2
          repeat (go_quiet (fail); try go_wp2)
          go_ret3
          exact ⟨rfS, by repeat (first | exact Drawn0.refl _ | apply Drawn0.step)⟩
      · rw [if_neg c4] at H
        exact absurd H (by simp)

end Go.Proofs.Ytjgnpggpgkkknaa.Pr
