-- Written by wip/tools/xprint.py of this repo over the kit's printer, out of the translation. Lean checks it.
import Derived.Test.YtjgnpggpgkkknaaPr0
import Derived.Test.YtjgnpggpgkkknaaPr1
import Derived.Test.YtjgnpggpgkkknaaPr5
import Derived.Test.YtjgnpggpgkkknaaPr6
import Derived.Test.YtjgnpggpgkkknaaPr8
import Derived.Test.YtjgnpggpgkkknaaPr9
namespace Go.Proofs.Ytjgnpggpgkkknaa.Pr
open Go.RowKit Go.Proofs.YtjgnpggpgkkknaaW.PrintWords Go.Proofs.YtjgnpggpgkkknaaW.PrintLast Go.Proofs.YtjgnpggpgkkknaaW.PrintMore
attribute [local go_sem] max2_int min2_int max_two min_two max_three min_three max_four min_four   -- for this text's walks alone
set_option linter.unusedVariables false
set_option linter.unusedSimpArgs false

attribute [local go_sem high] eqA23
/-! ### roadbookref02_Put: function 44 -/
def roadbookref02_Put.l0 : Nat → Int → Int → ByteArray → Int → Option (ByteArray × Bool)
  | 0, _, _, _, _ => none
  | k + 1, x0, x1, x6, x7 => if x7 < x1 then ((some (([(Int.tmod x0 256) % 256] : List Int) : List Int)).bind fun y198 => (if (strOfNums y198).size + x6.size ≤ 9223372036854775807 then (roadbookref02_Put.l0 k (wrap64 (Int.tdiv x0 256)) x1 ((strOfNums y198) ++ x6) (wrap64 (x7 + 1))) else (none))) else (some (x6, true))
def roadbookref02_Put.f (k : Nat) (a0 : Int) (a1 : Int) : Option (ByteArray × Bool) := (roadbookref02_Fits.f k a0 a1).bind fun t197 => (if t197 = true then (roadbookref02_Put.l0 k a0 a1 (⟨#[]⟩ : ByteArray) 0) else (some ((⟨#[]⟩ : ByteArray), false)))
theorem roadbookref02_Put.mono_l : ∀ k, (∀ y0 y1 y2 y3, LeO (roadbookref02_Put.l0 k y0 y1 y2 y3) (roadbookref02_Put.l0 (k + 1) y0 y1 y2 y3))
  | 0 => fun _ _ _ _ r h => by simp [roadbookref02_Put.l0] at h
  | k + 1 => by
    have ih0 := roadbookref02_Put.mono_l k
    · intro y0 y1 y2 y3
      unfold roadbookref02_Put.l0
      repeat' first
      | (with_reducible exact ih0 _ _ _ _)
      | (with_reducible exact roadbookref02_Fits.mono _ _ _)
      | (with_reducible exact LeO.refl _)
      | (with_reducible exact LeO.none _)
      | (with_reducible refine LeO.ite ?_ ?_)
      | (with_reducible refine LeO.bind ?_ (fun _ => ?_))
      | exact ih0 _ _ _ _
      | exact roadbookref02_Fits.mono _ _ _
      | exact LeO.none _
      | refine LeO.ite ?_ ?_
      | refine LeO.bind ?_ (fun _ => ?_)
theorem roadbookref02_Put.mono : ∀ a0 a1 k, LeO (roadbookref02_Put.f k a0 a1) (roadbookref02_Put.f (k + 1) a0 a1) := by
  intro a0 a1 k
  have ih0 := roadbookref02_Put.mono_l k
  unfold roadbookref02_Put.f
  repeat' first
      | (with_reducible exact ih0 _ _ _ _)
      | (with_reducible exact roadbookref02_Fits.mono _ _ _)
      | (with_reducible exact LeO.refl _)
      | (with_reducible exact LeO.none _)
      | (with_reducible refine LeO.ite ?_ ?_)
      | (with_reducible refine LeO.bind ?_ (fun _ => ?_))
      | exact ih0 _ _ _ _
      | exact roadbookref02_Fits.mono _ _ _
      | exact LeO.none _
      | refine LeO.ite ?_ ?_
      | refine LeO.bind ?_ (fun _ => ?_)
set_option maxHeartbeats 8000000 in
set_option maxRecDepth 100000 in
theorem roadbookref02_Put.calls (k : Nat) (a0 : Int) (a1 : Int) (r1 : ByteArray) (r2 : Bool) (w : World) (h : roadbookref02_Put.f k a0 a1 = some (r1, r2)) :
    Calls Try.prog 44 #[.int .i64 a0, .int .i64 a1] w fun e w' => e = .returned (.tuple #[.string r1, .bool r2]) ∧ Below w.heap.size w w' := by
  have HB := Aside0.mk (Below.refl w.heap.size w)
  have H : ((roadbookref02_Fits.f k a0 a1).bind fun t197 => (if t197 = true then (roadbookref02_Put.l0 k a0 a1 (⟨#[]⟩ : ByteArray) 0) else (some ((⟨#[]⟩ : ByteArray), false)))) = some (r1, r2) := h
  clear h
  replace H := Option.bind_eq_some_iff.mp H
  obtain ⟨t197, A30, H⟩ := H
  replace H : (if t197 = true then (roadbookref02_Put.l0 k a0 a1 (⟨#[]⟩ : ByteArray) 0) else (some ((⟨#[]⟩ : ByteArray), false))) = some (r1, r2) := H
  have A3 := Aside0.mk A30
  clear A30
  by_cases c4 : t197 = true
  · subst c4
    have H1 : (roadbookref02_Put.l0 k a0 a1 (⟨#[]⟩ : ByteArray) 0) = some (r1, r2) := by rw [if_pos rfl] at H; exact H
    clear H
    have H := H1
    clear H1
    have H' := Aside0.mk H
    clear H
    go_enter Try.func44, Try.ntmps44
    go_wp2_with (first | ((with_reducible refine gate_callee (f := 57) rfl ?_); refine goesL_ (some 10) rfl rfl Try.func57 (by kernel_rfl) rfl #[.int .i64 a0, .int .i64 a1] rfl gAr ?_; (with_reducible refine (roadbookref02_Fits.calls k a0 a1 true _ A3.out).mono ?_); rintro e w' ⟨rfl, ⟨nd, rfl⟩⟩; refine ⟨_, rfl, ?_⟩))
    go_loopg [0, 6, 7] k (fun kq v0 v6 v7 w' => ∃ (x0_1 : Int) (x6_1 : ByteArray) (x7_1 : Int), v0 = .int .i64 x0_1 ∧ v6 = .string x6_1 ∧ v7 = .int .i64 x7_1 ∧ Aside0 (roadbookref02_Put.l0 kq x0_1 a1 x6_1 x7_1 = some (r1, r2)) ∧ Aside0 (kq ≤ k) ∧ Aside0 (Below w.heap.size w w'))
    case atStart => exact ⟨(a0), ((⟨#[]⟩ : ByteArray)), (0), rfS, rfS, rfS, H', ⟨Nat.le_refl _⟩, ⟨bel⟩⟩
    case round =>
      clear H'
      try clear p2
      try clear c4
      obtain ⟨x0_1, x6_1, x7_1, rfl, rfl, rfl, HA, HK1, HB⟩ := hrel
      cases gk with
      | zero => exact absurd HA.out (by simp [roadbookref02_Put.l0])
      | succ k1 =>
        have H := HA.out
        clear HA
        simp only [roadbookref02_Put.l0] at H
        by_cases c5 : x7_1 < a1
        · rw [if_pos c5] at H
          have c5b0 : decide (x7_1 < a1) = true := decide_eq_true c5
          clear c5
          obtain ⟨y198, hy198⟩ : ∃ y_ : List Int, y_ = (([(Int.tmod x0_1 256) % 256] : List Int)) := ⟨_, rfl⟩
          replace H : (if (strOfNums y198).size + x6_1.size ≤ 9223372036854775807 then (roadbookref02_Put.l0 k1 (wrap64 (Int.tdiv x0_1 256)) a1 ((strOfNums y198) ++ x6_1) (wrap64 (x7_1 + 1))) else (none)) = some (r1, r2) := by first | (rw [hy198]; with_reducible exact H) | (have H2_ := (Option.bind_some _ _).symm.trans H; rw [hy198]; with_reducible exact H2_) | (have H2_ := (Option.bind_some _ _).symm.trans H; with_reducible exact H2_) | with_reducible exact H | (rw [hy198]; exact H) | exact H
          have Ny198 := Aside0.mk hy198
          clear hy198
          by_cases c6 : (strOfNums y198).size + x6_1.size ≤ 9223372036854775807
          · rw [if_pos c6] at H
            have c6b0 := eq_true c6
            have c6b1 : decide ((strOfNums y198).size + x6_1.size ≤ 9223372036854775807) = true := decide_eq_true c6
            try have c6b2 : (9223372036854775807 < (strOfNums y198).size + x6_1.size) = False := eq_false (Nat.not_lt.2 c6)
            have H' := Aside0.mk H
            clear H
            go_wp2_with (first | ((with_reducible refine gate_dst (N := 20) rfl ?_); refine Kd.R_lit (Kd.int .u8) _ 5 ?hg (N := 20) ?hd (xs := ([(Int.tmod x0_1 256) % 256] : List Int)) (inner := [.int .u8 ((Int.tmod x0_1 256) % 256)]) (ok := fun _ => True) (okp := fun _ => True) ?hr ?hp (fun _ hk => hk) trivial (Below.refl _ _) (Nat.le_refl _) (by simp) ?_; (case hd => rfl); (case hg => rfl); (case hr => first | (go_simp; done) | (go_simp; rfl)); (case hp => exact (Reps.one (show Kd.M (Kd.int .u8) _ _ _ ((Int.tmod x0_1 256) % 256) [.int .u8 ((Int.tmod x0_1 256) % 256)] from rfl) (Reps.none _ _))); intro v199 w7 ho8 hb hg_ hnew_; clear hg_ hnew_; (first | rw [← Ny198.out] at ho8 | (simp only [Int.reduceToNat] at ho8; rw [← Ny198.out] at ho8)); have n0_ := Aside0.mk (Kd.R_lower ho8 bsz); have n1_ := Aside0.mk (below_step (bel) hb); clear HB; have HO200 := n0_; have HB := n1_; clear n0_ n1_; clear hb ho8; have hcv9 := own_string (P := Try.prog) Try.underlying55 Try.underlying5 Try.underlying9 (Kd.own_of_R HO200.out)))
            go_roundg k1
            case measure => have := HK1.out; omega
            case rel => exact ⟨(wrap64 (Int.tdiv x0_1 256)), ((strOfNums y198) ++ x6_1), (wrap64 (x7_1 + 1)), rfS, rfS, rfS, H', ⟨by have := HK1.out; omega⟩, ⟨bel⟩⟩
          · rw [if_neg c6] at H
            exact absurd H (by simp)
        · rw [if_neg c5] at H
          have c5b0 : decide (x7_1 < a1) = false := decide_eq_false c5
          clear c5
          simp only [Option.some.injEq, Prod.mk.injEq] at H
          obtain ⟨rfl, rfl⟩ := H
          go_wp2
          go_ret2
          exact ⟨rtE, bel⟩
  · replace c4 := Bool.eq_false_iff.mpr c4
    subst c4
    have H1 : (some ((⟨#[]⟩ : ByteArray), false)) = some (r1, r2) := by rw [if_neg (show ¬ (false = true) by decide)] at H; exact H
    clear H
    have H := H1
    clear H1
    simp only [Option.some.injEq, Prod.mk.injEq] at H
    obtain ⟨rfl, rfl⟩ := H
    go_enter Try.func44, Try.ntmps44
    go_wp2_with (first | ((with_reducible refine gate_callee (f := 57) rfl ?_); refine goesL_ (some 10) rfl rfl Try.func57 (by kernel_rfl) rfl #[.int .i64 a0, .int .i64 a1] rfl gAr ?_; (with_reducible refine (roadbookref02_Fits.calls k a0 a1 false _ A3.out).mono ?_); rintro e w' ⟨rfl, ⟨nd, rfl⟩⟩; refine ⟨_, rfl, ?_⟩))
    go_ret2
    exact ⟨rtE, bel⟩

/-! ### roadbookref08_Put: function 16 -/
def roadbookref08_Put.f (k : Nat) (a0_0 : Int) (a0_1 : Int) (a0_2 : ByteArray) (a0_3 : ByteArray) (a0_4 : ByteArray) (a0_5 : Int) : Option (ByteArray × Bool) := (roadbookref02_Put.f k a0_0 2).bind fun bt202 => ((roadbookref02_Put.f k a0_1 2).bind fun bt204 => ((roadbookref02_Put.f k a0_5 4).bind fun bt206 => (if bt202.2 = true then (if bt204.2 = true then (if bt206.2 = true then (if (a0_2.size : Int) = 4 then (if (a0_3.size : Int) = 4 then (if (a0_4.size : Int) = 4 then (if bt202.1.size + bt204.1.size ≤ 9223372036854775807 then (if (bt202.1 ++ bt204.1).size + a0_2.size ≤ 9223372036854775807 then (if ((bt202.1 ++ bt204.1) ++ a0_2).size + a0_3.size ≤ 9223372036854775807 then (if (((bt202.1 ++ bt204.1) ++ a0_2) ++ a0_3).size + a0_4.size ≤ 9223372036854775807 then (if ((((bt202.1 ++ bt204.1) ++ a0_2) ++ a0_3) ++ a0_4).size + bt206.1.size ≤ 9223372036854775807 then (some (((((bt202.1 ++ bt204.1) ++ a0_2) ++ a0_3) ++ a0_4) ++ bt206.1, true)) else (none)) else (none)) else (none)) else (none)) else (none)) else (some ((⟨#[]⟩ : ByteArray), false))) else (some ((⟨#[]⟩ : ByteArray), false))) else (some ((⟨#[]⟩ : ByteArray), false))) else (some ((⟨#[]⟩ : ByteArray), false))) else (some ((⟨#[]⟩ : ByteArray), false))) else (some ((⟨#[]⟩ : ByteArray), false)))))
theorem roadbookref08_Put.mono : ∀ a0 a1 a2 a3 a4 a5 k, LeO (roadbookref08_Put.f k a0 a1 a2 a3 a4 a5) (roadbookref08_Put.f (k + 1) a0 a1 a2 a3 a4 a5) := by
  intro a0 a1 a2 a3 a4 a5 k
  unfold roadbookref08_Put.f
  repeat' first
      | (with_reducible exact roadbookref02_Put.mono _ _ _)
      | (with_reducible exact LeO.refl _)
      | (with_reducible exact LeO.none _)
      | (with_reducible refine LeO.ite ?_ ?_)
      | (with_reducible refine LeO.bind ?_ (fun _ => ?_))
      | exact roadbookref02_Put.mono _ _ _
      | exact LeO.none _
      | refine LeO.ite ?_ ?_
      | refine LeO.bind ?_ (fun _ => ?_)
set_option maxHeartbeats 8000000 in
set_option maxRecDepth 100000 in
theorem roadbookref08_Put.calls (k : Nat) (a0_0 : Int) (a0_1 : Int) (a0_2 : ByteArray) (a0_3 : ByteArray) (a0_4 : ByteArray) (a0_5 : Int) (r1 : ByteArray) (r2 : Bool) (w : World) (h : roadbookref08_Put.f k a0_0 a0_1 a0_2 a0_3 a0_4 a0_5 = some (r1, r2)) :
    Calls Try.prog 16 #[.agg #[.int .i64 a0_0, .int .i64 a0_1, .string a0_2, .string a0_3, .string a0_4, .int .i64 a0_5]] w fun e w' => e = .returned (.tuple #[.string r1, .bool r2]) ∧ Below w.heap.size w w' := by
  have hu23 := Try.underlying23
  have HB := Aside0.mk (Below.refl w.heap.size w)
  have H : ((roadbookref02_Put.f k a0_0 2).bind fun bt202 => ((roadbookref02_Put.f k a0_1 2).bind fun bt204 => ((roadbookref02_Put.f k a0_5 4).bind fun bt206 => (if bt202.2 = true then (if bt204.2 = true then (if bt206.2 = true then (if (a0_2.size : Int) = 4 then (if (a0_3.size : Int) = 4 then (if (a0_4.size : Int) = 4 then (if bt202.1.size + bt204.1.size ≤ 9223372036854775807 then (if (bt202.1 ++ bt204.1).size + a0_2.size ≤ 9223372036854775807 then (if ((bt202.1 ++ bt204.1) ++ a0_2).size + a0_3.size ≤ 9223372036854775807 then (if (((bt202.1 ++ bt204.1) ++ a0_2) ++ a0_3).size + a0_4.size ≤ 9223372036854775807 then (if ((((bt202.1 ++ bt204.1) ++ a0_2) ++ a0_3) ++ a0_4).size + bt206.1.size ≤ 9223372036854775807 then (some (((((bt202.1 ++ bt204.1) ++ a0_2) ++ a0_3) ++ a0_4) ++ bt206.1, true)) else (none)) else (none)) else (none)) else (none)) else (none)) else (some ((⟨#[]⟩ : ByteArray), false))) else (some ((⟨#[]⟩ : ByteArray), false))) else (some ((⟨#[]⟩ : ByteArray), false))) else (some ((⟨#[]⟩ : ByteArray), false))) else (some ((⟨#[]⟩ : ByteArray), false))) else (some ((⟨#[]⟩ : ByteArray), false)))))) = some (r1, r2) := h
  clear h
  replace H := Option.bind_eq_some_iff.mp H
  obtain ⟨⟨t202, t203⟩, A20, H⟩ := H
  replace H : ((roadbookref02_Put.f k a0_1 2).bind fun bt204 => ((roadbookref02_Put.f k a0_5 4).bind fun bt206 => (if t203 = true then (if bt204.2 = true then (if bt206.2 = true then (if (a0_2.size : Int) = 4 then (if (a0_3.size : Int) = 4 then (if (a0_4.size : Int) = 4 then (if t202.size + bt204.1.size ≤ 9223372036854775807 then (if (t202 ++ bt204.1).size + a0_2.size ≤ 9223372036854775807 then (if ((t202 ++ bt204.1) ++ a0_2).size + a0_3.size ≤ 9223372036854775807 then (if (((t202 ++ bt204.1) ++ a0_2) ++ a0_3).size + a0_4.size ≤ 9223372036854775807 then (if ((((t202 ++ bt204.1) ++ a0_2) ++ a0_3) ++ a0_4).size + bt206.1.size ≤ 9223372036854775807 then (some (((((t202 ++ bt204.1) ++ a0_2) ++ a0_3) ++ a0_4) ++ bt206.1, true)) else (none)) else (none)) else (none)) else (none)) else (none)) else (some ((⟨#[]⟩ : ByteArray), false))) else (some ((⟨#[]⟩ : ByteArray), false))) else (some ((⟨#[]⟩ : ByteArray), false))) else (some ((⟨#[]⟩ : ByteArray), false))) else (some ((⟨#[]⟩ : ByteArray), false))) else (some ((⟨#[]⟩ : ByteArray), false))))) = some (r1, r2) := H
  have A2 := Aside0.mk A20
  clear A20
  replace H := Option.bind_eq_some_iff.mp H
  obtain ⟨⟨t204, t205⟩, A30, H⟩ := H
  replace H : ((roadbookref02_Put.f k a0_5 4).bind fun bt206 => (if t203 = true then (if t205 = true then (if bt206.2 = true then (if (a0_2.size : Int) = 4 then (if (a0_3.size : Int) = 4 then (if (a0_4.size : Int) = 4 then (if t202.size + t204.size ≤ 9223372036854775807 then (if (t202 ++ t204).size + a0_2.size ≤ 9223372036854775807 then (if ((t202 ++ t204) ++ a0_2).size + a0_3.size ≤ 9223372036854775807 then (if (((t202 ++ t204) ++ a0_2) ++ a0_3).size + a0_4.size ≤ 9223372036854775807 then (if ((((t202 ++ t204) ++ a0_2) ++ a0_3) ++ a0_4).size + bt206.1.size ≤ 9223372036854775807 then (some (((((t202 ++ t204) ++ a0_2) ++ a0_3) ++ a0_4) ++ bt206.1, true)) else (none)) else (none)) else (none)) else (none)) else (none)) else (some ((⟨#[]⟩ : ByteArray), false))) else (some ((⟨#[]⟩ : ByteArray), false))) else (some ((⟨#[]⟩ : ByteArray), false))) else (some ((⟨#[]⟩ : ByteArray), false))) else (some ((⟨#[]⟩ : ByteArray), false))) else (some ((⟨#[]⟩ : ByteArray), false)))) = some (r1, r2) := H
  have A3 := Aside0.mk A30
  clear A30
  replace H := Option.bind_eq_some_iff.mp H
  obtain ⟨⟨t206, t207⟩, A40, H⟩ := H
  replace H : (if t203 = true then (if t205 = true then (if t207 = true then (if (a0_2.size : Int) = 4 then (if (a0_3.size : Int) = 4 then (if (a0_4.size : Int) = 4 then (if t202.size + t204.size ≤ 9223372036854775807 then (if (t202 ++ t204).size + a0_2.size ≤ 9223372036854775807 then (if ((t202 ++ t204) ++ a0_2).size + a0_3.size ≤ 9223372036854775807 then (if (((t202 ++ t204) ++ a0_2) ++ a0_3).size + a0_4.size ≤ 9223372036854775807 then (if ((((t202 ++ t204) ++ a0_2) ++ a0_3) ++ a0_4).size + t206.size ≤ 9223372036854775807 then (some (((((t202 ++ t204) ++ a0_2) ++ a0_3) ++ a0_4) ++ t206, true)) else (none)) else (none)) else (none)) else (none)) else (none)) else (some ((⟨#[]⟩ : ByteArray), false))) else (some ((⟨#[]⟩ : ByteArray), false))) else (some ((⟨#[]⟩ : ByteArray), false))) else (some ((⟨#[]⟩ : ByteArray), false))) else (some ((⟨#[]⟩ : ByteArray), false))) else (some ((⟨#[]⟩ : ByteArray), false))) = some (r1, r2) := H
  have A4 := Aside0.mk A40
  clear A40
  by_cases c5 : t203 = true
  · subst c5
    have H1 : (if t205 = true then (if t207 = true then (if (a0_2.size : Int) = 4 then (if (a0_3.size : Int) = 4 then (if (a0_4.size : Int) = 4 then (if t202.size + t204.size ≤ 9223372036854775807 then (if (t202 ++ t204).size + a0_2.size ≤ 9223372036854775807 then (if ((t202 ++ t204) ++ a0_2).size + a0_3.size ≤ 9223372036854775807 then (if (((t202 ++ t204) ++ a0_2) ++ a0_3).size + a0_4.size ≤ 9223372036854775807 then (if ((((t202 ++ t204) ++ a0_2) ++ a0_3) ++ a0_4).size + t206.size ≤ 9223372036854775807 then (some (((((t202 ++ t204) ++ a0_2) ++ a0_3) ++ a0_4) ++ t206, true)) else (none)) else (none)) else (none)) else (none)) else (none)) else (some ((⟨#[]⟩ : ByteArray), false))) else (some ((⟨#[]⟩ : ByteArray), false))) else (some ((⟨#[]⟩ : ByteArray), false))) else (some ((⟨#[]⟩ : ByteArray), false))) else (some ((⟨#[]⟩ : ByteArray), false))) = some (r1, r2) := by rw [if_pos rfl] at H; exact H
    clear H
    have H := H1
    clear H1
    by_cases c6 : t205 = true
    · subst c6
      have H1 : (if t207 = true then (if (a0_2.size : Int) = 4 then (if (a0_3.size : Int) = 4 then (if (a0_4.size : Int) = 4 then (if t202.size + t204.size ≤ 9223372036854775807 then (if (t202 ++ t204).size + a0_2.size ≤ 9223372036854775807 then (if ((t202 ++ t204) ++ a0_2).size + a0_3.size ≤ 9223372036854775807 then (if (((t202 ++ t204) ++ a0_2) ++ a0_3).size + a0_4.size ≤ 9223372036854775807 then (if ((((t202 ++ t204) ++ a0_2) ++ a0_3) ++ a0_4).size + t206.size ≤ 9223372036854775807 then (some (((((t202 ++ t204) ++ a0_2) ++ a0_3) ++ a0_4) ++ t206, true)) else (none)) else (none)) else (none)) else (none)) else (none)) else (some ((⟨#[]⟩ : ByteArray), false))) else (some ((⟨#[]⟩ : ByteArray), false))) else (some ((⟨#[]⟩ : ByteArray), false))) else (some ((⟨#[]⟩ : ByteArray), false))) = some (r1, r2) := by rw [if_pos rfl] at H; exact H
      clear H
      have H := H1
      clear H1
      by_cases c7 : t207 = true
      · subst c7
        have H1 : (if (a0_2.size : Int) = 4 then (if (a0_3.size : Int) = 4 then (if (a0_4.size : Int) = 4 then (if t202.size + t204.size ≤ 9223372036854775807 then (if (t202 ++ t204).size + a0_2.size ≤ 9223372036854775807 then (if ((t202 ++ t204) ++ a0_2).size + a0_3.size ≤ 9223372036854775807 then (if (((t202 ++ t204) ++ a0_2) ++ a0_3).size + a0_4.size ≤ 9223372036854775807 then (if ((((t202 ++ t204) ++ a0_2) ++ a0_3) ++ a0_4).size + t206.size ≤ 9223372036854775807 then (some (((((t202 ++ t204) ++ a0_2) ++ a0_3) ++ a0_4) ++ t206, true)) else (none)) else (none)) else (none)) else (none)) else (none)) else (some ((⟨#[]⟩ : ByteArray), false))) else (some ((⟨#[]⟩ : ByteArray), false))) else (some ((⟨#[]⟩ : ByteArray), false))) = some (r1, r2) := by rw [if_pos rfl] at H; exact H
        clear H
        have H := H1
        clear H1
        by_cases c8 : (a0_2.size : Int) = 4
        · rw [if_pos c8] at H
          have c8b0 : ((a0_2.size : Int) == 4) = true := beq_iff_eq.mpr c8
          have c8b1 : ((a0_2.size : Int) != 4) = false := bne_eq_false_iff_eq.mpr c8
          clear c8
          by_cases c9 : (a0_3.size : Int) = 4
          · rw [if_pos c9] at H
            have c9b0 : ((a0_3.size : Int) == 4) = true := beq_iff_eq.mpr c9
            have c9b1 : ((a0_3.size : Int) != 4) = false := bne_eq_false_iff_eq.mpr c9
            clear c9
            by_cases c10 : (a0_4.size : Int) = 4
            · rw [if_pos c10] at H
              have c10b0 : ((a0_4.size : Int) == 4) = true := beq_iff_eq.mpr c10
              have c10b1 : ((a0_4.size : Int) != 4) = false := bne_eq_false_iff_eq.mpr c10
              clear c10
              by_cases c11 : t202.size + t204.size ≤ 9223372036854775807
              · rw [if_pos c11] at H
                have c11b0 := eq_true c11
                have c11b1 : decide (t202.size + t204.size ≤ 9223372036854775807) = true := decide_eq_true c11
                try have c11b2 : (9223372036854775807 < t202.size + t204.size) = False := eq_false (Nat.not_lt.2 c11)
                by_cases c12 : (t202 ++ t204).size + a0_2.size ≤ 9223372036854775807
                · rw [if_pos c12] at H
                  have c12b0 := eq_true c12
                  have c12b1 : decide ((t202 ++ t204).size + a0_2.size ≤ 9223372036854775807) = true := decide_eq_true c12
                  try have c12b2 : (9223372036854775807 < (t202 ++ t204).size + a0_2.size) = False := eq_false (Nat.not_lt.2 c12)
                  by_cases c13 : ((t202 ++ t204) ++ a0_2).size + a0_3.size ≤ 9223372036854775807
                  · rw [if_pos c13] at H
                    have c13b0 := eq_true c13
                    have c13b1 : decide (((t202 ++ t204) ++ a0_2).size + a0_3.size ≤ 9223372036854775807) = true := decide_eq_true c13
                    try have c13b2 : (9223372036854775807 < ((t202 ++ t204) ++ a0_2).size + a0_3.size) = False := eq_false (Nat.not_lt.2 c13)
                    by_cases c14 : (((t202 ++ t204) ++ a0_2) ++ a0_3).size + a0_4.size ≤ 9223372036854775807
                    · rw [if_pos c14] at H
                      have c14b0 := eq_true c14
                      have c14b1 : decide ((((t202 ++ t204) ++ a0_2) ++ a0_3).size + a0_4.size ≤ 9223372036854775807) = true := decide_eq_true c14
                      try have c14b2 : (9223372036854775807 < (((t202 ++ t204) ++ a0_2) ++ a0_3).size + a0_4.size) = False := eq_false (Nat.not_lt.2 c14)
                      by_cases c15 : ((((t202 ++ t204) ++ a0_2) ++ a0_3) ++ a0_4).size + t206.size ≤ 9223372036854775807
                      · rw [if_pos c15] at H
                        have c15b0 := eq_true c15
                        have c15b1 : decide (((((t202 ++ t204) ++ a0_2) ++ a0_3) ++ a0_4).size + t206.size ≤ 9223372036854775807) = true := decide_eq_true c15
                        try have c15b2 : (9223372036854775807 < ((((t202 ++ t204) ++ a0_2) ++ a0_3) ++ a0_4).size + t206.size) = False := eq_false (Nat.not_lt.2 c15)
                        simp only [Option.some.injEq, Prod.mk.injEq] at H
                        obtain ⟨rfl, rfl⟩ := H
                        go_enter Try.func16, Try.ntmps16
                        go_wp2_with (first | ((with_reducible refine gate_dst (N := 1) rfl ?_); (try (refine gate_guard (by rfl) ?_; dsimp only)); refine box_event ?hg (N := 1) ?hd (cs := #[.int .i64 a0_0, .int .i64 a0_1, .string a0_2, .string a0_3, .string a0_4, .int .i64 a0_5]) (t := 23) ?hr ?_; (case hd => rfl); (case hg => rfl); (case hr => first | (go_simp; done) | (go_simp; rfl)); intro gb201 hg w16 hbox hb; have n0_ := Aside0.mk (below_step (bel) hb); have n1_ := Aside0.mk (hbox); have n2_ := Aside0.mk ((by rw [hg]; exact bsz : w.heap.size ≤ gb201)); have n3_ := Aside0.mk ((by rw [hg]; exact bsz : w.heap.size ≤ gb201)); clear HB; have HB := n0_; have BK201 := n1_; have GW201 := n2_; have GE201 := n3_; clear n0_ n1_ n2_ n3_; clear hb hbox hg; have hcz17_0 := cl0 BK201.out; have hfz17_0 := blk_frozen BK201.out 0) | ((with_reducible refine gate_callee (f := 44) rfl ?_); refine goesL_ (some 13) rfl rfl Try.func44 (by kernel_rfl) rfl #[.int .i64 a0_0, .int .i64 2] rfl gAr ?_; (with_reducible refine (roadbookref02_Put.calls k a0_0 2 t202 true _ A2.out).mono ?_); rintro e w18 ⟨rfl, hb⟩; refine ⟨_, rfl, ?_⟩; have n0_ := Aside0.mk (blk_below (blk_below BK201.out bll) hb); have n1_ := Aside0.mk (below_step (bel) hb); clear BK201; clear HB; have BK201 := n0_; have HB := n1_; clear n0_ n1_; (try clear hb); have hcz19_1 := cl1 BK201.out; have hfz19_1 := blk_frozen BK201.out 1) | ((with_reducible refine gate_callee (f := 44) rfl ?_); refine goesL_ (some 19) rfl rfl Try.func44 (by kernel_rfl) rfl #[.int .i64 a0_1, .int .i64 2] rfl gAr ?_; (with_reducible refine (roadbookref02_Put.calls k a0_1 2 t204 true _ A3.out).mono ?_); rintro e w20 ⟨rfl, hb⟩; refine ⟨_, rfl, ?_⟩; have n0_ := Aside0.mk (blk_below (blk_below BK201.out bll) hb); have n1_ := Aside0.mk (below_step (bel) hb); clear BK201; clear HB; have BK201 := n0_; have HB := n1_; clear n0_ n1_; (try clear hb); have hcz21_5 := cl5 BK201.out; have hfz21_5 := blk_frozen BK201.out 5) | ((with_reducible refine gate_callee (f := 44) rfl ?_); refine goesL_ (some 25) rfl rfl Try.func44 (by kernel_rfl) rfl #[.int .i64 a0_5, .int .i64 4] rfl gAr ?_; (with_reducible refine (roadbookref02_Put.calls k a0_5 4 t206 true _ A4.out).mono ?_); rintro e w22 ⟨rfl, hb⟩; refine ⟨_, rfl, ?_⟩; have n0_ := Aside0.mk (blk_below (blk_below BK201.out bll) hb); have n1_ := Aside0.mk (below_step (bel) hb); clear BK201; clear HB; have BK201 := n0_; have HB := n1_; clear n0_ n1_; (try clear hb); have hcz23_2 := cl2 BK201.out; have hfz23_2 := blk_frozen BK201.out 2; have hcz24_3 := cl3 BK201.out; have hfz24_3 := blk_frozen BK201.out 3; have hcz25_4 := cl4 BK201.out; have hfz25_4 := blk_frozen BK201.out 4))
                        go_ret2
                        exact ⟨rtE, bel⟩
                      · rw [if_neg c15] at H
                        exact absurd H (by simp)
                    · rw [if_neg c14] at H
                      exact absurd H (by simp)
                  · rw [if_neg c13] at H
                    exact absurd H (by simp)
                · rw [if_neg c12] at H
                  exact absurd H (by simp)
              · rw [if_neg c11] at H
                exact absurd H (by simp)
            · rw [if_neg c10] at H
              have c10b0 : ((a0_4.size : Int) == 4) = false := beq_eq_false_iff_ne.mpr c10
              have c10b1 : ((a0_4.size : Int) != 4) = true := bne_iff_ne.mpr c10
              simp only [Option.some.injEq, Prod.mk.injEq] at H
              obtain ⟨rfl, rfl⟩ := H
              go_enter Try.func16, Try.ntmps16
              go_wp2_with (first | ((with_reducible refine gate_dst (N := 1) rfl ?_); (try (refine gate_guard (by rfl) ?_; dsimp only)); refine box_event ?hg (N := 1) ?hd (cs := #[.int .i64 a0_0, .int .i64 a0_1, .string a0_2, .string a0_3, .string a0_4, .int .i64 a0_5]) (t := 23) ?hr ?_; (case hd => rfl); (case hg => rfl); (case hr => first | (go_simp; done) | (go_simp; rfl)); intro gb201 hg w26 hbox hb; have n0_ := Aside0.mk (below_step (bel) hb); have n1_ := Aside0.mk (hbox); have n2_ := Aside0.mk ((by rw [hg]; exact bsz : w.heap.size ≤ gb201)); have n3_ := Aside0.mk ((by rw [hg]; exact bsz : w.heap.size ≤ gb201)); clear HB; have HB := n0_; have BK201 := n1_; have GW201 := n2_; have GE201 := n3_; clear n0_ n1_ n2_ n3_; clear hb hbox hg; have hcz27_0 := cl0 BK201.out; have hfz27_0 := blk_frozen BK201.out 0) | ((with_reducible refine gate_callee (f := 44) rfl ?_); refine goesL_ (some 13) rfl rfl Try.func44 (by kernel_rfl) rfl #[.int .i64 a0_0, .int .i64 2] rfl gAr ?_; (with_reducible refine (roadbookref02_Put.calls k a0_0 2 t202 true _ A2.out).mono ?_); rintro e w28 ⟨rfl, hb⟩; refine ⟨_, rfl, ?_⟩; have n0_ := Aside0.mk (blk_below (blk_below BK201.out bll) hb); have n1_ := Aside0.mk (below_step (bel) hb); clear BK201; clear HB; have BK201 := n0_; have HB := n1_; clear n0_ n1_; (try clear hb); have hcz29_1 := cl1 BK201.out; have hfz29_1 := blk_frozen BK201.out 1) | ((with_reducible refine gate_callee (f := 44) rfl ?_); refine goesL_ (some 19) rfl rfl Try.func44 (by kernel_rfl) rfl #[.int .i64 a0_1, .int .i64 2] rfl gAr ?_; (with_reducible refine (roadbookref02_Put.calls k a0_1 2 t204 true _ A3.out).mono ?_); rintro e w30 ⟨rfl, hb⟩; refine ⟨_, rfl, ?_⟩; have n0_ := Aside0.mk (blk_below (blk_below BK201.out bll) hb); have n1_ := Aside0.mk (below_step (bel) hb); clear BK201; clear HB; have BK201 := n0_; have HB := n1_; clear n0_ n1_; (try clear hb); have hcz31_5 := cl5 BK201.out; have hfz31_5 := blk_frozen BK201.out 5) | ((with_reducible refine gate_callee (f := 44) rfl ?_); refine goesL_ (some 25) rfl rfl Try.func44 (by kernel_rfl) rfl #[.int .i64 a0_5, .int .i64 4] rfl gAr ?_; (with_reducible refine (roadbookref02_Put.calls k a0_5 4 t206 true _ A4.out).mono ?_); rintro e w32 ⟨rfl, hb⟩; refine ⟨_, rfl, ?_⟩; have n0_ := Aside0.mk (blk_below (blk_below BK201.out bll) hb); have n1_ := Aside0.mk (below_step (bel) hb); clear BK201; clear HB; have BK201 := n0_; have HB := n1_; clear n0_ n1_; (try clear hb); have hcz33_2 := cl2 BK201.out; have hfz33_2 := blk_frozen BK201.out 2; have hcz34_3 := cl3 BK201.out; have hfz34_3 := blk_frozen BK201.out 3; have hcz35_4 := cl4 BK201.out; have hfz35_4 := blk_frozen BK201.out 4))
              go_ret2
              exact ⟨rtE, bel⟩
          · rw [if_neg c9] at H
            have c9b0 : ((a0_3.size : Int) == 4) = false := beq_eq_false_iff_ne.mpr c9
            have c9b1 : ((a0_3.size : Int) != 4) = true := bne_iff_ne.mpr c9
            simp only [Option.some.injEq, Prod.mk.injEq] at H
            obtain ⟨rfl, rfl⟩ := H
            go_enter Try.func16, Try.ntmps16
            go_wp2_with (first | ((with_reducible refine gate_dst (N := 1) rfl ?_); (try (refine gate_guard (by rfl) ?_; dsimp only)); refine box_event ?hg (N := 1) ?hd (cs := #[.int .i64 a0_0, .int .i64 a0_1, .string a0_2, .string a0_3, .string a0_4, .int .i64 a0_5]) (t := 23) ?hr ?_; (case hd => rfl); (case hg => rfl); (case hr => first | (go_simp; done) | (go_simp; rfl)); intro gb201 hg w36 hbox hb; have n0_ := Aside0.mk (below_step (bel) hb); have n1_ := Aside0.mk (hbox); have n2_ := Aside0.mk ((by rw [hg]; exact bsz : w.heap.size ≤ gb201)); have n3_ := Aside0.mk ((by rw [hg]; exact bsz : w.heap.size ≤ gb201)); clear HB; have HB := n0_; have BK201 := n1_; have GW201 := n2_; have GE201 := n3_; clear n0_ n1_ n2_ n3_; clear hb hbox hg; have hcz37_0 := cl0 BK201.out; have hfz37_0 := blk_frozen BK201.out 0) | ((with_reducible refine gate_callee (f := 44) rfl ?_); refine goesL_ (some 13) rfl rfl Try.func44 (by kernel_rfl) rfl #[.int .i64 a0_0, .int .i64 2] rfl gAr ?_; (with_reducible refine (roadbookref02_Put.calls k a0_0 2 t202 true _ A2.out).mono ?_); rintro e w38 ⟨rfl, hb⟩; refine ⟨_, rfl, ?_⟩; have n0_ := Aside0.mk (blk_below (blk_below BK201.out bll) hb); have n1_ := Aside0.mk (below_step (bel) hb); clear BK201; clear HB; have BK201 := n0_; have HB := n1_; clear n0_ n1_; (try clear hb); have hcz39_1 := cl1 BK201.out; have hfz39_1 := blk_frozen BK201.out 1) | ((with_reducible refine gate_callee (f := 44) rfl ?_); refine goesL_ (some 19) rfl rfl Try.func44 (by kernel_rfl) rfl #[.int .i64 a0_1, .int .i64 2] rfl gAr ?_; (with_reducible refine (roadbookref02_Put.calls k a0_1 2 t204 true _ A3.out).mono ?_); rintro e w40 ⟨rfl, hb⟩; refine ⟨_, rfl, ?_⟩; have n0_ := Aside0.mk (blk_below (blk_below BK201.out bll) hb); have n1_ := Aside0.mk (below_step (bel) hb); clear BK201; clear HB; have BK201 := n0_; have HB := n1_; clear n0_ n1_; (try clear hb); have hcz41_5 := cl5 BK201.out; have hfz41_5 := blk_frozen BK201.out 5) | ((with_reducible refine gate_callee (f := 44) rfl ?_); refine goesL_ (some 25) rfl rfl Try.func44 (by kernel_rfl) rfl #[.int .i64 a0_5, .int .i64 4] rfl gAr ?_; (with_reducible refine (roadbookref02_Put.calls k a0_5 4 t206 true _ A4.out).mono ?_); rintro e w42 ⟨rfl, hb⟩; refine ⟨_, rfl, ?_⟩; have n0_ := Aside0.mk (blk_below (blk_below BK201.out bll) hb); have n1_ := Aside0.mk (below_step (bel) hb); clear BK201; clear HB; have BK201 := n0_; have HB := n1_; clear n0_ n1_; (try clear hb); have hcz43_2 := cl2 BK201.out; have hfz43_2 := blk_frozen BK201.out 2; have hcz44_3 := cl3 BK201.out; have hfz44_3 := blk_frozen BK201.out 3))
            go_ret2
            exact ⟨rtE, bel⟩
        · rw [if_neg c8] at H
          have c8b0 : ((a0_2.size : Int) == 4) = false := beq_eq_false_iff_ne.mpr c8
          have c8b1 : ((a0_2.size : Int) != 4) = true := bne_iff_ne.mpr c8
          simp only [Option.some.injEq, Prod.mk.injEq] at H
          obtain ⟨rfl, rfl⟩ := H
          go_enter Try.func16, Try.ntmps16
          go_wp2_with (first | ((with_reducible refine gate_dst (N := 1) rfl ?_); (try (refine gate_guard (by rfl) ?_; dsimp only)); refine box_event ?hg (N := 1) ?hd (cs := #[.int .i64 a0_0, .int .i64 a0_1, .string a0_2, .string a0_3, .string a0_4, .int .i64 a0_5]) (t := 23) ?hr ?_; (case hd => rfl); (case hg => rfl); (case hr => first | (go_simp; done) | (go_simp; rfl)); intro gb201 hg w45 hbox hb; have n0_ := Aside0.mk (below_step (bel) hb); have n1_ := Aside0.mk (hbox); have n2_ := Aside0.mk ((by rw [hg]; exact bsz : w.heap.size ≤ gb201)); have n3_ := Aside0.mk ((by rw [hg]; exact bsz : w.heap.size ≤ gb201)); clear HB; have HB := n0_; have BK201 := n1_; have GW201 := n2_; have GE201 := n3_; clear n0_ n1_ n2_ n3_; clear hb hbox hg; have hcz46_0 := cl0 BK201.out; have hfz46_0 := blk_frozen BK201.out 0) | ((with_reducible refine gate_callee (f := 44) rfl ?_); refine goesL_ (some 13) rfl rfl Try.func44 (by kernel_rfl) rfl #[.int .i64 a0_0, .int .i64 2] rfl gAr ?_; (with_reducible refine (roadbookref02_Put.calls k a0_0 2 t202 true _ A2.out).mono ?_); rintro e w47 ⟨rfl, hb⟩; refine ⟨_, rfl, ?_⟩; have n0_ := Aside0.mk (blk_below (blk_below BK201.out bll) hb); have n1_ := Aside0.mk (below_step (bel) hb); clear BK201; clear HB; have BK201 := n0_; have HB := n1_; clear n0_ n1_; (try clear hb); have hcz48_1 := cl1 BK201.out; have hfz48_1 := blk_frozen BK201.out 1) | ((with_reducible refine gate_callee (f := 44) rfl ?_); refine goesL_ (some 19) rfl rfl Try.func44 (by kernel_rfl) rfl #[.int .i64 a0_1, .int .i64 2] rfl gAr ?_; (with_reducible refine (roadbookref02_Put.calls k a0_1 2 t204 true _ A3.out).mono ?_); rintro e w49 ⟨rfl, hb⟩; refine ⟨_, rfl, ?_⟩; have n0_ := Aside0.mk (blk_below (blk_below BK201.out bll) hb); have n1_ := Aside0.mk (below_step (bel) hb); clear BK201; clear HB; have BK201 := n0_; have HB := n1_; clear n0_ n1_; (try clear hb); have hcz50_5 := cl5 BK201.out; have hfz50_5 := blk_frozen BK201.out 5) | ((with_reducible refine gate_callee (f := 44) rfl ?_); refine goesL_ (some 25) rfl rfl Try.func44 (by kernel_rfl) rfl #[.int .i64 a0_5, .int .i64 4] rfl gAr ?_; (with_reducible refine (roadbookref02_Put.calls k a0_5 4 t206 true _ A4.out).mono ?_); rintro e w51 ⟨rfl, hb⟩; refine ⟨_, rfl, ?_⟩; have n0_ := Aside0.mk (blk_below (blk_below BK201.out bll) hb); have n1_ := Aside0.mk (below_step (bel) hb); clear BK201; clear HB; have BK201 := n0_; have HB := n1_; clear n0_ n1_; (try clear hb); have hcz52_2 := cl2 BK201.out; have hfz52_2 := blk_frozen BK201.out 2))
          go_ret2
          exact ⟨rtE, bel⟩
      · replace c7 := Bool.eq_false_iff.mpr c7
        subst c7
        have H1 : (some ((⟨#[]⟩ : ByteArray), false)) = some (r1, r2) := by rw [if_neg (show ¬ (false = true) by decide)] at H; exact H
        clear H
        have H := H1
        clear H1
        simp only [Option.some.injEq, Prod.mk.injEq] at H
        obtain ⟨rfl, rfl⟩ := H
        go_enter Try.func16, Try.ntmps16
        go_wp2_with (first | ((with_reducible refine gate_dst (N := 1) rfl ?_); (try (refine gate_guard (by rfl) ?_; dsimp only)); refine box_event ?hg (N := 1) ?hd (cs := #[.int .i64 a0_0, .int .i64 a0_1, .string a0_2, .string a0_3, .string a0_4, .int .i64 a0_5]) (t := 23) ?hr ?_; (case hd => rfl); (case hg => rfl); (case hr => first | (go_simp; done) | (go_simp; rfl)); intro gb201 hg w53 hbox hb; have n0_ := Aside0.mk (below_step (bel) hb); have n1_ := Aside0.mk (hbox); have n2_ := Aside0.mk ((by rw [hg]; exact bsz : w.heap.size ≤ gb201)); have n3_ := Aside0.mk ((by rw [hg]; exact bsz : w.heap.size ≤ gb201)); clear HB; have HB := n0_; have BK201 := n1_; have GW201 := n2_; have GE201 := n3_; clear n0_ n1_ n2_ n3_; clear hb hbox hg; have hcz54_0 := cl0 BK201.out; have hfz54_0 := blk_frozen BK201.out 0) | ((with_reducible refine gate_callee (f := 44) rfl ?_); refine goesL_ (some 13) rfl rfl Try.func44 (by kernel_rfl) rfl #[.int .i64 a0_0, .int .i64 2] rfl gAr ?_; (with_reducible refine (roadbookref02_Put.calls k a0_0 2 t202 true _ A2.out).mono ?_); rintro e w55 ⟨rfl, hb⟩; refine ⟨_, rfl, ?_⟩; have n0_ := Aside0.mk (blk_below (blk_below BK201.out bll) hb); have n1_ := Aside0.mk (below_step (bel) hb); clear BK201; clear HB; have BK201 := n0_; have HB := n1_; clear n0_ n1_; (try clear hb); have hcz56_1 := cl1 BK201.out; have hfz56_1 := blk_frozen BK201.out 1) | ((with_reducible refine gate_callee (f := 44) rfl ?_); refine goesL_ (some 19) rfl rfl Try.func44 (by kernel_rfl) rfl #[.int .i64 a0_1, .int .i64 2] rfl gAr ?_; (with_reducible refine (roadbookref02_Put.calls k a0_1 2 t204 true _ A3.out).mono ?_); rintro e w57 ⟨rfl, hb⟩; refine ⟨_, rfl, ?_⟩; have n0_ := Aside0.mk (blk_below (blk_below BK201.out bll) hb); have n1_ := Aside0.mk (below_step (bel) hb); clear BK201; clear HB; have BK201 := n0_; have HB := n1_; clear n0_ n1_; (try clear hb); have hcz58_5 := cl5 BK201.out; have hfz58_5 := blk_frozen BK201.out 5) | ((with_reducible refine gate_callee (f := 44) rfl ?_); refine goesL_ (some 25) rfl rfl Try.func44 (by kernel_rfl) rfl #[.int .i64 a0_5, .int .i64 4] rfl gAr ?_; (with_reducible refine (roadbookref02_Put.calls k a0_5 4 t206 false _ A4.out).mono ?_); rintro e w59 ⟨rfl, hb⟩; refine ⟨_, rfl, ?_⟩; have n0_ := Aside0.mk (blk_below (blk_below BK201.out bll) hb); have n1_ := Aside0.mk (below_step (bel) hb); clear BK201; clear HB; have BK201 := n0_; have HB := n1_; clear n0_ n1_; (try clear hb)))
        go_ret2
        exact ⟨rtE, bel⟩
    · replace c6 := Bool.eq_false_iff.mpr c6
      subst c6
      have H1 : (some ((⟨#[]⟩ : ByteArray), false)) = some (r1, r2) := by rw [if_neg (show ¬ (false = true) by decide)] at H; exact H
      clear H
      have H := H1
      clear H1
      simp only [Option.some.injEq, Prod.mk.injEq] at H
      obtain ⟨rfl, rfl⟩ := H
      go_enter Try.func16, Try.ntmps16
      go_wp2_with (first | ((with_reducible refine gate_dst (N := 1) rfl ?_); (try (refine gate_guard (by rfl) ?_; dsimp only)); refine box_event ?hg (N := 1) ?hd (cs := #[.int .i64 a0_0, .int .i64 a0_1, .string a0_2, .string a0_3, .string a0_4, .int .i64 a0_5]) (t := 23) ?hr ?_; (case hd => rfl); (case hg => rfl); (case hr => first | (go_simp; done) | (go_simp; rfl)); intro gb201 hg w60 hbox hb; have n0_ := Aside0.mk (below_step (bel) hb); have n1_ := Aside0.mk (hbox); have n2_ := Aside0.mk ((by rw [hg]; exact bsz : w.heap.size ≤ gb201)); have n3_ := Aside0.mk ((by rw [hg]; exact bsz : w.heap.size ≤ gb201)); clear HB; have HB := n0_; have BK201 := n1_; have GW201 := n2_; have GE201 := n3_; clear n0_ n1_ n2_ n3_; clear hb hbox hg; have hcz61_0 := cl0 BK201.out; have hfz61_0 := blk_frozen BK201.out 0) | ((with_reducible refine gate_callee (f := 44) rfl ?_); refine goesL_ (some 13) rfl rfl Try.func44 (by kernel_rfl) rfl #[.int .i64 a0_0, .int .i64 2] rfl gAr ?_; (with_reducible refine (roadbookref02_Put.calls k a0_0 2 t202 true _ A2.out).mono ?_); rintro e w62 ⟨rfl, hb⟩; refine ⟨_, rfl, ?_⟩; have n0_ := Aside0.mk (blk_below (blk_below BK201.out bll) hb); have n1_ := Aside0.mk (below_step (bel) hb); clear BK201; clear HB; have BK201 := n0_; have HB := n1_; clear n0_ n1_; (try clear hb); have hcz63_1 := cl1 BK201.out; have hfz63_1 := blk_frozen BK201.out 1) | ((with_reducible refine gate_callee (f := 44) rfl ?_); refine goesL_ (some 19) rfl rfl Try.func44 (by kernel_rfl) rfl #[.int .i64 a0_1, .int .i64 2] rfl gAr ?_; (with_reducible refine (roadbookref02_Put.calls k a0_1 2 t204 false _ A3.out).mono ?_); rintro e w64 ⟨rfl, hb⟩; refine ⟨_, rfl, ?_⟩; have n0_ := Aside0.mk (blk_below (blk_below BK201.out bll) hb); have n1_ := Aside0.mk (below_step (bel) hb); clear BK201; clear HB; have BK201 := n0_; have HB := n1_; clear n0_ n1_; (try clear hb); have hcz65_5 := cl5 BK201.out; have hfz65_5 := blk_frozen BK201.out 5) | ((with_reducible refine gate_callee (f := 44) rfl ?_); refine goesL_ (some 25) rfl rfl Try.func44 (by kernel_rfl) rfl #[.int .i64 a0_5, .int .i64 4] rfl gAr ?_; (with_reducible refine (roadbookref02_Put.calls k a0_5 4 t206 t207 _ A4.out).mono ?_); rintro e w66 ⟨rfl, hb⟩; refine ⟨_, rfl, ?_⟩; have n0_ := Aside0.mk (blk_below (blk_below BK201.out bll) hb); have n1_ := Aside0.mk (below_step (bel) hb); clear BK201; clear HB; have BK201 := n0_; have HB := n1_; clear n0_ n1_; (try clear hb)))
      go_ret2
      exact ⟨rtE, bel⟩
  · replace c5 := Bool.eq_false_iff.mpr c5
    subst c5
    have H1 : (some ((⟨#[]⟩ : ByteArray), false)) = some (r1, r2) := by rw [if_neg (show ¬ (false = true) by decide)] at H; exact H
    clear H
    have H := H1
    clear H1
    simp only [Option.some.injEq, Prod.mk.injEq] at H
    obtain ⟨rfl, rfl⟩ := H
    go_enter Try.func16, Try.ntmps16
    go_wp2_with (first | ((with_reducible refine gate_dst (N := 1) rfl ?_); (try (refine gate_guard (by rfl) ?_; dsimp only)); refine box_event ?hg (N := 1) ?hd (cs := #[.int .i64 a0_0, .int .i64 a0_1, .string a0_2, .string a0_3, .string a0_4, .int .i64 a0_5]) (t := 23) ?hr ?_; (case hd => rfl); (case hg => rfl); (case hr => first | (go_simp; done) | (go_simp; rfl)); intro gb201 hg w67 hbox hb; have n0_ := Aside0.mk (below_step (bel) hb); have n1_ := Aside0.mk (hbox); have n2_ := Aside0.mk ((by rw [hg]; exact bsz : w.heap.size ≤ gb201)); have n3_ := Aside0.mk ((by rw [hg]; exact bsz : w.heap.size ≤ gb201)); clear HB; have HB := n0_; have BK201 := n1_; have GW201 := n2_; have GE201 := n3_; clear n0_ n1_ n2_ n3_; clear hb hbox hg; have hcz68_0 := cl0 BK201.out; have hfz68_0 := blk_frozen BK201.out 0) | ((with_reducible refine gate_callee (f := 44) rfl ?_); refine goesL_ (some 13) rfl rfl Try.func44 (by kernel_rfl) rfl #[.int .i64 a0_0, .int .i64 2] rfl gAr ?_; (with_reducible refine (roadbookref02_Put.calls k a0_0 2 t202 false _ A2.out).mono ?_); rintro e w69 ⟨rfl, hb⟩; refine ⟨_, rfl, ?_⟩; have n0_ := Aside0.mk (blk_below (blk_below BK201.out bll) hb); have n1_ := Aside0.mk (below_step (bel) hb); clear BK201; clear HB; have BK201 := n0_; have HB := n1_; clear n0_ n1_; (try clear hb); have hcz70_1 := cl1 BK201.out; have hfz70_1 := blk_frozen BK201.out 1) | ((with_reducible refine gate_callee (f := 44) rfl ?_); refine goesL_ (some 19) rfl rfl Try.func44 (by kernel_rfl) rfl #[.int .i64 a0_1, .int .i64 2] rfl gAr ?_; (with_reducible refine (roadbookref02_Put.calls k a0_1 2 t204 t205 _ A3.out).mono ?_); rintro e w71 ⟨rfl, hb⟩; refine ⟨_, rfl, ?_⟩; have n0_ := Aside0.mk (blk_below (blk_below BK201.out bll) hb); have n1_ := Aside0.mk (below_step (bel) hb); clear BK201; clear HB; have BK201 := n0_; have HB := n1_; clear n0_ n1_; (try clear hb); have hcz72_5 := cl5 BK201.out; have hfz72_5 := blk_frozen BK201.out 5) | ((with_reducible refine gate_callee (f := 44) rfl ?_); refine goesL_ (some 25) rfl rfl Try.func44 (by kernel_rfl) rfl #[.int .i64 a0_5, .int .i64 4] rfl gAr ?_; (with_reducible refine (roadbookref02_Put.calls k a0_5 4 t206 t207 _ A4.out).mono ?_); rintro e w73 ⟨rfl, hb⟩; refine ⟨_, rfl, ?_⟩; have n0_ := Aside0.mk (blk_below (blk_below BK201.out bll) hb); have n1_ := Aside0.mk (below_step (bel) hb); clear BK201; clear HB; have BK201 := n0_; have HB := n1_; clear n0_ n1_; (try clear hb)))
    go_ret2
    exact ⟨rtE, bel⟩

/-! ### roadbooklaw08_EntryTells: function 3 -/
def roadbooklaw08_EntryTells.j0 : Nat → ByteArray → Bool → Int → Int → ByteArray → ByteArray → ByteArray → Int → Option (Bool)
  | 0, _, _, _, _, _, _, _, _ => none
  | k + 1, x0, x31, x209000, x209001, x209002, x209003, x209004, x209005 => if x31 = true then ((roadbooklaw08_awake.f k).bind fun t209 => (some t209)) else ((entry_Get.f k x0).bind fun bt210 => ((roadbookref08_Get.f k x0).bind fun bt218 => ((entry_Put.f k x209000 x209001 x209002 x209003 x209004 x209005).bind fun bt226 => ((roadbookref08_Put.f k x209000 x209001 x209002 x209003 x209004 x209005).bind fun bt228 => ((roadbooklaw08_awake.f k).bind fun t230 => (if t230 = true then (if (bt210.1 == bt218.1 && (bt210.2.1 == bt218.2.1 && (bt210.2.2.1.toList == bt218.2.2.1.toList && (bt210.2.2.2.1.toList == bt218.2.2.2.1.toList && (bt210.2.2.2.2.1.toList == bt218.2.2.2.2.1.toList && (bt210.2.2.2.2.2.1 == bt218.2.2.2.2.2.1)))))) = true then (if (bt210.2.2.2.2.2.2 == bt218.2.2.2.2.2.2) = true then (if bt226.1.toList = bt228.1.toList then (some (bt226.2 == bt228.2)) else (some false)) else (some false)) else (some false)) else (some false)))))))
def roadbooklaw08_EntryTells.f (k : Nat) (a0 : ByteArray) (a1_0 : Int) (a1_1 : Int) (a1_2 : ByteArray) (a1_3 : ByteArray) (a1_4 : ByteArray) (a1_5 : Int) : Option (Bool) := if (a0.size : Int) > 100 then (roadbooklaw08_EntryTells.j0 k a0 true a1_0 a1_1 a1_2 a1_3 a1_4 a1_5) else (if (wrap64 ((a1_2.size : Int) + (a1_3.size : Int))) > 100 then (roadbooklaw08_EntryTells.j0 k a0 true a1_0 a1_1 a1_2 a1_3 a1_4 a1_5) else (roadbooklaw08_EntryTells.j0 k a0 (decide ((a1_4.size : Int) > 100)) a1_0 a1_1 a1_2 a1_3 a1_4 a1_5))
theorem roadbooklaw08_EntryTells.mono_l : ∀ k, (∀ y0 y1 y2 y3 y4 y5 y6 y7, LeO (roadbooklaw08_EntryTells.j0 k y0 y1 y2 y3 y4 y5 y6 y7) (roadbooklaw08_EntryTells.j0 (k + 1) y0 y1 y2 y3 y4 y5 y6 y7))
  | 0 => fun _ _ _ _ _ _ _ _ r h => by simp [roadbooklaw08_EntryTells.j0] at h
  | k + 1 => by
    have ih0 := roadbooklaw08_EntryTells.mono_l k
    · intro y0 y1 y2 y3 y4 y5 y6 y7
      unfold roadbooklaw08_EntryTells.j0
      repeat' first
      | (with_reducible exact ih0 _ _ _ _ _ _ _ _)
      | (with_reducible exact entry_Get.mono _ _)
      | (with_reducible exact entry_Put.mono _ _ _ _ _ _ _)
      | (with_reducible exact roadbooklaw08_awake.mono _)
      | (with_reducible exact roadbookref08_Get.mono _ _)
      | (with_reducible exact roadbookref08_Put.mono _ _ _ _ _ _ _)
      | (with_reducible exact LeO.refl _)
      | (with_reducible exact LeO.none _)
      | (with_reducible refine LeO.ite ?_ ?_)
      | (with_reducible refine LeO.bind ?_ (fun _ => ?_))
      | exact ih0 _ _ _ _ _ _ _ _
      | exact entry_Get.mono _ _
      | exact entry_Put.mono _ _ _ _ _ _ _
      | exact roadbooklaw08_awake.mono _
      | exact roadbookref08_Get.mono _ _
      | exact roadbookref08_Put.mono _ _ _ _ _ _ _
      | exact LeO.none _
      | refine LeO.ite ?_ ?_
      | refine LeO.bind ?_ (fun _ => ?_)
theorem roadbooklaw08_EntryTells.mono : ∀ a0 a1 a2 a3 a4 a5 a6 k, LeO (roadbooklaw08_EntryTells.f k a0 a1 a2 a3 a4 a5 a6) (roadbooklaw08_EntryTells.f (k + 1) a0 a1 a2 a3 a4 a5 a6) := by
  intro a0 a1 a2 a3 a4 a5 a6 k
  have ih0 := roadbooklaw08_EntryTells.mono_l k
  unfold roadbooklaw08_EntryTells.f
  repeat' first
      | (with_reducible exact ih0 _ _ _ _ _ _ _ _)
      | (with_reducible exact entry_Get.mono _ _)
      | (with_reducible exact entry_Put.mono _ _ _ _ _ _ _)
      | (with_reducible exact roadbooklaw08_awake.mono _)
      | (with_reducible exact roadbookref08_Get.mono _ _)
      | (with_reducible exact roadbookref08_Put.mono _ _ _ _ _ _ _)
      | (with_reducible exact LeO.refl _)
      | (with_reducible exact LeO.none _)
      | (with_reducible refine LeO.ite ?_ ?_)
      | (with_reducible refine LeO.bind ?_ (fun _ => ?_))
      | exact ih0 _ _ _ _ _ _ _ _
      | exact entry_Get.mono _ _
      | exact entry_Put.mono _ _ _ _ _ _ _
      | exact roadbooklaw08_awake.mono _
      | exact roadbookref08_Get.mono _ _
      | exact roadbookref08_Put.mono _ _ _ _ _ _ _
      | exact LeO.none _
      | refine LeO.ite ?_ ?_
      | refine LeO.bind ?_ (fun _ => ?_)
set_option maxHeartbeats 8000000 in
set_option maxRecDepth 100000 in
theorem roadbooklaw08_EntryTells.calls (k : Nat) (a0 : ByteArray) (a1_0 : Int) (a1_1 : Int) (a1_2 : ByteArray) (a1_3 : ByteArray) (a1_4 : ByteArray) (a1_5 : Int) (r : Bool) (w : World) (h : roadbooklaw08_EntryTells.f k a0 a1_0 a1_1 a1_2 a1_3 a1_4 a1_5 = some r) :
    Calls Try.prog 3 #[.string a0, .agg #[.int .i64 a1_0, .int .i64 a1_1, .string a1_2, .string a1_3, .string a1_4, .int .i64 a1_5]] w fun e w' => e = .returned (.bool r) ∧ Below w.heap.size w w' := by
  have hu23 := Try.underlying23
  have HB := Aside0.mk (Below.refl w.heap.size w)
  have H : (if (a0.size : Int) > 100 then (roadbooklaw08_EntryTells.j0 k a0 true a1_0 a1_1 a1_2 a1_3 a1_4 a1_5) else (if (wrap64 ((a1_2.size : Int) + (a1_3.size : Int))) > 100 then (roadbooklaw08_EntryTells.j0 k a0 true a1_0 a1_1 a1_2 a1_3 a1_4 a1_5) else (roadbooklaw08_EntryTells.j0 k a0 (decide ((a1_4.size : Int) > 100)) a1_0 a1_1 a1_2 a1_3 a1_4 a1_5))) = some r := h
  clear h
  have HC3 := Aside0.mk H
  clear H
  go_enter Try.func3, Try.ntmps3
  go_upto_region 1 with (first | ((with_reducible refine gate_dst (N := 3) rfl ?_); (try (refine gate_guard (by rfl) ?_; dsimp only)); refine box_event ?hg (N := 3) ?hd (cs := #[.int .i64 a1_0, .int .i64 a1_1, .string a1_2, .string a1_3, .string a1_4, .int .i64 a1_5]) (t := 23) ?hr ?_; (case hd => rfl); (case hg => rfl); (case hr => first | (go_simp; done) | (go_simp; rfl)); intro gb208 hg w4 hbox hb; have n0_ := Aside0.mk (below_step (bel) hb); have n1_ := Aside0.mk (hbox); have n2_ := Aside0.mk ((by rw [hg]; exact bsz : w.heap.size ≤ gb208)); have n3_ := Aside0.mk ((by rw [hg]; exact bsz : w.heap.size ≤ gb208)); clear HB; have HB := n0_; have BK208 := n1_; have GW208 := n2_; have GE208 := n3_; clear n0_ n1_ n2_ n3_; clear hb hbox hg))
  (try simp only [Act.put, List.setIfInBounds_toArray, List.set_cons_zero, List.set_cons_succ])
  go_cut [31] (fun v31 wc => ∃ (kq : Nat) (x31_2 : Bool), v31 = .bool x31_2 ∧ Aside0 (roadbooklaw08_EntryTells.j0 kq a0 x31_2 a1_0 a1_1 a1_2 a1_3 a1_4 a1_5 = some r) ∧ Aside0 (kq ≤ k) ∧ Aside0 (wc.heap[gb208]? = some (.cells #[.int .i64 a1_0, .int .i64 a1_1, .string a1_2, .string a1_3, .string a1_4, .int .i64 a1_5] 23 (0, 0))) ∧ Aside0 (Below w.heap.size w wc))
  case first =>
    have H := HC3.out
    clear HC3
    by_cases c5 : (a0.size : Int) > 100
    · rw [if_pos c5] at H
      have c5b0 : decide (100 < (a0.size : Int)) = true := decide_eq_true c5
      have c5b1 : decide (100 < a0.size) = true := decide_eq_true (by omega)
      clear c5
      (first | rw [c5b0] | (simp only [i64_w, i32_w]; rw [c5b0]) | skip)
      have H' := Aside0.mk H
      clear H
      go_wp2
      go_meet
      case rel => exact ⟨_, (true), rfS, H', ⟨by first | omega | exact Nat.le_refl _⟩, ⟨blk_below BK208.out bll⟩, ⟨bel⟩⟩
    · rw [if_neg c5] at H
      have c5b0 : decide (100 < (a0.size : Int)) = false := decide_eq_false c5
      have c5b1 : decide (100 < a0.size) = false := decide_eq_false (by omega)
      clear c5
      (first | rw [c5b0] | (simp only [i64_w, i32_w]; rw [c5b0]) | skip)
      by_cases c6 : (wrap64 ((a1_2.size : Int) + (a1_3.size : Int))) > 100
      · rw [if_pos c6] at H
        have c6b0 : decide (100 < (wrap64 ((a1_2.size : Int) + (a1_3.size : Int)))) = true := decide_eq_true c6
        clear c6
        have H' := Aside0.mk H
        clear H
        have hcz7_2 := cl2 BK208.out
        have hfz7_2 := blk_frozen BK208.out 2
        have hcz8_3 := cl3 BK208.out
        have hfz8_3 := blk_frozen BK208.out 3
        go_wp2
        go_meet
        case rel => exact ⟨_, (true), rfS, H', ⟨by first | omega | exact Nat.le_refl _⟩, ⟨blk_below BK208.out bll⟩, ⟨bel⟩⟩
      · rw [if_neg c6] at H
        have c6b0 : decide (100 < (wrap64 ((a1_2.size : Int) + (a1_3.size : Int)))) = false := decide_eq_false c6
        clear c6
        have H' := Aside0.mk H
        clear H
        have hcz9_2 := cl2 BK208.out
        have hfz9_2 := blk_frozen BK208.out 2
        have hcz10_3 := cl3 BK208.out
        have hfz10_3 := blk_frozen BK208.out 3
        have hcz11_4 := cl4 BK208.out
        have hfz11_4 := blk_frozen BK208.out 4
        go_wp2
        go_meet
        case rel => exact ⟨_, (decide ((a1_4.size : Int) > 100)), rfS, H', ⟨by first | omega | exact Nat.le_refl _⟩, ⟨blk_below BK208.out bll⟩, ⟨bel⟩⟩
  case rest =>
    clear HC3
    try clear p2
    try clear c3
    try clear c5
    try clear c5b0
    try clear c5b1
    try clear c6
    try clear c6b0
    try clear p6
    try clear hcz10_3
    try clear hcz11_4
    try clear hcz7_2
    try clear hcz8_3
    try clear hcz9_2
    try clear hfz10_3
    try clear hfz11_4
    try clear hfz7_2
    try clear hfz8_3
    try clear hfz9_2
    obtain ⟨kq, x31_2, rfl, HA, HJ2, BK208, HB⟩ := hcut
    cases kq with
    | zero => exact absurd HA.out (by simp [roadbooklaw08_EntryTells.j0])
    | succ kj2 =>
      have H := HA.out
      clear HA
      simp only [roadbooklaw08_EntryTells.j0] at H
      by_cases c12 : x31_2 = true
      · subst c12
        have H1 : ((roadbooklaw08_awake.f kj2).bind fun t209 => (some t209)) = some r := by rw [if_pos rfl] at H; exact H
        clear H
        have H := H1
        clear H1
        replace H := Option.bind_eq_some_iff.mp H
        obtain ⟨t209, A130, H⟩ := H
        replace H : (some t209) = some r := H
        have A13 := Aside0.mk A130
        clear A130
        obtain rfl := Option.some.inj H
        go_wp2_with (first | ((with_reducible refine gate_callee (f := 12) rfl ?_); refine goesL_ (some 32) rfl rfl Try.func12 (by kernel_rfl) rfl #[] rfl gAr ?_; (with_reducible refine (roadbooklaw08_awake.calls kj2  t209 _ A13.out).mono ?_); rintro e w14 ⟨rfl, hb⟩; refine ⟨_, rfl, ?_⟩; have n0_ := Aside0.mk (blk_below (blk_below BK208.out bll) hb); have n1_ := Aside0.mk (below_step (bel) hb); clear BK208; clear HB; have BK208 := n0_; have HB := n1_; clear n0_ n1_; (try clear hb)))
        go_ret
        exact ⟨rtE, bel⟩
      · replace c12 := Bool.eq_false_iff.mpr c12
        subst c12
        have H1 : ((entry_Get.f kj2 a0).bind fun bt210 => ((roadbookref08_Get.f kj2 a0).bind fun bt218 => ((entry_Put.f kj2 a1_0 a1_1 a1_2 a1_3 a1_4 a1_5).bind fun bt226 => ((roadbookref08_Put.f kj2 a1_0 a1_1 a1_2 a1_3 a1_4 a1_5).bind fun bt228 => ((roadbooklaw08_awake.f kj2).bind fun t230 => (if t230 = true then (if (bt210.1 == bt218.1 && (bt210.2.1 == bt218.2.1 && (bt210.2.2.1.toList == bt218.2.2.1.toList && (bt210.2.2.2.1.toList == bt218.2.2.2.1.toList && (bt210.2.2.2.2.1.toList == bt218.2.2.2.2.1.toList && (bt210.2.2.2.2.2.1 == bt218.2.2.2.2.2.1)))))) = true then (if (bt210.2.2.2.2.2.2 == bt218.2.2.2.2.2.2) = true then (if bt226.1.toList = bt228.1.toList then (some (bt226.2 == bt228.2)) else (some false)) else (some false)) else (some false)) else (some false))))))) = some r := by rw [if_neg (show ¬ (false = true) by decide)] at H; exact H
        clear H
        have H := H1
        clear H1
        replace H := Option.bind_eq_some_iff.mp H
        obtain ⟨⟨t210, t211, t212, t213, t214, t215, t216⟩, A150, H⟩ := H
        replace H : ((roadbookref08_Get.f kj2 a0).bind fun bt218 => ((entry_Put.f kj2 a1_0 a1_1 a1_2 a1_3 a1_4 a1_5).bind fun bt226 => ((roadbookref08_Put.f kj2 a1_0 a1_1 a1_2 a1_3 a1_4 a1_5).bind fun bt228 => ((roadbooklaw08_awake.f kj2).bind fun t230 => (if t230 = true then (if (t210 == bt218.1 && (t211 == bt218.2.1 && (t212.toList == bt218.2.2.1.toList && (t213.toList == bt218.2.2.2.1.toList && (t214.toList == bt218.2.2.2.2.1.toList && (t215 == bt218.2.2.2.2.2.1)))))) = true then (if (t216 == bt218.2.2.2.2.2.2) = true then (if bt226.1.toList = bt228.1.toList then (some (bt226.2 == bt228.2)) else (some false)) else (some false)) else (some false)) else (some false)))))) = some r := H
        have A15 := Aside0.mk A150
        clear A150
        replace H := Option.bind_eq_some_iff.mp H
        obtain ⟨⟨t218, t219, t220, t221, t222, t223, t224⟩, A160, H⟩ := H
        replace H : ((entry_Put.f kj2 a1_0 a1_1 a1_2 a1_3 a1_4 a1_5).bind fun bt226 => ((roadbookref08_Put.f kj2 a1_0 a1_1 a1_2 a1_3 a1_4 a1_5).bind fun bt228 => ((roadbooklaw08_awake.f kj2).bind fun t230 => (if t230 = true then (if (t210 == t218 && (t211 == t219 && (t212.toList == t220.toList && (t213.toList == t221.toList && (t214.toList == t222.toList && (t215 == t223)))))) = true then (if (t216 == t224) = true then (if bt226.1.toList = bt228.1.toList then (some (bt226.2 == bt228.2)) else (some false)) else (some false)) else (some false)) else (some false))))) = some r := H
        have A16 := Aside0.mk A160
        clear A160
        replace H := Option.bind_eq_some_iff.mp H
        obtain ⟨⟨t226, t227⟩, A170, H⟩ := H
        replace H : ((roadbookref08_Put.f kj2 a1_0 a1_1 a1_2 a1_3 a1_4 a1_5).bind fun bt228 => ((roadbooklaw08_awake.f kj2).bind fun t230 => (if t230 = true then (if (t210 == t218 && (t211 == t219 && (t212.toList == t220.toList && (t213.toList == t221.toList && (t214.toList == t222.toList && (t215 == t223)))))) = true then (if (t216 == t224) = true then (if t226.toList = bt228.1.toList then (some (t227 == bt228.2)) else (some false)) else (some false)) else (some false)) else (some false)))) = some r := H
        have A17 := Aside0.mk A170
        clear A170
        replace H := Option.bind_eq_some_iff.mp H
        obtain ⟨⟨t228, t229⟩, A180, H⟩ := H
        replace H : ((roadbooklaw08_awake.f kj2).bind fun t230 => (if t230 = true then (if (t210 == t218 && (t211 == t219 && (t212.toList == t220.toList && (t213.toList == t221.toList && (t214.toList == t222.toList && (t215 == t223)))))) = true then (if (t216 == t224) = true then (if t226.toList = t228.toList then (some (t227 == t229)) else (some false)) else (some false)) else (some false)) else (some false))) = some r := H
        have A18 := Aside0.mk A180
        clear A180
        replace H := Option.bind_eq_some_iff.mp H
        obtain ⟨t230, A190, H⟩ := H
        replace H : (if t230 = true then (if (t210 == t218 && (t211 == t219 && (t212.toList == t220.toList && (t213.toList == t221.toList && (t214.toList == t222.toList && (t215 == t223)))))) = true then (if (t216 == t224) = true then (if t226.toList = t228.toList then (some (t227 == t229)) else (some false)) else (some false)) else (some false)) else (some false)) = some r := H
        have A19 := Aside0.mk A190
        clear A190
        by_cases c20 : t230 = true
        · subst c20
          have H1 : (if (t210 == t218 && (t211 == t219 && (t212.toList == t220.toList && (t213.toList == t221.toList && (t214.toList == t222.toList && (t215 == t223)))))) = true then (if (t216 == t224) = true then (if t226.toList = t228.toList then (some (t227 == t229)) else (some false)) else (some false)) else (some false)) = some r := by rw [if_pos rfl] at H; exact H
          clear H
          have H := H1
          clear H1
          by_cases c21 : (t210 == t218 && (t211 == t219 && (t212.toList == t220.toList && (t213.toList == t221.toList && (t214.toList == t222.toList && (t215 == t223)))))) = true
          · rw [if_pos c21] at H
            have c21b0 : (t210 == t218 && (t211 == t219 && (t212.toList == t220.toList && (t213.toList == t221.toList && (t214.toList == t222.toList && (t215 == t223)))))) = true := c21
            (try (have c21b1 : decide (t210 = t218 && (t211 == t219 && (t212.toList == t220.toList && (t213.toList == t221.toList && (t214.toList == t222.toList && (t215 == t223)))))) = true := by simpa using c21))
            (try (have c21b2 : (t210 == t218 && (t211 == t219 && (t212.toList == t220.toList && (t213.toList == t221.toList && (t214.toList == t222.toList && (t215 == t223)))))) = true := by simpa using c21))
            clear c21
            by_cases c22 : (t216 == t224) = true
            · rw [if_pos c22] at H
              have c22b0 : (t216 == t224) = true := c22
              (try (have c22b1 : decide (t216 = t224) = true := by simpa using c22))
              (try (have c22b2 : (t216 == t224) = true := by simpa using c22))
              clear c22
              by_cases c23 : t226.toList = t228.toList
              · rw [if_pos c23] at H
                have c23b0 : (t226.toList == t228.toList) = true := beq_iff_eq.mpr c23
                have c23b1 : (t226.toList != t228.toList) = false := bne_eq_false_iff_eq.mpr c23
                clear c23
                obtain rfl := Option.some.inj H
                go_wp2_with (first | ((with_reducible refine gate_callee (f := 13) rfl ?_); refine goesL_ (some 35) rfl rfl Try.func13 (by kernel_rfl) rfl #[.string a0] rfl gAr ?_; (with_reducible refine (entry_Get.calls kj2 a0 t210 t211 t212 t213 t214 t215 t216 _ A15.out).mono ?_); rintro e w24 ⟨rfl, hb⟩; refine ⟨_, rfl, ?_⟩; have n0_ := Aside0.mk (blk_below (blk_below BK208.out bll) hb); have n1_ := Aside0.mk (below_step (bel) hb); clear BK208; clear HB; have BK208 := n0_; have HB := n1_; clear n0_ n1_; (try clear hb)) | ((with_reducible refine gate_dst (N := 5) rfl ?_); (try (refine gate_guard (by rfl) ?_; dsimp only)); refine box_event ?hg (N := 5) ?hd (cs := #[.int .i64 0, .int .i64 0, .string (⟨#[]⟩ : ByteArray), .string (⟨#[]⟩ : ByteArray), .string (⟨#[]⟩ : ByteArray), .int .i64 0]) (t := 23) ?hr ?_; (case hd => rfl); (case hg => rfl); (case hr => first | (go_simp; done) | (go_simp; rfl)); intro gb217 hg w25 hbox hb; have n0_ := Aside0.mk (blk_below (blk_below BK208.out bll) hb); have n1_ := Aside0.mk (below_step (bel) hb); have n2_ := Aside0.mk (hbox); have n3_ := Aside0.mk ((by rw [hg]; exact bsz : w.heap.size ≤ gb217)); have n4_ := Aside0.mk ((by rw [hg]; exact bsz : w.heap.size ≤ gb217)); have n5_ := Aside0.mk ((by rw [hg]; exact Nat.ne_of_lt (blk_lt (blk_below BK208.out bll)) : gb208 ≠ gb217)); have n6_ := Aside0.mk ((by rw [hg]; exact Nat.ne_of_gt (blk_lt (blk_below BK208.out bll)) : gb217 ≠ gb208)); clear BK208; clear HB; have BK208 := n0_; have HB := n1_; have BK217 := n2_; have GW217 := n3_; have GE217 := n4_; have NB208_217 := n5_; have NB217_208 := n6_; clear n0_ n1_ n2_ n3_ n4_ n5_ n6_; clear hb hbox hg; have hnb26 := NB217_208.out; have hnc26 := NB208_217.out; have hcz27_0 := cl0 BK217.out; have hfz27_0 := blk_frozen BK217.out 0; have hcz28_1 := cl1 BK217.out; have hfz28_1 := blk_frozen BK217.out 1; have hcz29_2 := cl2 BK217.out; have hfz29_2 := blk_frozen BK217.out 2; have hcz30_3 := cl3 BK217.out; have hfz30_3 := blk_frozen BK217.out 3; have hcz31_4 := cl4 BK217.out; have hfz31_4 := blk_frozen BK217.out 4; have hcz32_5 := cl5 BK217.out; have hfz32_5 := blk_frozen BK217.out 5) | ((with_reducible refine gate_callee (f := 14) rfl ?_); refine goesL_ (some 40) rfl rfl Try.func14 (by kernel_rfl) rfl #[.string a0] rfl gAr ?_; (with_reducible refine (roadbookref08_Get.calls kj2 a0 t218 t219 t220 t221 t222 t223 t224 _ A16.out).mono ?_); rintro e w33 ⟨rfl, hb⟩; refine ⟨_, rfl, ?_⟩; have n0_ := Aside0.mk (blk_below (g := gb208) blk hb); have n1_ := Aside0.mk (blk_below (g := gb217) (o := .cells #[.int .i64 t210, .int .i64 t211, .string t212, .string t213, .string t214, .int .i64 t215] 23 (0, 0)) (blk) hb); have n2_ := Aside0.mk (below_step (bel) hb); clear BK208; clear BK217; clear HB; have BK208 := n0_; have BK217 := n1_; have HB := n2_; clear n0_ n1_ n2_; (try clear hb)) | ((with_reducible refine gate_dst (N := 7) rfl ?_); (try (refine gate_guard (by rfl) ?_; dsimp only)); refine box_event ?hg (N := 7) ?hd (cs := #[.int .i64 0, .int .i64 0, .string (⟨#[]⟩ : ByteArray), .string (⟨#[]⟩ : ByteArray), .string (⟨#[]⟩ : ByteArray), .int .i64 0]) (t := 23) ?hr ?_; (case hd => rfl); (case hg => rfl); (case hr => first | (go_simp; done) | (go_simp; rfl)); intro gb225 hg w34 hbox hb; have n0_ := Aside0.mk (blk_below (blk_below BK208.out bll) hb); have n1_ := Aside0.mk (blk_below (blk_below BK217.out bll) hb); have n2_ := Aside0.mk (below_step (bel) hb); have n3_ := Aside0.mk (hbox); have n4_ := Aside0.mk ((by rw [hg]; exact bsz : w.heap.size ≤ gb225)); have n5_ := Aside0.mk ((by rw [hg]; exact bsz : w.heap.size ≤ gb225)); have n6_ := Aside0.mk ((by rw [hg]; exact Nat.ne_of_lt (blk_lt (blk_below BK208.out bll)) : gb208 ≠ gb225)); have n7_ := Aside0.mk ((by rw [hg]; exact Nat.ne_of_gt (blk_lt (blk_below BK208.out bll)) : gb225 ≠ gb208)); have n8_ := Aside0.mk ((by rw [hg]; exact Nat.ne_of_lt (blk_lt (blk_below BK217.out bll)) : gb217 ≠ gb225)); have n9_ := Aside0.mk ((by rw [hg]; exact Nat.ne_of_gt (blk_lt (blk_below BK217.out bll)) : gb225 ≠ gb217)); clear BK208; clear BK217; clear HB; have BK208 := n0_; have BK217 := n1_; have HB := n2_; have BK225 := n3_; have GW225 := n4_; have GE225 := n5_; have NB208_225 := n6_; have NB225_208 := n7_; have NB217_225 := n8_; have NB225_217 := n9_; clear n0_ n1_ n2_ n3_ n4_ n5_ n6_ n7_ n8_ n9_; clear hb hbox hg; have hnb35 := NB225_208.out; have hnc35 := NB208_225.out; have hnb36 := NB225_217.out; have hnc36 := NB217_225.out; have hcz37_0 := cl0 BK225.out; have hfz37_0 := blk_frozen BK225.out 0; have hcz38_1 := cl1 BK225.out; have hfz38_1 := blk_frozen BK225.out 1; have hcz39_2 := cl2 BK225.out; have hfz39_2 := blk_frozen BK225.out 2; have hcz40_3 := cl3 BK225.out; have hfz40_3 := blk_frozen BK225.out 3; have hcz41_4 := cl4 BK225.out; have hfz41_4 := blk_frozen BK225.out 4; have hcz42_5 := cl5 BK225.out; have hfz42_5 := blk_frozen BK225.out 5; have hcz43_0 := cl0 BK208.out; have hcz43_1 := cl1 BK208.out; have hcz43_2 := cl2 BK208.out; have hcz43_3 := cl3 BK208.out; have hcz43_4 := cl4 BK208.out; have hcz43_5 := cl5 BK208.out; have hfz43_0 := blk_frozen BK208.out 0; have hfz43_1 := blk_frozen BK208.out 1; have hfz43_2 := blk_frozen BK208.out 2; have hfz43_3 := blk_frozen BK208.out 3; have hfz43_4 := blk_frozen BK208.out 4; have hfz43_5 := blk_frozen BK208.out 5) | ((with_reducible refine gate_callee (f := 15) rfl ?_); refine goesL_ (some 45) rfl rfl Try.func15 (by kernel_rfl) rfl #[.agg #[.int .i64 a1_0, .int .i64 a1_1, .string a1_2, .string a1_3, .string a1_4, .int .i64 a1_5]] rfl gAr ?_; (with_reducible refine (entry_Put.calls kj2 a1_0 a1_1 a1_2 a1_3 a1_4 a1_5 t226 t227 _ A17.out).mono ?_); rintro e w44 ⟨rfl, hb⟩; refine ⟨_, rfl, ?_⟩; have n0_ := Aside0.mk (blk_below (g := gb208) blk hb); have n1_ := Aside0.mk (blk_below (g := gb217) blk hb); have n2_ := Aside0.mk (blk_below (g := gb225) (o := .cells #[.int .i64 t218, .int .i64 t219, .string t220, .string t221, .string t222, .int .i64 t223] 23 (0, 0)) (blk) hb); have n3_ := Aside0.mk (below_step (bel) hb); clear BK208; clear BK217; clear BK225; clear HB; have BK208 := n0_; have BK217 := n1_; have BK225 := n2_; have HB := n3_; clear n0_ n1_ n2_ n3_; (try clear hb); have hcz45_0 := cl0 BK208.out; have hcz45_1 := cl1 BK208.out; have hcz45_2 := cl2 BK208.out; have hcz45_3 := cl3 BK208.out; have hcz45_4 := cl4 BK208.out; have hcz45_5 := cl5 BK208.out; have hfz45_0 := blk_frozen BK208.out 0; have hfz45_1 := blk_frozen BK208.out 1; have hfz45_2 := blk_frozen BK208.out 2; have hfz45_3 := blk_frozen BK208.out 3; have hfz45_4 := blk_frozen BK208.out 4; have hfz45_5 := blk_frozen BK208.out 5) | ((with_reducible refine gate_callee (f := 16) rfl ?_); refine goesL_ (some 50) rfl rfl Try.func16 (by kernel_rfl) rfl #[.agg #[.int .i64 a1_0, .int .i64 a1_1, .string a1_2, .string a1_3, .string a1_4, .int .i64 a1_5]] rfl gAr ?_; (with_reducible refine (roadbookref08_Put.calls kj2 a1_0 a1_1 a1_2 a1_3 a1_4 a1_5 t228 t229 _ A18.out).mono ?_); rintro e w46 ⟨rfl, hb⟩; refine ⟨_, rfl, ?_⟩; have n0_ := Aside0.mk (blk_below (blk_below BK208.out bll) hb); have n1_ := Aside0.mk (blk_below (blk_below BK217.out bll) hb); have n2_ := Aside0.mk (blk_below (blk_below BK225.out bll) hb); have n3_ := Aside0.mk (below_step (bel) hb); clear BK208; clear BK217; clear BK225; clear HB; have BK208 := n0_; have BK217 := n1_; have BK225 := n2_; have HB := n3_; clear n0_ n1_ n2_ n3_; (try clear hb)) | ((with_reducible refine gate_callee (f := 12) rfl ?_); refine goesL_ (some 53) rfl rfl Try.func12 (by kernel_rfl) rfl #[] rfl gAr ?_; (with_reducible refine (roadbooklaw08_awake.calls kj2  true _ A19.out).mono ?_); rintro e w47 ⟨rfl, hb⟩; refine ⟨_, rfl, ?_⟩; have n0_ := Aside0.mk (blk_below (blk_below BK208.out bll) hb); have n1_ := Aside0.mk (blk_below (blk_below BK217.out bll) hb); have n2_ := Aside0.mk (blk_below (blk_below BK225.out bll) hb); have n3_ := Aside0.mk (below_step (bel) hb); clear BK208; clear BK217; clear BK225; clear HB; have BK208 := n0_; have BK217 := n1_; have BK225 := n2_; have HB := n3_; clear n0_ n1_ n2_ n3_; (try clear hb); have hcz48_0 := cl0 BK217.out; have hcz48_1 := cl1 BK217.out; have hcz48_2 := cl2 BK217.out; have hcz48_3 := cl3 BK217.out; have hcz48_4 := cl4 BK217.out; have hcz48_5 := cl5 BK217.out; have hfz48_0 := blk_frozen BK217.out 0; have hfz48_1 := blk_frozen BK217.out 1; have hfz48_2 := blk_frozen BK217.out 2; have hfz48_3 := blk_frozen BK217.out 3; have hfz48_4 := blk_frozen BK217.out 4; have hfz48_5 := blk_frozen BK217.out 5; have hcz49_0 := cl0 BK225.out; have hcz49_1 := cl1 BK225.out; have hcz49_2 := cl2 BK225.out; have hcz49_3 := cl3 BK225.out; have hcz49_4 := cl4 BK225.out; have hcz49_5 := cl5 BK225.out; have hfz49_0 := blk_frozen BK225.out 0; have hfz49_1 := blk_frozen BK225.out 1; have hfz49_2 := blk_frozen BK225.out 2; have hfz49_3 := blk_frozen BK225.out 3; have hfz49_4 := blk_frozen BK225.out 4; have hfz49_5 := blk_frozen BK225.out 5))
                go_ret
                exact ⟨rtE, bel⟩
              · rw [if_neg c23] at H
                have c23b0 : (t226.toList == t228.toList) = false := beq_eq_false_iff_ne.mpr c23
                have c23b1 : (t226.toList != t228.toList) = true := bne_iff_ne.mpr c23
                obtain rfl := Option.some.inj H
                go_wp2_with (first | ((with_reducible refine gate_callee (f := 13) rfl ?_); refine goesL_ (some 35) rfl rfl Try.func13 (by kernel_rfl) rfl #[.string a0] rfl gAr ?_; (with_reducible refine (entry_Get.calls kj2 a0 t210 t211 t212 t213 t214 t215 t216 _ A15.out).mono ?_); rintro e w50 ⟨rfl, hb⟩; refine ⟨_, rfl, ?_⟩; have n0_ := Aside0.mk (blk_below (blk_below BK208.out bll) hb); have n1_ := Aside0.mk (below_step (bel) hb); clear BK208; clear HB; have BK208 := n0_; have HB := n1_; clear n0_ n1_; (try clear hb)) | ((with_reducible refine gate_dst (N := 5) rfl ?_); (try (refine gate_guard (by rfl) ?_; dsimp only)); refine box_event ?hg (N := 5) ?hd (cs := #[.int .i64 0, .int .i64 0, .string (⟨#[]⟩ : ByteArray), .string (⟨#[]⟩ : ByteArray), .string (⟨#[]⟩ : ByteArray), .int .i64 0]) (t := 23) ?hr ?_; (case hd => rfl); (case hg => rfl); (case hr => first | (go_simp; done) | (go_simp; rfl)); intro gb217 hg w51 hbox hb; have n0_ := Aside0.mk (blk_below (blk_below BK208.out bll) hb); have n1_ := Aside0.mk (below_step (bel) hb); have n2_ := Aside0.mk (hbox); have n3_ := Aside0.mk ((by rw [hg]; exact bsz : w.heap.size ≤ gb217)); have n4_ := Aside0.mk ((by rw [hg]; exact bsz : w.heap.size ≤ gb217)); have n5_ := Aside0.mk ((by rw [hg]; exact Nat.ne_of_lt (blk_lt (blk_below BK208.out bll)) : gb208 ≠ gb217)); have n6_ := Aside0.mk ((by rw [hg]; exact Nat.ne_of_gt (blk_lt (blk_below BK208.out bll)) : gb217 ≠ gb208)); clear BK208; clear HB; have BK208 := n0_; have HB := n1_; have BK217 := n2_; have GW217 := n3_; have GE217 := n4_; have NB208_217 := n5_; have NB217_208 := n6_; clear n0_ n1_ n2_ n3_ n4_ n5_ n6_; clear hb hbox hg; have hnb52 := NB217_208.out; have hnc52 := NB208_217.out; have hcz53_0 := cl0 BK217.out; have hfz53_0 := blk_frozen BK217.out 0; have hcz54_1 := cl1 BK217.out; have hfz54_1 := blk_frozen BK217.out 1; have hcz55_2 := cl2 BK217.out; have hfz55_2 := blk_frozen BK217.out 2; have hcz56_3 := cl3 BK217.out; have hfz56_3 := blk_frozen BK217.out 3; have hcz57_4 := cl4 BK217.out; have hfz57_4 := blk_frozen BK217.out 4; have hcz58_5 := cl5 BK217.out; have hfz58_5 := blk_frozen BK217.out 5) | ((with_reducible refine gate_callee (f := 14) rfl ?_); refine goesL_ (some 40) rfl rfl Try.func14 (by kernel_rfl) rfl #[.string a0] rfl gAr ?_; (with_reducible refine (roadbookref08_Get.calls kj2 a0 t218 t219 t220 t221 t222 t223 t224 _ A16.out).mono ?_); rintro e w59 ⟨rfl, hb⟩; refine ⟨_, rfl, ?_⟩; have n0_ := Aside0.mk (blk_below (g := gb208) blk hb); have n1_ := Aside0.mk (blk_below (g := gb217) (o := .cells #[.int .i64 t210, .int .i64 t211, .string t212, .string t213, .string t214, .int .i64 t215] 23 (0, 0)) (blk) hb); have n2_ := Aside0.mk (below_step (bel) hb); clear BK208; clear BK217; clear HB; have BK208 := n0_; have BK217 := n1_; have HB := n2_; clear n0_ n1_ n2_; (try clear hb)) | ((with_reducible refine gate_dst (N := 7) rfl ?_); (try (refine gate_guard (by rfl) ?_; dsimp only)); refine box_event ?hg (N := 7) ?hd (cs := #[.int .i64 0, .int .i64 0, .string (⟨#[]⟩ : ByteArray), .string (⟨#[]⟩ : ByteArray), .string (⟨#[]⟩ : ByteArray), .int .i64 0]) (t := 23) ?hr ?_; (case hd => rfl); (case hg => rfl); (case hr => first | (go_simp; done) | (go_simp; rfl)); intro gb225 hg w60 hbox hb; have n0_ := Aside0.mk (blk_below (blk_below BK208.out bll) hb); have n1_ := Aside0.mk (blk_below (blk_below BK217.out bll) hb); have n2_ := Aside0.mk (below_step (bel) hb); have n3_ := Aside0.mk (hbox); have n4_ := Aside0.mk ((by rw [hg]; exact bsz : w.heap.size ≤ gb225)); have n5_ := Aside0.mk ((by rw [hg]; exact bsz : w.heap.size ≤ gb225)); have n6_ := Aside0.mk ((by rw [hg]; exact Nat.ne_of_lt (blk_lt (blk_below BK208.out bll)) : gb208 ≠ gb225)); have n7_ := Aside0.mk ((by rw [hg]; exact Nat.ne_of_gt (blk_lt (blk_below BK208.out bll)) : gb225 ≠ gb208)); have n8_ := Aside0.mk ((by rw [hg]; exact Nat.ne_of_lt (blk_lt (blk_below BK217.out bll)) : gb217 ≠ gb225)); have n9_ := Aside0.mk ((by rw [hg]; exact Nat.ne_of_gt (blk_lt (blk_below BK217.out bll)) : gb225 ≠ gb217)); clear BK208; clear BK217; clear HB; have BK208 := n0_; have BK217 := n1_; have HB := n2_; have BK225 := n3_; have GW225 := n4_; have GE225 := n5_; have NB208_225 := n6_; have NB225_208 := n7_; have NB217_225 := n8_; have NB225_217 := n9_; clear n0_ n1_ n2_ n3_ n4_ n5_ n6_ n7_ n8_ n9_; clear hb hbox hg; have hnb61 := NB225_208.out; have hnc61 := NB208_225.out; have hnb62 := NB225_217.out; have hnc62 := NB217_225.out; have hcz63_0 := cl0 BK225.out; have hfz63_0 := blk_frozen BK225.out 0; have hcz64_1 := cl1 BK225.out; have hfz64_1 := blk_frozen BK225.out 1; have hcz65_2 := cl2 BK225.out; have hfz65_2 := blk_frozen BK225.out 2; have hcz66_3 := cl3 BK225.out; have hfz66_3 := blk_frozen BK225.out 3; have hcz67_4 := cl4 BK225.out; have hfz67_4 := blk_frozen BK225.out 4; have hcz68_5 := cl5 BK225.out; have hfz68_5 := blk_frozen BK225.out 5; have hcz69_0 := cl0 BK208.out; have hcz69_1 := cl1 BK208.out; have hcz69_2 := cl2 BK208.out; have hcz69_3 := cl3 BK208.out; have hcz69_4 := cl4 BK208.out; have hcz69_5 := cl5 BK208.out; have hfz69_0 := blk_frozen BK208.out 0; have hfz69_1 := blk_frozen BK208.out 1; have hfz69_2 := blk_frozen BK208.out 2; have hfz69_3 := blk_frozen BK208.out 3; have hfz69_4 := blk_frozen BK208.out 4; have hfz69_5 := blk_frozen BK208.out 5) | ((with_reducible refine gate_callee (f := 15) rfl ?_); refine goesL_ (some 45) rfl rfl Try.func15 (by kernel_rfl) rfl #[.agg #[.int .i64 a1_0, .int .i64 a1_1, .string a1_2, .string a1_3, .string a1_4, .int .i64 a1_5]] rfl gAr ?_; (with_reducible refine (entry_Put.calls kj2 a1_0 a1_1 a1_2 a1_3 a1_4 a1_5 t226 t227 _ A17.out).mono ?_); rintro e w70 ⟨rfl, hb⟩; refine ⟨_, rfl, ?_⟩; have n0_ := Aside0.mk (blk_below (g := gb208) blk hb); have n1_ := Aside0.mk (blk_below (g := gb217) blk hb); have n2_ := Aside0.mk (blk_below (g := gb225) (o := .cells #[.int .i64 t218, .int .i64 t219, .string t220, .string t221, .string t222, .int .i64 t223] 23 (0, 0)) (blk) hb); have n3_ := Aside0.mk (below_step (bel) hb); clear BK208; clear BK217; clear BK225; clear HB; have BK208 := n0_; have BK217 := n1_; have BK225 := n2_; have HB := n3_; clear n0_ n1_ n2_ n3_; (try clear hb); have hcz71_0 := cl0 BK208.out; have hcz71_1 := cl1 BK208.out; have hcz71_2 := cl2 BK208.out; have hcz71_3 := cl3 BK208.out; have hcz71_4 := cl4 BK208.out; have hcz71_5 := cl5 BK208.out; have hfz71_0 := blk_frozen BK208.out 0; have hfz71_1 := blk_frozen BK208.out 1; have hfz71_2 := blk_frozen BK208.out 2; have hfz71_3 := blk_frozen BK208.out 3; have hfz71_4 := blk_frozen BK208.out 4; have hfz71_5 := blk_frozen BK208.out 5) | ((with_reducible refine gate_callee (f := 16) rfl ?_); refine goesL_ (some 50) rfl rfl Try.func16 (by kernel_rfl) rfl #[.agg #[.int .i64 a1_0, .int .i64 a1_1, .string a1_2, .string a1_3, .string a1_4, .int .i64 a1_5]] rfl gAr ?_; (with_reducible refine (roadbookref08_Put.calls kj2 a1_0 a1_1 a1_2 a1_3 a1_4 a1_5 t228 t229 _ A18.out).mono ?_); rintro e w72 ⟨rfl, hb⟩; refine ⟨_, rfl, ?_⟩; have n0_ := Aside0.mk (blk_below (blk_below BK208.out bll) hb); have n1_ := Aside0.mk (blk_below (blk_below BK217.out bll) hb); have n2_ := Aside0.mk (blk_below (blk_below BK225.out bll) hb); have n3_ := Aside0.mk (below_step (bel) hb); clear BK208; clear BK217; clear BK225; clear HB; have BK208 := n0_; have BK217 := n1_; have BK225 := n2_; have HB := n3_; clear n0_ n1_ n2_ n3_; (try clear hb)) | ((with_reducible refine gate_callee (f := 12) rfl ?_); refine goesL_ (some 53) rfl rfl Try.func12 (by kernel_rfl) rfl #[] rfl gAr ?_; (with_reducible refine (roadbooklaw08_awake.calls kj2  true _ A19.out).mono ?_); rintro e w73 ⟨rfl, hb⟩; refine ⟨_, rfl, ?_⟩; have n0_ := Aside0.mk (blk_below (blk_below BK208.out bll) hb); have n1_ := Aside0.mk (blk_below (blk_below BK217.out bll) hb); have n2_ := Aside0.mk (blk_below (blk_below BK225.out bll) hb); have n3_ := Aside0.mk (below_step (bel) hb); clear BK208; clear BK217; clear BK225; clear HB; have BK208 := n0_; have BK217 := n1_; have BK225 := n2_; have HB := n3_; clear n0_ n1_ n2_ n3_; (try clear hb); have hcz74_0 := cl0 BK217.out; have hcz74_1 := cl1 BK217.out; have hcz74_2 := cl2 BK217.out; have hcz74_3 := cl3 BK217.out; have hcz74_4 := cl4 BK217.out; have hcz74_5 := cl5 BK217.out; have hfz74_0 := blk_frozen BK217.out 0; have hfz74_1 := blk_frozen BK217.out 1; have hfz74_2 := blk_frozen BK217.out 2; have hfz74_3 := blk_frozen BK217.out 3; have hfz74_4 := blk_frozen BK217.out 4; have hfz74_5 := blk_frozen BK217.out 5; have hcz75_0 := cl0 BK225.out; have hcz75_1 := cl1 BK225.out; have hcz75_2 := cl2 BK225.out; have hcz75_3 := cl3 BK225.out; have hcz75_4 := cl4 BK225.out; have hcz75_5 := cl5 BK225.out; have hfz75_0 := blk_frozen BK225.out 0; have hfz75_1 := blk_frozen BK225.out 1; have hfz75_2 := blk_frozen BK225.out 2; have hfz75_3 := blk_frozen BK225.out 3; have hfz75_4 := blk_frozen BK225.out 4; have hfz75_5 := blk_frozen BK225.out 5))
                go_ret
                exact ⟨rtE, bel⟩
            · rw [if_neg c22] at H
              have c22b0 : (t216 == t224) = false := by simpa using c22
              (try (have c22b1 : decide (t216 = t224) = false := by simpa using c22))
              (try (have c22b2 : (t216 == t224) = false := by simpa using c22))
              (try (have c22b3 : ¬ (t216 = t224) := by simpa using c22))
              clear c22
              obtain rfl := Option.some.inj H
              go_wp2_with (first | ((with_reducible refine gate_callee (f := 13) rfl ?_); refine goesL_ (some 35) rfl rfl Try.func13 (by kernel_rfl) rfl #[.string a0] rfl gAr ?_; (with_reducible refine (entry_Get.calls kj2 a0 t210 t211 t212 t213 t214 t215 t216 _ A15.out).mono ?_); rintro e w76 ⟨rfl, hb⟩; refine ⟨_, rfl, ?_⟩; have n0_ := Aside0.mk (blk_below (blk_below BK208.out bll) hb); have n1_ := Aside0.mk (below_step (bel) hb); clear BK208; clear HB; have BK208 := n0_; have HB := n1_; clear n0_ n1_; (try clear hb)) | ((with_reducible refine gate_dst (N := 5) rfl ?_); (try (refine gate_guard (by rfl) ?_; dsimp only)); refine box_event ?hg (N := 5) ?hd (cs := #[.int .i64 0, .int .i64 0, .string (⟨#[]⟩ : ByteArray), .string (⟨#[]⟩ : ByteArray), .string (⟨#[]⟩ : ByteArray), .int .i64 0]) (t := 23) ?hr ?_; (case hd => rfl); (case hg => rfl); (case hr => first | (go_simp; done) | (go_simp; rfl)); intro gb217 hg w77 hbox hb; have n0_ := Aside0.mk (blk_below (blk_below BK208.out bll) hb); have n1_ := Aside0.mk (below_step (bel) hb); have n2_ := Aside0.mk (hbox); have n3_ := Aside0.mk ((by rw [hg]; exact bsz : w.heap.size ≤ gb217)); have n4_ := Aside0.mk ((by rw [hg]; exact bsz : w.heap.size ≤ gb217)); have n5_ := Aside0.mk ((by rw [hg]; exact Nat.ne_of_lt (blk_lt (blk_below BK208.out bll)) : gb208 ≠ gb217)); have n6_ := Aside0.mk ((by rw [hg]; exact Nat.ne_of_gt (blk_lt (blk_below BK208.out bll)) : gb217 ≠ gb208)); clear BK208; clear HB; have BK208 := n0_; have HB := n1_; have BK217 := n2_; have GW217 := n3_; have GE217 := n4_; have NB208_217 := n5_; have NB217_208 := n6_; clear n0_ n1_ n2_ n3_ n4_ n5_ n6_; clear hb hbox hg; have hnb78 := NB217_208.out; have hnc78 := NB208_217.out; have hcz79_0 := cl0 BK217.out; have hfz79_0 := blk_frozen BK217.out 0; have hcz80_1 := cl1 BK217.out; have hfz80_1 := blk_frozen BK217.out 1; have hcz81_2 := cl2 BK217.out; have hfz81_2 := blk_frozen BK217.out 2; have hcz82_3 := cl3 BK217.out; have hfz82_3 := blk_frozen BK217.out 3; have hcz83_4 := cl4 BK217.out; have hfz83_4 := blk_frozen BK217.out 4; have hcz84_5 := cl5 BK217.out; have hfz84_5 := blk_frozen BK217.out 5) | ((with_reducible refine gate_callee (f := 14) rfl ?_); refine goesL_ (some 40) rfl rfl Try.func14 (by kernel_rfl) rfl #[.string a0] rfl gAr ?_; (with_reducible refine (roadbookref08_Get.calls kj2 a0 t218 t219 t220 t221 t222 t223 t224 _ A16.out).mono ?_); rintro e w85 ⟨rfl, hb⟩; refine ⟨_, rfl, ?_⟩; have n0_ := Aside0.mk (blk_below (g := gb208) blk hb); have n1_ := Aside0.mk (blk_below (g := gb217) (o := .cells #[.int .i64 t210, .int .i64 t211, .string t212, .string t213, .string t214, .int .i64 t215] 23 (0, 0)) (blk) hb); have n2_ := Aside0.mk (below_step (bel) hb); clear BK208; clear BK217; clear HB; have BK208 := n0_; have BK217 := n1_; have HB := n2_; clear n0_ n1_ n2_; (try clear hb)) | ((with_reducible refine gate_dst (N := 7) rfl ?_); (try (refine gate_guard (by rfl) ?_; dsimp only)); refine box_event ?hg (N := 7) ?hd (cs := #[.int .i64 0, .int .i64 0, .string (⟨#[]⟩ : ByteArray), .string (⟨#[]⟩ : ByteArray), .string (⟨#[]⟩ : ByteArray), .int .i64 0]) (t := 23) ?hr ?_; (case hd => rfl); (case hg => rfl); (case hr => first | (go_simp; done) | (go_simp; rfl)); intro gb225 hg w86 hbox hb; have n0_ := Aside0.mk (blk_below (blk_below BK208.out bll) hb); have n1_ := Aside0.mk (blk_below (blk_below BK217.out bll) hb); have n2_ := Aside0.mk (below_step (bel) hb); have n3_ := Aside0.mk (hbox); have n4_ := Aside0.mk ((by rw [hg]; exact bsz : w.heap.size ≤ gb225)); have n5_ := Aside0.mk ((by rw [hg]; exact bsz : w.heap.size ≤ gb225)); have n6_ := Aside0.mk ((by rw [hg]; exact Nat.ne_of_lt (blk_lt (blk_below BK208.out bll)) : gb208 ≠ gb225)); have n7_ := Aside0.mk ((by rw [hg]; exact Nat.ne_of_gt (blk_lt (blk_below BK208.out bll)) : gb225 ≠ gb208)); have n8_ := Aside0.mk ((by rw [hg]; exact Nat.ne_of_lt (blk_lt (blk_below BK217.out bll)) : gb217 ≠ gb225)); have n9_ := Aside0.mk ((by rw [hg]; exact Nat.ne_of_gt (blk_lt (blk_below BK217.out bll)) : gb225 ≠ gb217)); clear BK208; clear BK217; clear HB; have BK208 := n0_; have BK217 := n1_; have HB := n2_; have BK225 := n3_; have GW225 := n4_; have GE225 := n5_; have NB208_225 := n6_; have NB225_208 := n7_; have NB217_225 := n8_; have NB225_217 := n9_; clear n0_ n1_ n2_ n3_ n4_ n5_ n6_ n7_ n8_ n9_; clear hb hbox hg; have hnb87 := NB225_208.out; have hnc87 := NB208_225.out; have hnb88 := NB225_217.out; have hnc88 := NB217_225.out; have hcz89_0 := cl0 BK225.out; have hfz89_0 := blk_frozen BK225.out 0; have hcz90_1 := cl1 BK225.out; have hfz90_1 := blk_frozen BK225.out 1; have hcz91_2 := cl2 BK225.out; have hfz91_2 := blk_frozen BK225.out 2; have hcz92_3 := cl3 BK225.out; have hfz92_3 := blk_frozen BK225.out 3; have hcz93_4 := cl4 BK225.out; have hfz93_4 := blk_frozen BK225.out 4; have hcz94_5 := cl5 BK225.out; have hfz94_5 := blk_frozen BK225.out 5; have hcz95_0 := cl0 BK208.out; have hcz95_1 := cl1 BK208.out; have hcz95_2 := cl2 BK208.out; have hcz95_3 := cl3 BK208.out; have hcz95_4 := cl4 BK208.out; have hcz95_5 := cl5 BK208.out; have hfz95_0 := blk_frozen BK208.out 0; have hfz95_1 := blk_frozen BK208.out 1; have hfz95_2 := blk_frozen BK208.out 2; have hfz95_3 := blk_frozen BK208.out 3; have hfz95_4 := blk_frozen BK208.out 4; have hfz95_5 := blk_frozen BK208.out 5) | ((with_reducible refine gate_callee (f := 15) rfl ?_); refine goesL_ (some 45) rfl rfl Try.func15 (by kernel_rfl) rfl #[.agg #[.int .i64 a1_0, .int .i64 a1_1, .string a1_2, .string a1_3, .string a1_4, .int .i64 a1_5]] rfl gAr ?_; (with_reducible refine (entry_Put.calls kj2 a1_0 a1_1 a1_2 a1_3 a1_4 a1_5 t226 t227 _ A17.out).mono ?_); rintro e w96 ⟨rfl, hb⟩; refine ⟨_, rfl, ?_⟩; have n0_ := Aside0.mk (blk_below (g := gb208) blk hb); have n1_ := Aside0.mk (blk_below (g := gb217) blk hb); have n2_ := Aside0.mk (blk_below (g := gb225) (o := .cells #[.int .i64 t218, .int .i64 t219, .string t220, .string t221, .string t222, .int .i64 t223] 23 (0, 0)) (blk) hb); have n3_ := Aside0.mk (below_step (bel) hb); clear BK208; clear BK217; clear BK225; clear HB; have BK208 := n0_; have BK217 := n1_; have BK225 := n2_; have HB := n3_; clear n0_ n1_ n2_ n3_; (try clear hb); have hcz97_0 := cl0 BK208.out; have hcz97_1 := cl1 BK208.out; have hcz97_2 := cl2 BK208.out; have hcz97_3 := cl3 BK208.out; have hcz97_4 := cl4 BK208.out; have hcz97_5 := cl5 BK208.out; have hfz97_0 := blk_frozen BK208.out 0; have hfz97_1 := blk_frozen BK208.out 1; have hfz97_2 := blk_frozen BK208.out 2; have hfz97_3 := blk_frozen BK208.out 3; have hfz97_4 := blk_frozen BK208.out 4; have hfz97_5 := blk_frozen BK208.out 5) | ((with_reducible refine gate_callee (f := 16) rfl ?_); refine goesL_ (some 50) rfl rfl Try.func16 (by kernel_rfl) rfl #[.agg #[.int .i64 a1_0, .int .i64 a1_1, .string a1_2, .string a1_3, .string a1_4, .int .i64 a1_5]] rfl gAr ?_; (with_reducible refine (roadbookref08_Put.calls kj2 a1_0 a1_1 a1_2 a1_3 a1_4 a1_5 t228 t229 _ A18.out).mono ?_); rintro e w98 ⟨rfl, hb⟩; refine ⟨_, rfl, ?_⟩; have n0_ := Aside0.mk (blk_below (blk_below BK208.out bll) hb); have n1_ := Aside0.mk (blk_below (blk_below BK217.out bll) hb); have n2_ := Aside0.mk (blk_below (blk_below BK225.out bll) hb); have n3_ := Aside0.mk (below_step (bel) hb); clear BK208; clear BK217; clear BK225; clear HB; have BK208 := n0_; have BK217 := n1_; have BK225 := n2_; have HB := n3_; clear n0_ n1_ n2_ n3_; (try clear hb)) | ((with_reducible refine gate_callee (f := 12) rfl ?_); refine goesL_ (some 53) rfl rfl Try.func12 (by kernel_rfl) rfl #[] rfl gAr ?_; (with_reducible refine (roadbooklaw08_awake.calls kj2  true _ A19.out).mono ?_); rintro e w99 ⟨rfl, hb⟩; refine ⟨_, rfl, ?_⟩; have n0_ := Aside0.mk (blk_below (blk_below BK208.out bll) hb); have n1_ := Aside0.mk (blk_below (blk_below BK217.out bll) hb); have n2_ := Aside0.mk (blk_below (blk_below BK225.out bll) hb); have n3_ := Aside0.mk (below_step (bel) hb); clear BK208; clear BK217; clear BK225; clear HB; have BK208 := n0_; have BK217 := n1_; have BK225 := n2_; have HB := n3_; clear n0_ n1_ n2_ n3_; (try clear hb); have hcz100_0 := cl0 BK217.out; have hcz100_1 := cl1 BK217.out; have hcz100_2 := cl2 BK217.out; have hcz100_3 := cl3 BK217.out; have hcz100_4 := cl4 BK217.out; have hcz100_5 := cl5 BK217.out; have hfz100_0 := blk_frozen BK217.out 0; have hfz100_1 := blk_frozen BK217.out 1; have hfz100_2 := blk_frozen BK217.out 2; have hfz100_3 := blk_frozen BK217.out 3; have hfz100_4 := blk_frozen BK217.out 4; have hfz100_5 := blk_frozen BK217.out 5; have hcz101_0 := cl0 BK225.out; have hcz101_1 := cl1 BK225.out; have hcz101_2 := cl2 BK225.out; have hcz101_3 := cl3 BK225.out; have hcz101_4 := cl4 BK225.out; have hcz101_5 := cl5 BK225.out; have hfz101_0 := blk_frozen BK225.out 0; have hfz101_1 := blk_frozen BK225.out 1; have hfz101_2 := blk_frozen BK225.out 2; have hfz101_3 := blk_frozen BK225.out 3; have hfz101_4 := blk_frozen BK225.out 4; have hfz101_5 := blk_frozen BK225.out 5))
              go_ret
              exact ⟨rtE, bel⟩
          · rw [if_neg c21] at H
            have c21b0 : (t210 == t218 && (t211 == t219 && (t212.toList == t220.toList && (t213.toList == t221.toList && (t214.toList == t222.toList && (t215 == t223)))))) = false := by simpa using c21
            (try (have c21b1 : decide (t210 = t218 && (t211 == t219 && (t212.toList == t220.toList && (t213.toList == t221.toList && (t214.toList == t222.toList && (t215 == t223)))))) = false := by simpa using c21))
            (try (have c21b2 : (t210 == t218 && (t211 == t219 && (t212.toList == t220.toList && (t213.toList == t221.toList && (t214.toList == t222.toList && (t215 == t223)))))) = false := by simpa using c21))
            (try (have c21b3 : ¬ (t210 = t218 && (t211 == t219 && (t212.toList == t220.toList && (t213.toList == t221.toList && (t214.toList == t222.toList && (t215 == t223)))))) := by simpa using c21))
            clear c21
            obtain rfl := Option.some.inj H
            go_wp2_with (first | ((with_reducible refine gate_callee (f := 13) rfl ?_); refine goesL_ (some 35) rfl rfl Try.func13 (by kernel_rfl) rfl #[.string a0] rfl gAr ?_; (with_reducible refine (entry_Get.calls kj2 a0 t210 t211 t212 t213 t214 t215 t216 _ A15.out).mono ?_); rintro e w102 ⟨rfl, hb⟩; refine ⟨_, rfl, ?_⟩; have n0_ := Aside0.mk (blk_below (blk_below BK208.out bll) hb); have n1_ := Aside0.mk (below_step (bel) hb); clear BK208; clear HB; have BK208 := n0_; have HB := n1_; clear n0_ n1_; (try clear hb)) | ((with_reducible refine gate_dst (N := 5) rfl ?_); (try (refine gate_guard (by rfl) ?_; dsimp only)); refine box_event ?hg (N := 5) ?hd (cs := #[.int .i64 0, .int .i64 0, .string (⟨#[]⟩ : ByteArray), .string (⟨#[]⟩ : ByteArray), .string (⟨#[]⟩ : ByteArray), .int .i64 0]) (t := 23) ?hr ?_; (case hd => rfl); (case hg => rfl); (case hr => first | (go_simp; done) | (go_simp; rfl)); intro gb217 hg w103 hbox hb; have n0_ := Aside0.mk (blk_below (blk_below BK208.out bll) hb); have n1_ := Aside0.mk (below_step (bel) hb); have n2_ := Aside0.mk (hbox); have n3_ := Aside0.mk ((by rw [hg]; exact bsz : w.heap.size ≤ gb217)); have n4_ := Aside0.mk ((by rw [hg]; exact bsz : w.heap.size ≤ gb217)); have n5_ := Aside0.mk ((by rw [hg]; exact Nat.ne_of_lt (blk_lt (blk_below BK208.out bll)) : gb208 ≠ gb217)); have n6_ := Aside0.mk ((by rw [hg]; exact Nat.ne_of_gt (blk_lt (blk_below BK208.out bll)) : gb217 ≠ gb208)); clear BK208; clear HB; have BK208 := n0_; have HB := n1_; have BK217 := n2_; have GW217 := n3_; have GE217 := n4_; have NB208_217 := n5_; have NB217_208 := n6_; clear n0_ n1_ n2_ n3_ n4_ n5_ n6_; clear hb hbox hg; have hnb104 := NB217_208.out; have hnc104 := NB208_217.out; have hcz105_0 := cl0 BK217.out; have hfz105_0 := blk_frozen BK217.out 0; have hcz106_1 := cl1 BK217.out; have hfz106_1 := blk_frozen BK217.out 1; have hcz107_2 := cl2 BK217.out; have hfz107_2 := blk_frozen BK217.out 2; have hcz108_3 := cl3 BK217.out; have hfz108_3 := blk_frozen BK217.out 3; have hcz109_4 := cl4 BK217.out; have hfz109_4 := blk_frozen BK217.out 4; have hcz110_5 := cl5 BK217.out; have hfz110_5 := blk_frozen BK217.out 5) | ((with_reducible refine gate_callee (f := 14) rfl ?_); refine goesL_ (some 40) rfl rfl Try.func14 (by kernel_rfl) rfl #[.string a0] rfl gAr ?_; (with_reducible refine (roadbookref08_Get.calls kj2 a0 t218 t219 t220 t221 t222 t223 t224 _ A16.out).mono ?_); rintro e w111 ⟨rfl, hb⟩; refine ⟨_, rfl, ?_⟩; have n0_ := Aside0.mk (blk_below (g := gb208) blk hb); have n1_ := Aside0.mk (blk_below (g := gb217) (o := .cells #[.int .i64 t210, .int .i64 t211, .string t212, .string t213, .string t214, .int .i64 t215] 23 (0, 0)) (blk) hb); have n2_ := Aside0.mk (below_step (bel) hb); clear BK208; clear BK217; clear HB; have BK208 := n0_; have BK217 := n1_; have HB := n2_; clear n0_ n1_ n2_; (try clear hb)) | ((with_reducible refine gate_dst (N := 7) rfl ?_); (try (refine gate_guard (by rfl) ?_; dsimp only)); refine box_event ?hg (N := 7) ?hd (cs := #[.int .i64 0, .int .i64 0, .string (⟨#[]⟩ : ByteArray), .string (⟨#[]⟩ : ByteArray), .string (⟨#[]⟩ : ByteArray), .int .i64 0]) (t := 23) ?hr ?_; (case hd => rfl); (case hg => rfl); (case hr => first | (go_simp; done) | (go_simp; rfl)); intro gb225 hg w112 hbox hb; have n0_ := Aside0.mk (blk_below (blk_below BK208.out bll) hb); have n1_ := Aside0.mk (blk_below (blk_below BK217.out bll) hb); have n2_ := Aside0.mk (below_step (bel) hb); have n3_ := Aside0.mk (hbox); have n4_ := Aside0.mk ((by rw [hg]; exact bsz : w.heap.size ≤ gb225)); have n5_ := Aside0.mk ((by rw [hg]; exact bsz : w.heap.size ≤ gb225)); have n6_ := Aside0.mk ((by rw [hg]; exact Nat.ne_of_lt (blk_lt (blk_below BK208.out bll)) : gb208 ≠ gb225)); have n7_ := Aside0.mk ((by rw [hg]; exact Nat.ne_of_gt (blk_lt (blk_below BK208.out bll)) : gb225 ≠ gb208)); have n8_ := Aside0.mk ((by rw [hg]; exact Nat.ne_of_lt (blk_lt (blk_below BK217.out bll)) : gb217 ≠ gb225)); have n9_ := Aside0.mk ((by rw [hg]; exact Nat.ne_of_gt (blk_lt (blk_below BK217.out bll)) : gb225 ≠ gb217)); clear BK208; clear BK217; clear HB; have BK208 := n0_; have BK217 := n1_; have HB := n2_; have BK225 := n3_; have GW225 := n4_; have GE225 := n5_; have NB208_225 := n6_; have NB225_208 := n7_; have NB217_225 := n8_; have NB225_217 := n9_; clear n0_ n1_ n2_ n3_ n4_ n5_ n6_ n7_ n8_ n9_; clear hb hbox hg; have hnb113 := NB225_208.out; have hnc113 := NB208_225.out; have hnb114 := NB225_217.out; have hnc114 := NB217_225.out; have hcz115_0 := cl0 BK225.out; have hfz115_0 := blk_frozen BK225.out 0; have hcz116_1 := cl1 BK225.out; have hfz116_1 := blk_frozen BK225.out 1; have hcz117_2 := cl2 BK225.out; have hfz117_2 := blk_frozen BK225.out 2; have hcz118_3 := cl3 BK225.out; have hfz118_3 := blk_frozen BK225.out 3; have hcz119_4 := cl4 BK225.out; have hfz119_4 := blk_frozen BK225.out 4; have hcz120_5 := cl5 BK225.out; have hfz120_5 := blk_frozen BK225.out 5; have hcz121_0 := cl0 BK208.out; have hcz121_1 := cl1 BK208.out; have hcz121_2 := cl2 BK208.out; have hcz121_3 := cl3 BK208.out; have hcz121_4 := cl4 BK208.out; have hcz121_5 := cl5 BK208.out; have hfz121_0 := blk_frozen BK208.out 0; have hfz121_1 := blk_frozen BK208.out 1; have hfz121_2 := blk_frozen BK208.out 2; have hfz121_3 := blk_frozen BK208.out 3; have hfz121_4 := blk_frozen BK208.out 4; have hfz121_5 := blk_frozen BK208.out 5) | ((with_reducible refine gate_callee (f := 15) rfl ?_); refine goesL_ (some 45) rfl rfl Try.func15 (by kernel_rfl) rfl #[.agg #[.int .i64 a1_0, .int .i64 a1_1, .string a1_2, .string a1_3, .string a1_4, .int .i64 a1_5]] rfl gAr ?_; (with_reducible refine (entry_Put.calls kj2 a1_0 a1_1 a1_2 a1_3 a1_4 a1_5 t226 t227 _ A17.out).mono ?_); rintro e w122 ⟨rfl, hb⟩; refine ⟨_, rfl, ?_⟩; have n0_ := Aside0.mk (blk_below (g := gb208) blk hb); have n1_ := Aside0.mk (blk_below (g := gb217) blk hb); have n2_ := Aside0.mk (blk_below (g := gb225) (o := .cells #[.int .i64 t218, .int .i64 t219, .string t220, .string t221, .string t222, .int .i64 t223] 23 (0, 0)) (blk) hb); have n3_ := Aside0.mk (below_step (bel) hb); clear BK208; clear BK217; clear BK225; clear HB; have BK208 := n0_; have BK217 := n1_; have BK225 := n2_; have HB := n3_; clear n0_ n1_ n2_ n3_; (try clear hb); have hcz123_0 := cl0 BK208.out; have hcz123_1 := cl1 BK208.out; have hcz123_2 := cl2 BK208.out; have hcz123_3 := cl3 BK208.out; have hcz123_4 := cl4 BK208.out; have hcz123_5 := cl5 BK208.out; have hfz123_0 := blk_frozen BK208.out 0; have hfz123_1 := blk_frozen BK208.out 1; have hfz123_2 := blk_frozen BK208.out 2; have hfz123_3 := blk_frozen BK208.out 3; have hfz123_4 := blk_frozen BK208.out 4; have hfz123_5 := blk_frozen BK208.out 5) | ((with_reducible refine gate_callee (f := 16) rfl ?_); refine goesL_ (some 50) rfl rfl Try.func16 (by kernel_rfl) rfl #[.agg #[.int .i64 a1_0, .int .i64 a1_1, .string a1_2, .string a1_3, .string a1_4, .int .i64 a1_5]] rfl gAr ?_; (with_reducible refine (roadbookref08_Put.calls kj2 a1_0 a1_1 a1_2 a1_3 a1_4 a1_5 t228 t229 _ A18.out).mono ?_); rintro e w124 ⟨rfl, hb⟩; refine ⟨_, rfl, ?_⟩; have n0_ := Aside0.mk (blk_below (blk_below BK208.out bll) hb); have n1_ := Aside0.mk (blk_below (blk_below BK217.out bll) hb); have n2_ := Aside0.mk (blk_below (blk_below BK225.out bll) hb); have n3_ := Aside0.mk (below_step (bel) hb); clear BK208; clear BK217; clear BK225; clear HB; have BK208 := n0_; have BK217 := n1_; have BK225 := n2_; have HB := n3_; clear n0_ n1_ n2_ n3_; (try clear hb)) | ((with_reducible refine gate_callee (f := 12) rfl ?_); refine goesL_ (some 53) rfl rfl Try.func12 (by kernel_rfl) rfl #[] rfl gAr ?_; (with_reducible refine (roadbooklaw08_awake.calls kj2  true _ A19.out).mono ?_); rintro e w125 ⟨rfl, hb⟩; refine ⟨_, rfl, ?_⟩; have n0_ := Aside0.mk (blk_below (blk_below BK208.out bll) hb); have n1_ := Aside0.mk (blk_below (blk_below BK217.out bll) hb); have n2_ := Aside0.mk (blk_below (blk_below BK225.out bll) hb); have n3_ := Aside0.mk (below_step (bel) hb); clear BK208; clear BK217; clear BK225; clear HB; have BK208 := n0_; have BK217 := n1_; have BK225 := n2_; have HB := n3_; clear n0_ n1_ n2_ n3_; (try clear hb); have hcz126_0 := cl0 BK217.out; have hcz126_1 := cl1 BK217.out; have hcz126_2 := cl2 BK217.out; have hcz126_3 := cl3 BK217.out; have hcz126_4 := cl4 BK217.out; have hcz126_5 := cl5 BK217.out; have hfz126_0 := blk_frozen BK217.out 0; have hfz126_1 := blk_frozen BK217.out 1; have hfz126_2 := blk_frozen BK217.out 2; have hfz126_3 := blk_frozen BK217.out 3; have hfz126_4 := blk_frozen BK217.out 4; have hfz126_5 := blk_frozen BK217.out 5; have hcz127_0 := cl0 BK225.out; have hcz127_1 := cl1 BK225.out; have hcz127_2 := cl2 BK225.out; have hcz127_3 := cl3 BK225.out; have hcz127_4 := cl4 BK225.out; have hcz127_5 := cl5 BK225.out; have hfz127_0 := blk_frozen BK225.out 0; have hfz127_1 := blk_frozen BK225.out 1; have hfz127_2 := blk_frozen BK225.out 2; have hfz127_3 := blk_frozen BK225.out 3; have hfz127_4 := blk_frozen BK225.out 4; have hfz127_5 := blk_frozen BK225.out 5))
            go_ret
            exact ⟨rtE, bel⟩
        · replace c20 := Bool.eq_false_iff.mpr c20
          subst c20
          have H1 : (some false) = some r := by rw [if_neg (show ¬ (false = true) by decide)] at H; exact H
          clear H
          have H := H1
          clear H1
          obtain rfl := Option.some.inj H
          go_wp2_with (first | ((with_reducible refine gate_callee (f := 13) rfl ?_); refine goesL_ (some 35) rfl rfl Try.func13 (by kernel_rfl) rfl #[.string a0] rfl gAr ?_; (with_reducible refine (entry_Get.calls kj2 a0 t210 t211 t212 t213 t214 t215 t216 _ A15.out).mono ?_); rintro e w128 ⟨rfl, hb⟩; refine ⟨_, rfl, ?_⟩; have n0_ := Aside0.mk (blk_below (blk_below BK208.out bll) hb); have n1_ := Aside0.mk (below_step (bel) hb); clear BK208; clear HB; have BK208 := n0_; have HB := n1_; clear n0_ n1_; (try clear hb)) | ((with_reducible refine gate_dst (N := 5) rfl ?_); (try (refine gate_guard (by rfl) ?_; dsimp only)); refine box_event ?hg (N := 5) ?hd (cs := #[.int .i64 0, .int .i64 0, .string (⟨#[]⟩ : ByteArray), .string (⟨#[]⟩ : ByteArray), .string (⟨#[]⟩ : ByteArray), .int .i64 0]) (t := 23) ?hr ?_; (case hd => rfl); (case hg => rfl); (case hr => first | (go_simp; done) | (go_simp; rfl)); intro gb217 hg w129 hbox hb; have n0_ := Aside0.mk (blk_below (blk_below BK208.out bll) hb); have n1_ := Aside0.mk (below_step (bel) hb); have n2_ := Aside0.mk (hbox); have n3_ := Aside0.mk ((by rw [hg]; exact bsz : w.heap.size ≤ gb217)); have n4_ := Aside0.mk ((by rw [hg]; exact bsz : w.heap.size ≤ gb217)); have n5_ := Aside0.mk ((by rw [hg]; exact Nat.ne_of_lt (blk_lt (blk_below BK208.out bll)) : gb208 ≠ gb217)); have n6_ := Aside0.mk ((by rw [hg]; exact Nat.ne_of_gt (blk_lt (blk_below BK208.out bll)) : gb217 ≠ gb208)); clear BK208; clear HB; have BK208 := n0_; have HB := n1_; have BK217 := n2_; have GW217 := n3_; have GE217 := n4_; have NB208_217 := n5_; have NB217_208 := n6_; clear n0_ n1_ n2_ n3_ n4_ n5_ n6_; clear hb hbox hg; have hnb130 := NB217_208.out; have hnc130 := NB208_217.out; have hcz131_0 := cl0 BK217.out; have hfz131_0 := blk_frozen BK217.out 0; have hcz132_1 := cl1 BK217.out; have hfz132_1 := blk_frozen BK217.out 1; have hcz133_2 := cl2 BK217.out; have hfz133_2 := blk_frozen BK217.out 2; have hcz134_3 := cl3 BK217.out; have hfz134_3 := blk_frozen BK217.out 3; have hcz135_4 := cl4 BK217.out; have hfz135_4 := blk_frozen BK217.out 4; have hcz136_5 := cl5 BK217.out; have hfz136_5 := blk_frozen BK217.out 5) | ((with_reducible refine gate_callee (f := 14) rfl ?_); refine goesL_ (some 40) rfl rfl Try.func14 (by kernel_rfl) rfl #[.string a0] rfl gAr ?_; (with_reducible refine (roadbookref08_Get.calls kj2 a0 t218 t219 t220 t221 t222 t223 t224 _ A16.out).mono ?_); rintro e w137 ⟨rfl, hb⟩; refine ⟨_, rfl, ?_⟩; have n0_ := Aside0.mk (blk_below (g := gb208) blk hb); have n1_ := Aside0.mk (blk_below (g := gb217) (o := .cells #[.int .i64 t210, .int .i64 t211, .string t212, .string t213, .string t214, .int .i64 t215] 23 (0, 0)) (blk) hb); have n2_ := Aside0.mk (below_step (bel) hb); clear BK208; clear BK217; clear HB; have BK208 := n0_; have BK217 := n1_; have HB := n2_; clear n0_ n1_ n2_; (try clear hb)) | ((with_reducible refine gate_dst (N := 7) rfl ?_); (try (refine gate_guard (by rfl) ?_; dsimp only)); refine box_event ?hg (N := 7) ?hd (cs := #[.int .i64 0, .int .i64 0, .string (⟨#[]⟩ : ByteArray), .string (⟨#[]⟩ : ByteArray), .string (⟨#[]⟩ : ByteArray), .int .i64 0]) (t := 23) ?hr ?_; (case hd => rfl); (case hg => rfl); (case hr => first | (go_simp; done) | (go_simp; rfl)); intro gb225 hg w138 hbox hb; have n0_ := Aside0.mk (blk_below (blk_below BK208.out bll) hb); have n1_ := Aside0.mk (blk_below (blk_below BK217.out bll) hb); have n2_ := Aside0.mk (below_step (bel) hb); have n3_ := Aside0.mk (hbox); have n4_ := Aside0.mk ((by rw [hg]; exact bsz : w.heap.size ≤ gb225)); have n5_ := Aside0.mk ((by rw [hg]; exact bsz : w.heap.size ≤ gb225)); have n6_ := Aside0.mk ((by rw [hg]; exact Nat.ne_of_lt (blk_lt (blk_below BK208.out bll)) : gb208 ≠ gb225)); have n7_ := Aside0.mk ((by rw [hg]; exact Nat.ne_of_gt (blk_lt (blk_below BK208.out bll)) : gb225 ≠ gb208)); have n8_ := Aside0.mk ((by rw [hg]; exact Nat.ne_of_lt (blk_lt (blk_below BK217.out bll)) : gb217 ≠ gb225)); have n9_ := Aside0.mk ((by rw [hg]; exact Nat.ne_of_gt (blk_lt (blk_below BK217.out bll)) : gb225 ≠ gb217)); clear BK208; clear BK217; clear HB; have BK208 := n0_; have BK217 := n1_; have HB := n2_; have BK225 := n3_; have GW225 := n4_; have GE225 := n5_; have NB208_225 := n6_; have NB225_208 := n7_; have NB217_225 := n8_; have NB225_217 := n9_; clear n0_ n1_ n2_ n3_ n4_ n5_ n6_ n7_ n8_ n9_; clear hb hbox hg; have hnb139 := NB225_208.out; have hnc139 := NB208_225.out; have hnb140 := NB225_217.out; have hnc140 := NB217_225.out; have hcz141_0 := cl0 BK225.out; have hfz141_0 := blk_frozen BK225.out 0; have hcz142_1 := cl1 BK225.out; have hfz142_1 := blk_frozen BK225.out 1; have hcz143_2 := cl2 BK225.out; have hfz143_2 := blk_frozen BK225.out 2; have hcz144_3 := cl3 BK225.out; have hfz144_3 := blk_frozen BK225.out 3; have hcz145_4 := cl4 BK225.out; have hfz145_4 := blk_frozen BK225.out 4; have hcz146_5 := cl5 BK225.out; have hfz146_5 := blk_frozen BK225.out 5; have hcz147_0 := cl0 BK208.out; have hcz147_1 := cl1 BK208.out; have hcz147_2 := cl2 BK208.out; have hcz147_3 := cl3 BK208.out; have hcz147_4 := cl4 BK208.out; have hcz147_5 := cl5 BK208.out; have hfz147_0 := blk_frozen BK208.out 0; have hfz147_1 := blk_frozen BK208.out 1; have hfz147_2 := blk_frozen BK208.out 2; have hfz147_3 := blk_frozen BK208.out 3; have hfz147_4 := blk_frozen BK208.out 4; have hfz147_5 := blk_frozen BK208.out 5) | ((with_reducible refine gate_callee (f := 15) rfl ?_); refine goesL_ (some 45) rfl rfl Try.func15 (by kernel_rfl) rfl #[.agg #[.int .i64 a1_0, .int .i64 a1_1, .string a1_2, .string a1_3, .string a1_4, .int .i64 a1_5]] rfl gAr ?_; (with_reducible refine (entry_Put.calls kj2 a1_0 a1_1 a1_2 a1_3 a1_4 a1_5 t226 t227 _ A17.out).mono ?_); rintro e w148 ⟨rfl, hb⟩; refine ⟨_, rfl, ?_⟩; have n0_ := Aside0.mk (blk_below (g := gb208) blk hb); have n1_ := Aside0.mk (blk_below (g := gb217) blk hb); have n2_ := Aside0.mk (blk_below (g := gb225) (o := .cells #[.int .i64 t218, .int .i64 t219, .string t220, .string t221, .string t222, .int .i64 t223] 23 (0, 0)) (blk) hb); have n3_ := Aside0.mk (below_step (bel) hb); clear BK208; clear BK217; clear BK225; clear HB; have BK208 := n0_; have BK217 := n1_; have BK225 := n2_; have HB := n3_; clear n0_ n1_ n2_ n3_; (try clear hb); have hcz149_0 := cl0 BK208.out; have hcz149_1 := cl1 BK208.out; have hcz149_2 := cl2 BK208.out; have hcz149_3 := cl3 BK208.out; have hcz149_4 := cl4 BK208.out; have hcz149_5 := cl5 BK208.out; have hfz149_0 := blk_frozen BK208.out 0; have hfz149_1 := blk_frozen BK208.out 1; have hfz149_2 := blk_frozen BK208.out 2; have hfz149_3 := blk_frozen BK208.out 3; have hfz149_4 := blk_frozen BK208.out 4; have hfz149_5 := blk_frozen BK208.out 5) | ((with_reducible refine gate_callee (f := 16) rfl ?_); refine goesL_ (some 50) rfl rfl Try.func16 (by kernel_rfl) rfl #[.agg #[.int .i64 a1_0, .int .i64 a1_1, .string a1_2, .string a1_3, .string a1_4, .int .i64 a1_5]] rfl gAr ?_; (with_reducible refine (roadbookref08_Put.calls kj2 a1_0 a1_1 a1_2 a1_3 a1_4 a1_5 t228 t229 _ A18.out).mono ?_); rintro e w150 ⟨rfl, hb⟩; refine ⟨_, rfl, ?_⟩; have n0_ := Aside0.mk (blk_below (blk_below BK208.out bll) hb); have n1_ := Aside0.mk (blk_below (blk_below BK217.out bll) hb); have n2_ := Aside0.mk (blk_below (blk_below BK225.out bll) hb); have n3_ := Aside0.mk (below_step (bel) hb); clear BK208; clear BK217; clear BK225; clear HB; have BK208 := n0_; have BK217 := n1_; have BK225 := n2_; have HB := n3_; clear n0_ n1_ n2_ n3_; (try clear hb)) | ((with_reducible refine gate_callee (f := 12) rfl ?_); refine goesL_ (some 53) rfl rfl Try.func12 (by kernel_rfl) rfl #[] rfl gAr ?_; (with_reducible refine (roadbooklaw08_awake.calls kj2  false _ A19.out).mono ?_); rintro e w151 ⟨rfl, hb⟩; refine ⟨_, rfl, ?_⟩; have n0_ := Aside0.mk (blk_below (blk_below BK208.out bll) hb); have n1_ := Aside0.mk (blk_below (blk_below BK217.out bll) hb); have n2_ := Aside0.mk (blk_below (blk_below BK225.out bll) hb); have n3_ := Aside0.mk (below_step (bel) hb); clear BK208; clear BK217; clear BK225; clear HB; have BK208 := n0_; have BK217 := n1_; have BK225 := n2_; have HB := n3_; clear n0_ n1_ n2_ n3_; (try clear hb)))
          go_ret
          exact ⟨rtE, bel⟩

/-- THE ONE PURE STATEMENT of roadbooklaw08_EntryTells. -/
def roadbooklaw08_EntryTells.Pure : Prop := ∀ (a0 : ByteArray) (x1 : S23), a0.size ≤ 140737488351232 → G23 x1 → ∃ k, roadbooklaw08_EntryTells.f k a0 x1.f0 x1.f1 x1.f2 x1.f3 x1.f4 x1.f5 = some true
theorem roadbooklaw08_EntryTells.walk (P : roadbooklaw08_EntryTells.Pure) (a0 : ByteArray) (x1 : S23) (w : World) (g0 : a0.size ≤ 140737488351232) (g1 : G23 x1) :
    Calls Try.prog 3 #[.string a0, .agg #[.int .i64 x1.f0, .int .i64 x1.f1, .string x1.f2, .string x1.f3, .string x1.f4, .int .i64 x1.f5]] w fun e w' => e = .returned (.bool true) ∧ Below w.heap.size w w' := by
  obtain ⟨k, h⟩ := P a0 x1 g0 g1
  refine (roadbooklaw08_EntryTells.calls k a0 x1.f0 x1.f1 x1.f2 x1.f3 x1.f4 x1.f5 true w h).mono ?_
  rintro e w' ⟨rfl, hd⟩
  exact ⟨rfl, hd⟩

end Go.Proofs.Ytjgnpggpgkkknaa.Pr
