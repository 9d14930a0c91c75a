-- Written by wip/tools/xprint.py of this repo over the kit's printer, out of the translation. Lean checks it.
import Derived.Test.YtjgnpggpgkkknaaPr0
import Derived.Test.YtjgnpggpgkkknaaPr9
namespace Go.Proofs.Ytjgnpggpgkkknaa.Pr
open Go.RowKit Go.Proofs.YtjgnpggpgkkknaaW.PrintWords Go.Proofs.YtjgnpggpgkkknaaW.PrintLast Go.Proofs.YtjgnpggpgkkknaaW.PrintMore
attribute [local go_sem] max2_int min2_int max_two min_two max_three min_three max_four min_four   -- for this text's walks alone
set_option linter.unusedVariables false
set_option linter.unusedSimpArgs false

/-! ### roadbookref02_Put: function 44 -/
def roadbookref02_Put.l0 : Nat → Int → Int → ByteArray → Int → Option (ByteArray × Bool)
  | 0, _, _, _, _ => none
  | k + 1, x0, x1, x6, x7 => if x7 < x1 then ((some (([(Int.tmod x0 256) % 256] : List Int) : List Int)).bind fun y198 => (if (strOfNums y198).size + x6.size ≤ 9223372036854775807 then (roadbookref02_Put.l0 k (wrap64 (Int.tdiv x0 256)) x1 ((strOfNums y198) ++ x6) (wrap64 (x7 + 1))) else (none))) else (some (x6, true))
def roadbookref02_Put.f (k : Nat) (a0 : Int) (a1 : Int) : Option (ByteArray × Bool) := (roadbookref02_Fits.f k a0 a1).bind fun t197 => (if t197 = true then (roadbookref02_Put.l0 k a0 a1 (⟨#[]⟩ : ByteArray) 0) else (some ((⟨#[]⟩ : ByteArray), false)))
theorem roadbookref02_Put.mono_l : ∀ k, (∀ y0 y1 y2 y3, LeO (roadbookref02_Put.l0 k y0 y1 y2 y3) (roadbookref02_Put.l0 (k + 1) y0 y1 y2 y3))
  | 0 => fun _ _ _ _ r h => by simp [roadbookref02_Put.l0] at h
  | k + 1 => by
    have ih0 := roadbookref02_Put.mono_l k
    · intro y0 y1 y2 y3
      unfold roadbookref02_Put.l0
      repeat' first
      | (with_reducible exact ih0 _ _ _ _)
      | (with_reducible exact roadbookref02_Fits.mono _ _ _)
      | (with_reducible exact LeO.refl _)
      | (with_reducible exact LeO.none _)
      | (with_reducible refine LeO.ite ?_ ?_)
      | (with_reducible refine LeO.bind ?_ (fun _ => ?_))
      | exact ih0 _ _ _ _
      | exact roadbookref02_Fits.mono _ _ _
      | exact LeO.none _
      | refine LeO.ite ?_ ?_
      | refine LeO.bind ?_ (fun _ => ?_)
theorem roadbookref02_Put.mono : ∀ a0 a1 k, LeO (roadbookref02_Put.f k a0 a1) (roadbookref02_Put.f (k + 1) a0 a1) := by
  intro a0 a1 k
  have ih0 := roadbookref02_Put.mono_l k
  unfold roadbookref02_Put.f
  repeat' first
      | (with_reducible exact ih0 _ _ _ _)
      | (with_reducible exact roadbookref02_Fits.mono _ _ _)
      | (with_reducible exact LeO.refl _)
      | (with_reducible exact LeO.none _)
      | (with_reducible refine LeO.ite ?_ ?_)
      | (with_reducible refine LeO.bind ?_ (fun _ => ?_))
      | exact ih0 _ _ _ _
      | exact roadbookref02_Fits.mono _ _ _
      | exact LeO.none _
      | refine LeO.ite ?_ ?_
      | refine LeO.bind ?_ (fun _ => ?_)
set_option maxHeartbeats 8000000 in
set_option maxRecDepth 100000 in
theorem roadbookref02_Put.calls (k : Nat) (a0 : Int) (a1 : Int) (r1 : ByteArray) (r2 : Bool) (w : World) (h : roadbookref02_Put.f k a0 a1 = some (r1, r2)) :
    Calls Try.prog 44 #[.int .i64 a0, .int .i64 a1] w fun e w' => e = .returned (.tuple #[.string r1, .bool r2]) ∧ Below w.heap.size w w' := by
  have HB := Aside0.mk (Below.refl w.heap.size w)
  have H : ((roadbookref02_Fits.f k a0 a1).bind fun t197 => (if t197 = true then (roadbookref02_Put.l0 k a0 a1 (⟨#[]⟩ : ByteArray) 0) else (some ((⟨#[]⟩ : ByteArray), false)))) = some (r1, r2) := h
  clear h
  replace H := Option.bind_eq_some_iff.mp H
  obtain ⟨t197, A30, H⟩ := H
  replace H : (if t197 = true then (roadbookref02_Put.l0 k a0 a1 (⟨#[]⟩ : ByteArray) 0) else (some ((⟨#[]⟩ : ByteArray), false))) = some (r1, r2) := H
  have A3 := Aside0.mk A30
  clear A30
  by_cases c4 : t197 = true
  · subst c4
    have H1 : (roadbookref02_Put.l0 k a0 a1 (⟨#[]⟩ : ByteArray) 0) = some (r1, r2) := by rw [if_pos rfl] at H; exact H
    clear H
    have H := H1
    clear H1
    have H' := Aside0.mk H
    clear H
    go_enter Try.func44, Try.ntmps44
    go_wp2_with (first | ((with_reducible refine gate_callee (f := 57) rfl ?_); refine goesL_ (some 10) rfl rfl Try.func57 (by kernel_rfl) rfl #[.int .i64 a0, .int .i64 a1] rfl gAr ?_; (with_reducible refine (roadbookref02_Fits.calls k a0 a1 true _ A3.out).mono ?_); rintro e w' ⟨rfl, ⟨nd, rfl⟩⟩; refine ⟨_, rfl, ?_⟩))
    go_loopg [0, 6, 7] k (fun kq v0 v6 v7 w' => ∃ (x0_1 : Int) (x6_1 : ByteArray) (x7_1 : Int), v0 = .int .i64 x0_1 ∧ v6 = .string x6_1 ∧ v7 = .int .i64 x7_1 ∧ Aside0 (roadbookref02_Put.l0 kq x0_1 a1 x6_1 x7_1 = some (r1, r2)) ∧ Aside0 (kq ≤ k) ∧ Aside0 (Below w.heap.size w w'))
    case atStart => exact ⟨(a0), ((⟨#[]⟩ : ByteArray)), (0), rfS, rfS, rfS, H', ⟨Nat.le_refl _⟩, ⟨bel⟩⟩
    case round =>
      clear H'
      try clear p2
      try clear c4
      obtain ⟨x0_1, x6_1, x7_1, rfl, rfl, rfl, HA, HK1, HB⟩ := hrel
      cases gk with
      | zero => exact absurd HA.out (by simp [roadbookref02_Put.l0])
      | succ k1 =>
        have H := HA.out
        clear HA
        simp only [roadbookref02_Put.l0] at H
        by_cases c5 : x7_1 < a1
        · rw [if_pos c5] at H
          have c5b0 : decide (x7_1 < a1) = true := decide_eq_true c5
          clear c5
          obtain ⟨y198, hy198⟩ : ∃ y_ : List Int, y_ = (([(Int.tmod x0_1 256) % 256] : List Int)) := ⟨_, rfl⟩
          replace H : (if (strOfNums y198).size + x6_1.size ≤ 9223372036854775807 then (roadbookref02_Put.l0 k1 (wrap64 (Int.tdiv x0_1 256)) a1 ((strOfNums y198) ++ x6_1) (wrap64 (x7_1 + 1))) else (none)) = some (r1, r2) := by first | (rw [hy198]; with_reducible exact H) | (have H2_ := (Option.bind_some _ _).symm.trans H; rw [hy198]; with_reducible exact H2_) | (have H2_ := (Option.bind_some _ _).symm.trans H; with_reducible exact H2_) | with_reducible exact H | (rw [hy198]; exact H) | exact H
          have Ny198 := Aside0.mk hy198
          clear hy198
          by_cases c6 : (strOfNums y198).size + x6_1.size ≤ 9223372036854775807
          · rw [if_pos c6] at H
            have c6b0 := eq_true c6
            have c6b1 : decide ((strOfNums y198).size + x6_1.size ≤ 9223372036854775807) = true := decide_eq_true c6
            try have c6b2 : (9223372036854775807 < (strOfNums y198).size + x6_1.size) = False := eq_false (Nat.not_lt.2 c6)
            have H' := Aside0.mk H
            clear H
            go_wp2_with (first | ((with_reducible refine gate_dst (N := 20) rfl ?_); refine Kd.R_lit (Kd.int .u8) _ 5 ?hg (N := 20) ?hd (xs := ([(Int.tmod x0_1 256) % 256] : List Int)) (inner := [.int .u8 ((Int.tmod x0_1 256) % 256)]) (ok := fun _ => True) (okp := fun _ => True) ?hr ?hp (fun _ hk => hk) trivial (Below.refl _ _) (Nat.le_refl _) (by simp) ?_; (case hd => rfl); (case hg => rfl); (case hr => first | (go_simp; done) | (go_simp; rfl)); (case hp => exact (Reps.one (show Kd.M (Kd.int .u8) _ _ _ ((Int.tmod x0_1 256) % 256) [.int .u8 ((Int.tmod x0_1 256) % 256)] from rfl) (Reps.none _ _))); intro v199 w7 ho8 hb hg_ hnew_; clear hg_ hnew_; (first | rw [← Ny198.out] at ho8 | (simp only [Int.reduceToNat] at ho8; rw [← Ny198.out] at ho8)); have n0_ := Aside0.mk (Kd.R_lower ho8 bsz); have n1_ := Aside0.mk (below_step (bel) hb); clear HB; have HO200 := n0_; have HB := n1_; clear n0_ n1_; clear hb ho8; have hcv9 := own_string (P := Try.prog) Try.underlying55 Try.underlying5 Try.underlying9 (Kd.own_of_R HO200.out)))
            go_roundg k1
            case measure => have := HK1.out; omega
            case rel => exact ⟨(wrap64 (Int.tdiv x0_1 256)), ((strOfNums y198) ++ x6_1), (wrap64 (x7_1 + 1)), rfS, rfS, rfS, H', ⟨by have := HK1.out; omega⟩, ⟨bel⟩⟩
          · rw [if_neg c6] at H
            exact absurd H (by simp)
        · rw [if_neg c5] at H
          have c5b0 : decide (x7_1 < a1) = false := decide_eq_false c5
          clear c5
          simp only [Option.some.injEq, Prod.mk.injEq] at H
          obtain ⟨rfl, rfl⟩ := H
          go_wp2
          go_ret2
          exact ⟨rtE, bel⟩
  · replace c4 := Bool.eq_false_iff.mpr c4
    subst c4
    have H1 : (some ((⟨#[]⟩ : ByteArray), false)) = some (r1, r2) := by rw [if_neg (show ¬ (false = true) by decide)] at H; exact H
    clear H
    have H := H1
    clear H1
    simp only [Option.some.injEq, Prod.mk.injEq] at H
    obtain ⟨rfl, rfl⟩ := H
    go_enter Try.func44, Try.ntmps44
    go_wp2_with (first | ((with_reducible refine gate_callee (f := 57) rfl ?_); refine goesL_ (some 10) rfl rfl Try.func57 (by kernel_rfl) rfl #[.int .i64 a0, .int .i64 a1] rfl gAr ?_; (with_reducible refine (roadbookref02_Fits.calls k a0 a1 false _ A3.out).mono ?_); rintro e w' ⟨rfl, ⟨nd, rfl⟩⟩; refine ⟨_, rfl, ?_⟩))
    go_ret2
    exact ⟨rtE, bel⟩

/-! ### roadbookref08_Put: function 16 -/
def roadbookref08_Put.f (k : Nat) (a0_0 : Int) (a0_1 : Int) (a0_2 : ByteArray) (a0_3 : ByteArray) (a0_4 : ByteArray) (a0_5 : Int) : Option (ByteArray × Bool) := (roadbookref02_Put.f k a0_0 2).bind fun bt202 => ((roadbookref02_Put.f k a0_1 2).bind fun bt204 => ((roadbookref02_Put.f k a0_5 4).bind fun bt206 => (if bt202.2 = true then (if bt204.2 = true then (if bt206.2 = true then (if (a0_2.size : Int) = 4 then (if (a0_3.size : Int) = 4 then (if (a0_4.size : Int) = 4 then (if bt202.1.size + bt204.1.size ≤ 9223372036854775807 then (if (bt202.1 ++ bt204.1).size + a0_2.size ≤ 9223372036854775807 then (if ((bt202.1 ++ bt204.1) ++ a0_2).size + a0_3.size ≤ 9223372036854775807 then (if (((bt202.1 ++ bt204.1) ++ a0_2) ++ a0_3).size + a0_4.size ≤ 9223372036854775807 then (if ((((bt202.1 ++ bt204.1) ++ a0_2) ++ a0_3) ++ a0_4).size + bt206.1.size ≤ 9223372036854775807 then (some (((((bt202.1 ++ bt204.1) ++ a0_2) ++ a0_3) ++ a0_4) ++ bt206.1, true)) else (none)) else (none)) else (none)) else (none)) else (none)) else (some ((⟨#[]⟩ : ByteArray), false))) else (some ((⟨#[]⟩ : ByteArray), false))) else (some ((⟨#[]⟩ : ByteArray), false))) else (some ((⟨#[]⟩ : ByteArray), false))) else (some ((⟨#[]⟩ : ByteArray), false))) else (some ((⟨#[]⟩ : ByteArray), false)))))
theorem roadbookref08_Put.mono : ∀ a0 a1 a2 a3 a4 a5 k, LeO (roadbookref08_Put.f k a0 a1 a2 a3 a4 a5) (roadbookref08_Put.f (k + 1) a0 a1 a2 a3 a4 a5) := by
  intro a0 a1 a2 a3 a4 a5 k
  unfold roadbookref08_Put.f
  repeat' first
      | (with_reducible exact roadbookref02_Put.mono _ _ _)
      | (with_reducible exact LeO.refl _)
      | (with_reducible exact LeO.none _)
      | (with_reducible refine LeO.ite ?_ ?_)
      | (with_reducible refine LeO.bind ?_ (fun _ => ?_))
      | exact roadbookref02_Put.mono _ _ _
      | exact LeO.none _
      | refine LeO.ite ?_ ?_
      | refine LeO.bind ?_ (fun _ => ?_)
set_option maxHeartbeats 8000000 in
set_option maxRecDepth 100000 in
theorem roadbookref08_Put.calls (k : Nat) (a0_0 : Int) (a0_1 : Int) (a0_2 : ByteArray) (a0_3 : ByteArray) (a0_4 : ByteArray) (a0_5 : Int) (r1 : ByteArray) (r2 : Bool) (w : World) (h : roadbookref08_Put.f k a0_0 a0_1 a0_2 a0_3 a0_4 a0_5 = some (r1, r2)) :
    Calls Try.prog 16 #[.agg #[.int .i64 a0_0, .int .i64 a0_1, .string a0_2, .string a0_3, .string a0_4, .int .i64 a0_5]] w fun e w' => e = .returned (.tuple #[.string r1, .bool r2]) ∧ Below w.heap.size w w' := by
  have hu23 := Try.underlying23
  have HB := Aside0.mk (Below.refl w.heap.size w)
  have H : ((roadbookref02_Put.f k a0_0 2).bind fun bt202 => ((roadbookref02_Put.f k a0_1 2).bind fun bt204 => ((roadbookref02_Put.f k a0_5 4).bind fun bt206 => (if bt202.2 = true then (if bt204.2 = true then (if bt206.2 = true then (if (a0_2.size : Int) = 4 then (if (a0_3.size : Int) = 4 then (if (a0_4.size : Int) = 4 then (if bt202.1.size + bt204.1.size ≤ 9223372036854775807 then (if (bt202.1 ++ bt204.1).size + a0_2.size ≤ 9223372036854775807 then (if ((bt202.1 ++ bt204.1) ++ a0_2).size + a0_3.size ≤ 9223372036854775807 then (if (((bt202.1 ++ bt204.1) ++ a0_2) ++ a0_3).size + a0_4.size ≤ 9223372036854775807 then (if ((((bt202.1 ++ bt204.1) ++ a0_2) ++ a0_3) ++ a0_4).size + bt206.1.size ≤ 9223372036854775807 then (some (((((bt202.1 ++ bt204.1) ++ a0_2) ++ a0_3) ++ a0_4) ++ bt206.1, true)) else (none)) else (none)) else (none)) else (none)) else (none)) else (some ((⟨#[]⟩ : ByteArray), false))) else (some ((⟨#[]⟩ : ByteArray), false))) else (some ((⟨#[]⟩ : ByteArray), false))) else (some ((⟨#[]⟩ : ByteArray), false))) else (some ((⟨#[]⟩ : ByteArray), false))) else (some ((⟨#[]⟩ : ByteArray), false)))))) = some (r1, r2) := h
  clear h
  replace H := Option.bind_eq_some_iff.mp H
  obtain ⟨⟨t202, t203⟩, A20, H⟩ := H
  replace H : ((roadbookref02_Put.f k a0_1 2).bind fun bt204 => ((roadbookref02_Put.f k a0_5 4).bind fun bt206 => (if t203 = true then (if bt204.2 = true then (if bt206.2 = true then (if (a0_2.size : Int) = 4 then (if (a0_3.size : Int) = 4 then (if (a0_4.size : Int) = 4 then (if t202.size + bt204.1.size ≤ 9223372036854775807 then (if (t202 ++ bt204.1).size + a0_2.size ≤ 9223372036854775807 then (if ((t202 ++ bt204.1) ++ a0_2).size + a0_3.size ≤ 9223372036854775807 then (if (((t202 ++ bt204.1) ++ a0_2) ++ a0_3).size + a0_4.size ≤ 9223372036854775807 then (if ((((t202 ++ bt204.1) ++ a0_2) ++ a0_3) ++ a0_4).size + bt206.1.size ≤ 9223372036854775807 then (some (((((t202 ++ bt204.1) ++ a0_2) ++ a0_3) ++ a0_4) ++ bt206.1, true)) else (none)) else (none)) else (none)) else (none)) else (none)) else (some ((⟨#[]⟩ : ByteArray), false))) else (some ((⟨#[]⟩ : ByteArray), false))) else (some ((⟨#[]⟩ : ByteArray), false))) else (some ((⟨#[]⟩ : ByteArray), false))) else (some ((⟨#[]⟩ : ByteArray), false))) else (some ((⟨#[]⟩ : ByteArray), false))))) = some (r1, r2) := H
  have A2 := Aside0.mk A20
  clear A20
  replace H := Option.bind_eq_some_iff.mp H
  obtain ⟨⟨t204, t205⟩, A30, H⟩ := H
  replace H : ((roadbookref02_Put.f k a0_5 4).bind fun bt206 => (if t203 = true then (if t205 = true then (if bt206.2 = true then (if (a0_2.size : Int) = 4 then (if (a0_3.size : Int) = 4 then (if (a0_4.size : Int) = 4 then (if t202.size + t204.size ≤ 9223372036854775807 then (if (t202 ++ t204).size + a0_2.size ≤ 9223372036854775807 then (if ((t202 ++ t204) ++ a0_2).size + a0_3.size ≤ 9223372036854775807 then (if (((t202 ++ t204) ++ a0_2) ++ a0_3).size + a0_4.size ≤ 9223372036854775807 then (if ((((t202 ++ t204) ++ a0_2) ++ a0_3) ++ a0_4).size + bt206.1.size ≤ 9223372036854775807 then (some (((((t202 ++ t204) ++ a0_2) ++ a0_3) ++ a0_4) ++ bt206.1, true)) else (none)) else (none)) else (none)) else (none)) else (none)) else (some ((⟨#[]⟩ : ByteArray), false))) else (some ((⟨#[]⟩ : ByteArray), false))) else (some ((⟨#[]⟩ : ByteArray), false))) else (some ((⟨#[]⟩ : ByteArray), false))) else (some ((⟨#[]⟩ : ByteArray), false))) else (some ((⟨#[]⟩ : ByteArray), false)))) = some (r1, r2) := H
  have A3 := Aside0.mk A30
  clear A30
  replace H := Option.bind_eq_some_iff.mp H
  obtain ⟨⟨t206, t207⟩, A40, H⟩ := H
  replace H : (if t203 = true then (if t205 = true then (if t207 = true then (if (a0_2.size : Int) = 4 then (if (a0_3.size : Int) = 4 then (if (a0_4.size : Int) = 4 then (if t202.size + t204.size ≤ 9223372036854775807 then (if (t202 ++ t204).size + a0_2.size ≤ 9223372036854775807 then (if ((t202 ++ t204) ++ a0_2).size + a0_3.size ≤ 9223372036854775807 then (if (((t202 ++ t204) ++ a0_2) ++ a0_3).size + a0_4.size ≤ 9223372036854775807 then (if ((((t202 ++ t204) ++ a0_2) ++ a0_3) ++ a0_4).size + t206.size ≤ 9223372036854775807 then (some (((((t202 ++ t204) ++ a0_2) ++ a0_3) ++ a0_4) ++ t206, true)) else (none)) else (none)) else (none)) else (none)) else (none)) else (some ((⟨#[]⟩ : ByteArray), false))) else (some ((⟨#[]⟩ : ByteArray), false))) else (some ((⟨#[]⟩ : ByteArray), false))) else (some ((⟨#[]⟩ : ByteArray), false))) else (some ((⟨#[]⟩ : ByteArray), false))) else (some ((⟨#[]⟩ : ByteArray), false))) = some (r1, r2) := H
  have A4 := Aside0.mk A40
  clear A40
  by_cases c5 : t203 = true
  · subst c5
    have H1 : (if t205 = true then (if t207 = true then (if (a0_2.size : Int) = 4 then (if (a0_3.size : Int) = 4 then (if (a0_4.size : Int) = 4 then (if t202.size + t204.size ≤ 9223372036854775807 then (if (t202 ++ t204).size + a0_2.size ≤ 9223372036854775807 then (if ((t202 ++ t204) ++ a0_2).size + a0_3.size ≤ 9223372036854775807 then (if (((t202 ++ t204) ++ a0_2) ++ a0_3).size + a0_4.size ≤ 9223372036854775807 then (if ((((t202 ++ t204) ++ a0_2) ++ a0_3) ++ a0_4).size + t206.size ≤ 9223372036854775807 then (some (((((t202 ++ t204) ++ a0_2) ++ a0_3) ++ a0_4) ++ t206, true)) else (none)) else (none)) else (none)) else (none)) else (none)) else (some ((⟨#[]⟩ : ByteArray), false))) else (some ((⟨#[]⟩ : ByteArray), false))) else (some ((⟨#[]⟩ : ByteArray), false))) else (some ((⟨#[]⟩ : ByteArray), false))) else (some ((⟨#[]⟩ : ByteArray), false))) = some (r1, r2) := by rw [if_pos rfl] at H; exact H
    clear H
    have H := H1
    clear H1
    by_cases c6 : t205 = true
    · subst c6
      have H1 : (if t207 = true then (if (a0_2.size : Int) = 4 then (if (a0_3.size : Int) = 4 then (if (a0_4.size : Int) = 4 then (if t202.size + t204.size ≤ 9223372036854775807 then (if (t202 ++ t204).size + a0_2.size ≤ 9223372036854775807 then (if ((t202 ++ t204) ++ a0_2).size + a0_3.size ≤ 9223372036854775807 then (if (((t202 ++ t204) ++ a0_2) ++ a0_3).size + a0_4.size ≤ 9223372036854775807 then (if ((((t202 ++ t204) ++ a0_2) ++ a0_3) ++ a0_4).size + t206.size ≤ 9223372036854775807 then (some (((((t202 ++ t204) ++ a0_2) ++ a0_3) ++ a0_4) ++ t206, true)) else (none)) else (none)) else (none)) else (none)) else (none)) else (some ((⟨#[]⟩ : ByteArray), false))) else (some ((⟨#[]⟩ : ByteArray), false))) else (some ((⟨#[]⟩ : ByteArray), false))) else (some ((⟨#[]⟩ : ByteArray), false))) = some (r1, r2) := by rw [if_pos rfl] at H; exact H
      clear H
      have H := H1
      clear H1
      by_cases c7 : t207 = true
      · subst c7
        have H1 : (if (a0_2.size : Int) = 4 then (if (a0_3.size : Int) = 4 then (if (a0_4.size : Int) = 4 then (if t202.size + t204.size ≤ 9223372036854775807 then (if (t202 ++ t204).size + a0_2.size ≤ 9223372036854775807 then (if ((t202 ++ t204) ++ a0_2).size + a0_3.size ≤ 9223372036854775807 then (if (((t202 ++ t204) ++ a0_2) ++ a0_3).size + a0_4.size ≤ 9223372036854775807 then (if ((((t202 ++ t204) ++ a0_2) ++ a0_3) ++ a0_4).size + t206.size ≤ 9223372036854775807 then (some (((((t202 ++ t204) ++ a0_2) ++ a0_3) ++ a0_4) ++ t206, true)) else (none)) else (none)) else (none)) else (none)) else (none)) else (some ((⟨#[]⟩ : ByteArray), false))) else (some ((⟨#[]⟩ : ByteArray), false))) else (some ((⟨#[]⟩ : ByteArray), false))) = some (r1, r2) := by rw [if_pos rfl] at H; exact H
        clear H
        have H := H1
        clear H1
        by_cases c8 : (a0_2.size : Int) = 4
        · rw [if_pos c8] at H
          have c8b0 : ((a0_2.size : Int) == 4) = true := beq_iff_eq.mpr c8
          have c8b1 : ((a0_2.size : Int) != 4) = false := bne_eq_false_iff_eq.mpr c8
          clear c8
          by_cases c9 : (a0_3.size : Int) = 4
          · rw [if_pos c9] at H
            have c9b0 : ((a0_3.size : Int) == 4) = true := beq_iff_eq.mpr c9
            have c9b1 : ((a0_3.size : Int) != 4) = false := bne_eq_false_iff_eq.mpr c9
            clear c9
            by_cases c10 : (a0_4.size : Int) = 4
            · rw [if_pos c10] at H
              have c10b0 : ((a0_4.size : Int) == 4) = true := beq_iff_eq.mpr c10
              have c10b1 : ((a0_4.size : Int) != 4) = false := bne_eq_false_iff_eq.mpr c10
              clear c10
              by_cases c11 : t202.size + t204.size ≤ 9223372036854775807
              · rw [if_pos c11] at H
                have c11b0 := eq_true c11
                have c11b1 : decide (t202.size + t204.size ≤ 9223372036854775807) = true := decide_eq_true c11
                try have c11b2 : (9223372036854775807 < t202.size + t204.size) = False := eq_false (Nat.not_lt.2 c11)
                by_cases c12 : (t202 ++ t204).size + a0_2.size ≤ 9223372036854775807
                · rw [if_pos c12] at H
                  have c12b0 := eq_true c12
                  have c12b1 : decide ((t202 ++ t204).size + a0_2.size ≤ 9223372036854775807) = true := decide_eq_true c12
                  try have c12b2 : (9223372036854775807 < (t202 ++ t204).size + a0_2.size) = False := eq_false (Nat.not_lt.2 c12)
                  by_cases c13 : ((t202 ++ t204) ++ a0_2).size + a0_3.size ≤ 9223372036854775807
                  · rw [if_pos c13] at H
                    have c13b0 := eq_true c13
                    have c13b1 : decide (((t202 ++ t204) ++ a0_2).size + a0_3.size ≤ 9223372036854775807) = true := decide_eq_true c13
                    try have c13b2 : (9223372036854775807 < ((t202 ++ t204) ++ a0_2).size + a0_3.size) = False := eq_false (Nat.not_lt.2 c13)
                    by_cases c14 : (((t202 ++ t204) ++ a0_2) ++ a0_3).size + a0_4.size ≤ 9223372036854775807
                    · rw [if_pos c14] at H
                      have c14b0 := eq_true c14
                      have c14b1 : decide ((((t202 ++ t204) ++ a0_2) ++ a0_3).size + a0_4.size ≤ 9223372036854775807) = true := decide_eq_true c14
                      try have c14b2 : (9223372036854775807 < (((t202 ++ t204) ++ a0_2) ++ a0_3).size + a0_4.size) = False := eq_false (Nat.not_lt.2 c14)
                      by_cases c15 : ((((t202 ++ t204) ++ a0_2) ++ a0_3) ++ a0_4).size + t206.size ≤ 9223372036854775807
                      · rw [if_pos c15] at H
                        have c15b0 := eq_true c15
                        have c15b1 : decide (((((t202 ++ t204) ++ a0_2) ++ a0_3) ++ a0_4).size + t206.size ≤ 9223372036854775807) = true := decide_eq_true c15
                        try have c15b2 : (9223372036854775807 < ((((t202 ++ t204) ++ a0_2) ++ a0_3) ++ a0_4).size + t206.size) = False := eq_false (Nat.not_lt.2 c15)
                        simp only [Option.some.injEq, Prod.mk.injEq] at H
                        obtain ⟨rfl, rfl⟩ := H
                        go_enter Try.func16, Try.ntmps16
                        go_wp2_with (first | ((with_reducible refine gate_dst (N := 1) rfl ?_); (try (refine gate_guard (by rfl) ?_; dsimp only)); refine box_event ?hg (N := 1) ?hd (cs := #[.int .i64 a0_0, .int .i64 a0_1, .string a0_2, .string a0_3, .string a0_4, .int .i64 a0_5]) (t := 23) ?hr ?_; (case hd => rfl); (case hg => rfl); (case hr => first | (go_simp; done) | (go_simp; rfl)); intro gb201 hg w16 hbox hb; have n0_ := Aside0.mk (below_step (bel) hb); have n1_ := Aside0.mk (hbox); have n2_ := Aside0.mk ((by rw [hg]; exact bsz : w.heap.size ≤ gb201)); have n3_ := Aside0.mk ((by rw [hg]; exact bsz : w.heap.size ≤ gb201)); clear HB; have HB := n0_; have BK201 := n1_; have GW201 := n2_; have GE201 := n3_; clear n0_ n1_ n2_ n3_; clear hb hbox hg; have hcz17_0 := cl0 BK201.out; have hfz17_0 := blk_frozen BK201.out 0) | ((with_reducible refine gate_callee (f := 44) rfl ?_); refine goesL_ (some 13) rfl rfl Try.func44 (by kernel_rfl) rfl #[.int .i64 a0_0, .int .i64 2] rfl gAr ?_; (with_reducible refine (roadbookref02_Put.calls k a0_0 2 t202 true _ A2.out).mono ?_); rintro e w18 ⟨rfl, hb⟩; refine ⟨_, rfl, ?_⟩; have n0_ := Aside0.mk (blk_below (blk_below BK201.out bll) hb); have n1_ := Aside0.mk (below_step (bel) hb); clear BK201; clear HB; have BK201 := n0_; have HB := n1_; clear n0_ n1_; (try clear hb); have hcz19_1 := cl1 BK201.out; have hfz19_1 := blk_frozen BK201.out 1) | ((with_reducible refine gate_callee (f := 44) rfl ?_); refine goesL_ (some 19) rfl rfl Try.func44 (by kernel_rfl) rfl #[.int .i64 a0_1, .int .i64 2] rfl gAr ?_; (with_reducible refine (roadbookref02_Put.calls k a0_1 2 t204 true _ A3.out).mono ?_); rintro e w20 ⟨rfl, hb⟩; refine ⟨_, rfl, ?_⟩; have n0_ := Aside0.mk (blk_below (blk_below BK201.out bll) hb); have n1_ := Aside0.mk (below_step (bel) hb); clear BK201; clear HB; have BK201 := n0_; have HB := n1_; clear n0_ n1_; (try clear hb); have hcz21_5 := cl5 BK201.out; have hfz21_5 := blk_frozen BK201.out 5) | ((with_reducible refine gate_callee (f := 44) rfl ?_); refine goesL_ (some 25) rfl rfl Try.func44 (by kernel_rfl) rfl #[.int .i64 a0_5, .int .i64 4] rfl gAr ?_; (with_reducible refine (roadbookref02_Put.calls k a0_5 4 t206 true _ A4.out).mono ?_); rintro e w22 ⟨rfl, hb⟩; refine ⟨_, rfl, ?_⟩; have n0_ := Aside0.mk (blk_below (blk_below BK201.out bll) hb); have n1_ := Aside0.mk (below_step (bel) hb); clear BK201; clear HB; have BK201 := n0_; have HB := n1_; clear n0_ n1_; (try clear hb); have hcz23_2 := cl2 BK201.out; have hfz23_2 := blk_frozen BK201.out 2; have hcz24_3 := cl3 BK201.out; have hfz24_3 := blk_frozen BK201.out 3; have hcz25_4 := cl4 BK201.out; have hfz25_4 := blk_frozen BK201.out 4))
                        go_ret2
                        exact ⟨rtE, bel⟩
                      · rw [if_neg c15] at H
                        exact absurd H (by simp)
                    · rw [if_neg c14] at H
                      exact absurd H (by simp)
                  · rw [if_neg c13] at H
                    exact absurd H (by simp)
                · rw [if_neg c12] at H
                  exact absurd H (by simp)
              · rw [if_neg c11] at H
                exact absurd H (by simp)
            · rw [if_neg c10] at H
              have c10b0 : ((a0_4.size : Int) == 4) = false := beq_eq_false_iff_ne.mpr c10
              have c10b1 : ((a0_4.size : Int) != 4) = true := bne_iff_ne.mpr c10
              simp only [Option.some.injEq, Prod.mk.injEq] at H
              obtain ⟨rfl, rfl⟩ := H
              go_enter Try.func16, Try.ntmps16
              go_wp2_with (first | ((with_reducible refine gate_dst (N := 1) rfl ?_); (try (refine gate_guard (by rfl) ?_; dsimp only)); refine box_event ?hg (N := 1) ?hd (cs := #[.int .i64 a0_0, .int .i64 a0_1, .string a0_2, .string a0_3, .string a0_4, .int .i64 a0_5]) (t := 23) ?hr ?_; (case hd => rfl); (case hg => rfl); (case hr => first | (go_simp; done) | (go_simp; rfl)); intro gb201 hg w26 hbox hb; have n0_ := Aside0.mk (below_step (bel) hb); have n1_ := Aside0.mk (hbox); have n2_ := Aside0.mk ((by rw [hg]; exact bsz : w.heap.size ≤ gb201)); have n3_ := Aside0.mk ((by rw [hg]; exact bsz : w.heap.size ≤ gb201)); clear HB; have HB := n0_; have BK201 := n1_; have GW201 := n2_; have GE201 := n3_; clear n0_ n1_ n2_ n3_; clear hb hbox hg; have hcz27_0 := cl0 BK201.out; have hfz27_0 := blk_frozen BK201.out 0) | ((with_reducible refine gate_callee (f := 44) rfl ?_); refine goesL_ (some 13) rfl rfl Try.func44 (by kernel_rfl) rfl #[.int .i64 a0_0, .int .i64 2] rfl gAr ?_; (with_reducible refine (roadbookref02_Put.calls k a0_0 2 t202 true _ A2.out).mono ?_); rintro e w28 ⟨rfl, hb⟩; refine ⟨_, rfl, ?_⟩; have n0_ := Aside0.mk (blk_below (blk_below BK201.out bll) hb); have n1_ := Aside0.mk (below_step (bel) hb); clear BK201; clear HB; have BK201 := n0_; have HB := n1_; clear n0_ n1_; (try clear hb); have hcz29_1 := cl1 BK201.out; have hfz29_1 := blk_frozen BK201.out 1) | ((with_reducible refine gate_callee (f := 44) rfl ?_); refine goesL_ (some 19) rfl rfl Try.func44 (by kernel_rfl) rfl #[.int .i64 a0_1, .int .i64 2] rfl gAr ?_; (with_reducible refine (roadbookref02_Put.calls k a0_1 2 t204 true _ A3.out).mono ?_); rintro e w30 ⟨rfl, hb⟩; refine ⟨_, rfl, ?_⟩; have n0_ := Aside0.mk (blk_below (blk_below BK201.out bll) hb); have n1_ := Aside0.mk (below_step (bel) hb); clear BK201; clear HB; have BK201 := n0_; have HB := n1_; clear n0_ n1_; (try clear hb); have hcz31_5 := cl5 BK201.out; have hfz31_5 := blk_frozen BK201.out 5) | ((with_reducible refine gate_callee (f := 44) rfl ?_); refine goesL_ (some 25) rfl rfl Try.func44 (by kernel_rfl) rfl #[.int .i64 a0_5, .int .i64 4] rfl gAr ?_; (with_reducible refine (roadbookref02_Put.calls k a0_5 4 t206 true _ A4.out).mono ?_); rintro e w32 ⟨rfl, hb⟩; refine ⟨_, rfl, ?_⟩; have n0_ := Aside0.mk (blk_below (blk_below BK201.out bll) hb); have n1_ := Aside0.mk (below_step (bel) hb); clear BK201; clear HB; have BK201 := n0_; have HB := n1_; clear n0_ n1_; (try clear hb); have hcz33_2 := cl2 BK201.out; have hfz33_2 := blk_frozen BK201.out 2; have hcz34_3 := cl3 BK201.out; have hfz34_3 := blk_frozen BK201.out 3; have hcz35_4 := cl4 BK201.out; have hfz35_4 := blk_frozen BK201.out 4))
              go_ret2
              exact ⟨rtE, bel⟩
          · rw [if_neg c9] at H
            have c9b0 : ((a0_3.size : Int) == 4) = false := beq_eq_false_iff_ne.mpr c9
            have c9b1 : ((a0_3.size : Int) != 4) = true := bne_iff_ne.mpr c9
            simp only [Option.some.injEq, Prod.mk.injEq] at H
            obtain ⟨rfl, rfl⟩ := H
            go_enter Try.func16, Try.ntmps16
            go_wp2_with (first | ((with_reducible refine gate_dst (N := 1) rfl ?_); (try (refine gate_guard (by rfl) ?_; dsimp only)); refine box_event ?hg (N := 1) ?hd (cs := #[.int .i64 a0_0, .int .i64 a0_1, .string a0_2, .string a0_3, .string a0_4, .int .i64 a0_5]) (t := 23) ?hr ?_; (case hd => rfl); (case hg => rfl); (case hr => first | (go_simp; done) | (go_simp; rfl)); intro gb201 hg w36 hbox hb; have n0_ := Aside0.mk (below_step (bel) hb); have n1_ := Aside0.mk (hbox); have n2_ := Aside0.mk ((by rw [hg]; exact bsz : w.heap.size ≤ gb201)); have n3_ := Aside0.mk ((by rw [hg]; exact bsz : w.heap.size ≤ gb201)); clear HB; have HB := n0_; have BK201 := n1_; have GW201 := n2_; have GE201 := n3_; clear n0_ n1_ n2_ n3_; clear hb hbox hg; have hcz37_0 := cl0 BK201.out; have hfz37_0 := blk_frozen BK201.out 0) | ((with_reducible refine gate_callee (f := 44) rfl ?_); refine goesL_ (some 13) rfl rfl Try.func44 (by kernel_rfl) rfl #[.int .i64 a0_0, .int .i64 2] rfl gAr ?_; (with_reducible refine (roadbookref02_Put.calls k a0_0 2 t202 true _ A2.out).mono ?_); rintro e w38 ⟨rfl, hb⟩; refine ⟨_, rfl, ?_⟩; have n0_ := Aside0.mk (blk_below (blk_below BK201.out bll) hb); have n1_ := Aside0.mk (below_step (bel) hb); clear BK201; clear HB; have BK201 := n0_; have HB := n1_; clear n0_ n1_; (try clear hb); have hcz39_1 := cl1 BK201.out; have hfz39_1 := blk_frozen BK201.out 1) | ((with_reducible refine gate_callee (f := 44) rfl ?_); refine goesL_ (some 19) rfl rfl Try.func44 (by kernel_rfl) rfl #[.int .i64 a0_1, .int .i64 2] rfl gAr ?_; (with_reducible refine (roadbookref02_Put.calls k a0_1 2 t204 true _ A3.out).mono ?_); rintro e w40 ⟨rfl, hb⟩; refine ⟨_, rfl, ?_⟩; have n0_ := Aside0.mk (blk_below (blk_below BK201.out bll) hb); have n1_ := Aside0.mk (below_step (bel) hb); clear BK201; clear HB; have BK201 := n0_; have HB := n1_; clear n0_ n1_; (try clear hb); have hcz41_5 := cl5 BK201.out; have hfz41_5 := blk_frozen BK201.out 5) | ((with_reducible refine gate_callee (f := 44) rfl ?_); refine goesL_ (some 25) rfl rfl Try.func44 (by kernel_rfl) rfl #[.int .i64 a0_5, .int .i64 4] rfl gAr ?_; (with_reducible refine (roadbookref02_Put.calls k a0_5 4 t206 true _ A4.out).mono ?_); rintro e w42 ⟨rfl, hb⟩; refine ⟨_, rfl, ?_⟩; have n0_ := Aside0.mk (blk_below (blk_below BK201.out bll) hb); have n1_ := Aside0.mk (below_step (bel) hb); clear BK201; clear HB; have BK201 := n0_; have HB := n1_; clear n0_ n1_; (try clear hb); have hcz43_2 := cl2 BK201.out; have hfz43_2 := blk_frozen BK201.out 2; have hcz44_3 := cl3 BK201.out; have hfz44_3 := blk_frozen BK201.out 3))
            go_ret2
            exact ⟨rtE, bel⟩
        · rw [if_neg c8] at H
          have c8b0 : ((a0_2.size : Int) == 4) = false := beq_eq_false_iff_ne.mpr c8
          have c8b1 : ((a0_2.size : Int) != 4) = true := bne_iff_ne.mpr c8
          simp only [Option.some.injEq, Prod.mk.injEq] at H
          obtain ⟨rfl, rfl⟩ := H
          go_enter Try.func16, Try.ntmps16
          go_wp2_with (first | ((with_reducible refine gate_dst (N := 1) rfl ?_); (try (refine gate_guard (by rfl) ?_; dsimp only)); refine box_event ?hg (N := 1) ?hd (cs := #[.int .i64 a0_0, .int .i64 a0_1, .string a0_2, .string a0_3, .string a0_4, .int .i64 a0_5]) (t := 23) ?hr ?_; (case hd => rfl); (case hg => rfl); (case hr => first | (go_simp; done) | (go_simp; rfl)); intro gb201 hg w45 hbox hb; have n0_ := Aside0.mk (below_step (bel) hb); have n1_ := Aside0.mk (hbox); have n2_ := Aside0.mk ((by rw [hg]; exact bsz : w.heap.size ≤ gb201)); have n3_ := Aside0.mk ((by rw [hg]; exact bsz : w.heap.size ≤ gb201)); clear HB; have HB := n0_; have BK201 := n1_; have GW201 := n2_; have GE201 := n3_; clear n0_ n1_ n2_ n3_; clear hb hbox hg; have hcz46_0 := cl0 BK201.out; have hfz46_0 := blk_frozen BK201.out 0) | ((with_reducible refine gate_callee (f := 44) rfl ?_); refine goesL_ (some 13) rfl rfl Try.func44 (by kernel_rfl) rfl #[.int .i64 a0_0, .int .i64 2] rfl gAr ?_; (with_reducible refine (roadbookref02_Put.calls k a0_0 2 t202 true _ A2.out).mono ?_); rintro e w47 ⟨rfl, hb⟩; refine ⟨_, rfl, ?_⟩; have n0_ := Aside0.mk (blk_below (blk_below BK201.out bll) hb); have n1_ := Aside0.mk (below_step (bel) hb); clear BK201; clear HB; have BK201 := n0_; have HB := n1_; clear n0_ n1_; (try clear hb); have hcz48_1 := cl1 BK201.out; have hfz48_1 := blk_frozen BK201.out 1) | ((with_reducible refine gate_callee (f := 44) rfl ?_); refine goesL_ (some 19) rfl rfl Try.func44 (by kernel_rfl) rfl #[.int .i64 a0_1, .int .i64 2] rfl gAr ?_; (with_reducible refine (roadbookref02_Put.calls k a0_1 2 t204 true _ A3.out).mono ?_); rintro e w49 ⟨rfl, hb⟩; refine ⟨_, rfl, ?_⟩; have n0_ := Aside0.mk (blk_below (blk_below BK201.out bll) hb); have n1_ := Aside0.mk (below_step (bel) hb); clear BK201; clear HB; have BK201 := n0_; have HB := n1_; clear n0_ n1_; (try clear hb); have hcz50_5 := cl5 BK201.out; have hfz50_5 := blk_frozen BK201.out 5) | ((with_reducible refine gate_callee (f := 44) rfl ?_); refine goesL_ (some 25) rfl rfl Try.func44 (by kernel_rfl) rfl #[.int .i64 a0_5, .int .i64 4] rfl gAr ?_; (with_reducible refine (roadbookref02_Put.calls k a0_5 4 t206 true _ A4.out).mono ?_); rintro e w51 ⟨rfl, hb⟩; refine ⟨_, rfl, ?_⟩; have n0_ := Aside0.mk (blk_below (blk_below BK201.out bll) hb); have n1_ := Aside0.mk (below_step (bel) hb); clear BK201; clear HB; have BK201 := n0_; have HB := n1_; clear n0_ n1_; (try clear hb); have hcz52_2 := cl2 BK201.out; have hfz52_2 := blk_frozen BK201.out 2))
          go_ret2
          exact ⟨rtE, bel⟩
      · replace c7 := Bool.eq_false_iff.mpr c7
        subst c7
        have H1 : (some ((⟨#[]⟩ : ByteArray), false)) = some (r1, r2) := by rw [if_neg (show ¬ (false = true) by decide)] at H; exact H
        clear H
        have H := H1
        clear H1
        simp only [Option.some.injEq, Prod.mk.injEq] at H
        obtain ⟨rfl, rfl⟩ := H
        go_enter Try.func16, Try.ntmps16
        go_wp2_with (first | ((with_reducible refine gate_dst (N := 1) rfl ?_); (try (refine gate_guard (by rfl) ?_; dsimp only)); refine box_event ?hg (N := 1) ?hd (cs := #[.int .i64 a0_0, .int .i64 a0_1, .string a0_2, .string a0_3, .string a0_4, .int .i64 a0_5]) (t := 23) ?hr ?_; (case hd => rfl); (case hg => rfl); (case hr => first | (go_simp; done) | (go_simp; rfl)); intro gb201 hg w53 hbox hb; have n0_ := Aside0.mk (below_step (bel) hb); have n1_ := Aside0.mk (hbox); have n2_ := Aside0.mk ((by rw [hg]; exact bsz : w.heap.size ≤ gb201)); have n3_ := Aside0.mk ((by rw [hg]; exact bsz : w.heap.size ≤ gb201)); clear HB; have HB := n0_; have BK201 := n1_; have GW201 := n2_; have GE201 := n3_; clear n0_ n1_ n2_ n3_; clear hb hbox hg; have hcz54_0 := cl0 BK201.out; have hfz54_0 := blk_frozen BK201.out 0) | ((with_reducible refine gate_callee (f := 44) rfl ?_); refine goesL_ (some 13) rfl rfl Try.func44 (by kernel_rfl) rfl #[.int .i64 a0_0, .int .i64 2] rfl gAr ?_; (with_reducible refine (roadbookref02_Put.calls k a0_0 2 t202 true _ A2.out).mono ?_); rintro e w55 ⟨rfl, hb⟩; refine ⟨_, rfl, ?_⟩; have n0_ := Aside0.mk (blk_below (blk_below BK201.out bll) hb); have n1_ := Aside0.mk (below_step (bel) hb); clear BK201; clear HB; have BK201 := n0_; have HB := n1_; clear n0_ n1_; (try clear hb); have hcz56_1 := cl1 BK201.out; have hfz56_1 := blk_frozen BK201.out 1) | ((with_reducible refine gate_callee (f := 44) rfl ?_); refine goesL_ (some 19) rfl rfl Try.func44 (by kernel_rfl) rfl #[.int .i64 a0_1, .int .i64 2] rfl gAr ?_; (with_reducible refine (roadbookref02_Put.calls k a0_1 2 t204 true _ A3.out).mono ?_); rintro e w57 ⟨rfl, hb⟩; refine ⟨_, rfl, ?_⟩; have n0_ := Aside0.mk (blk_below (blk_below BK201.out bll) hb); have n1_ := Aside0.mk (below_step (bel) hb); clear BK201; clear HB; have BK201 := n0_; have HB := n1_; clear n0_ n1_; (try clear hb); have hcz58_5 := cl5 BK201.out; have hfz58_5 := blk_frozen BK201.out 5) | ((with_reducible refine gate_callee (f := 44) rfl ?_); refine goesL_ (some 25) rfl rfl Try.func44 (by kernel_rfl) rfl #[.int .i64 a0_5, .int .i64 4] rfl gAr ?_; (with_reducible refine (roadbookref02_Put.calls k a0_5 4 t206 false _ A4.out).mono ?_); rintro e w59 ⟨rfl, hb⟩; refine ⟨_, rfl, ?_⟩; have n0_ := Aside0.mk (blk_below (blk_below BK201.out bll) hb); have n1_ := Aside0.mk (below_step (bel) hb); clear BK201; clear HB; have BK201 := n0_; have HB := n1_; clear n0_ n1_; (try clear hb)))
        go_ret2
        exact ⟨rtE, bel⟩
    · replace c6 := Bool.eq_false_iff.mpr c6
      subst c6
      have H1 : (some ((⟨#[]⟩ : ByteArray), false)) = some (r1, r2) := by rw [if_neg (show ¬ (false = true) by decide)] at H; exact H
      clear H
      have H := H1
      clear H1
      simp only [Option.some.injEq, Prod.mk.injEq] at H
      obtain ⟨rfl, rfl⟩ := H
      go_enter Try.func16, Try.ntmps16
      go_wp2_with (first | ((with_reducible refine gate_dst (N := 1) rfl ?_); (try (refine gate_guard (by rfl) ?_; dsimp only)); refine box_event ?hg (N := 1) ?hd (cs := #[.int .i64 a0_0, .int .i64 a0_1, .string a0_2, .string a0_3, .string a0_4, .int .i64 a0_5]) (t := 23) ?hr ?_; (case hd => rfl); (case hg => rfl); (case hr => first | (go_simp; done) | (go_simp; rfl)); intro gb201 hg w60 hbox hb; have n0_ := Aside0.mk (below_step (bel) hb); have n1_ := Aside0.mk (hbox); have n2_ := Aside0.mk ((by rw [hg]; exact bsz : w.heap.size ≤ gb201)); have n3_ := Aside0.mk ((by rw [hg]; exact bsz : w.heap.size ≤ gb201)); clear HB; have HB := n0_; have BK201 := n1_; have GW201 := n2_; have GE201 := n3_; clear n0_ n1_ n2_ n3_; clear hb hbox hg; have hcz61_0 := cl0 BK201.out; have hfz61_0 := blk_frozen BK201.out 0) | ((with_reducible refine gate_callee (f := 44) rfl ?_); refine goesL_ (some 13) rfl rfl Try.func44 (by kernel_rfl) rfl #[.int .i64 a0_0, .int .i64 2] rfl gAr ?_; (with_reducible refine (roadbookref02_Put.calls k a0_0 2 t202 true _ A2.out).mono ?_); rintro e w62 ⟨rfl, hb⟩; refine ⟨_, rfl, ?_⟩; have n0_ := Aside0.mk (blk_below (blk_below BK201.out bll) hb); have n1_ := Aside0.mk (below_step (bel) hb); clear BK201; clear HB; have BK201 := n0_; have HB := n1_; clear n0_ n1_; (try clear hb); have hcz63_1 := cl1 BK201.out; have hfz63_1 := blk_frozen BK201.out 1) | ((with_reducible refine gate_callee (f := 44) rfl ?_); refine goesL_ (some 19) rfl rfl Try.func44 (by kernel_rfl) rfl #[.int .i64 a0_1, .int .i64 2] rfl gAr ?_; (with_reducible refine (roadbookref02_Put.calls k a0_1 2 t204 false _ A3.out).mono ?_); rintro e w64 ⟨rfl, hb⟩; refine ⟨_, rfl, ?_⟩; have n0_ := Aside0.mk (blk_below (blk_below BK201.out bll) hb); have n1_ := Aside0.mk (below_step (bel) hb); clear BK201; clear HB; have BK201 := n0_; have HB := n1_; clear n0_ n1_; (try clear hb); have hcz65_5 := cl5 BK201.out; have hfz65_5 := blk_frozen BK201.out 5) | ((with_reducible refine gate_callee (f := 44) rfl ?_); refine goesL_ (some 25) rfl rfl Try.func44 (by kernel_rfl) rfl #[.int .i64 a0_5, .int .i64 4] rfl gAr ?_; (with_reducible refine (roadbookref02_Put.calls k a0_5 4 t206 t207 _ A4.out).mono ?_); rintro e w66 ⟨rfl, hb⟩; refine ⟨_, rfl, ?_⟩; have n0_ := Aside0.mk (blk_below (blk_below BK201.out bll) hb); have n1_ := Aside0.mk (below_step (bel) hb); clear BK201; clear HB; have BK201 := n0_; have HB := n1_; clear n0_ n1_; (try clear hb)))
      go_ret2
      exact ⟨rtE, bel⟩
  · replace c5 := Bool.eq_false_iff.mpr c5
    subst c5
    have H1 : (some ((⟨#[]⟩ : ByteArray), false)) = some (r1, r2) := by rw [if_neg (show ¬ (false = true) by decide)] at H; exact H
    clear H
    have H := H1
    clear H1
    simp only [Option.some.injEq, Prod.mk.injEq] at H
    obtain ⟨rfl, rfl⟩ := H
    go_enter Try.func16, Try.ntmps16
    go_wp2_with (first | ((with_reducible refine gate_dst (N := 1) rfl ?_); (try (refine gate_guard (by rfl) ?_; dsimp only)); refine box_event ?hg (N := 1) ?hd (cs := #[.int .i64 a0_0, .int .i64 a0_1, .string a0_2, .string a0_3, .string a0_4, .int .i64 a0_5]) (t := 23) ?hr ?_; (case hd => rfl); (case hg => rfl); (case hr => first | (go_simp; done) | (go_simp; rfl)); intro gb201 hg w67 hbox hb; have n0_ := Aside0.mk (below_step (bel) hb); have n1_ := Aside0.mk (hbox); have n2_ := Aside0.mk ((by rw [hg]; exact bsz : w.heap.size ≤ gb201)); have n3_ := Aside0.mk ((by rw [hg]; exact bsz : w.heap.size ≤ gb201)); clear HB; have HB := n0_; have BK201 := n1_; have GW201 := n2_; have GE201 := n3_; clear n0_ n1_ n2_ n3_; clear hb hbox hg; have hcz68_0 := cl0 BK201.out; have hfz68_0 := blk_frozen BK201.out 0) | ((with_reducible refine gate_callee (f := 44) rfl ?_); refine goesL_ (some 13) rfl rfl Try.func44 (by kernel_rfl) rfl #[.int .i64 a0_0, .int .i64 2] rfl gAr ?_; (with_reducible refine (roadbookref02_Put.calls k a0_0 2 t202 false _ A2.out).mono ?_); rintro e w69 ⟨rfl, hb⟩; refine ⟨_, rfl, ?_⟩; have n0_ := Aside0.mk (blk_below (blk_below BK201.out bll) hb); have n1_ := Aside0.mk (below_step (bel) hb); clear BK201; clear HB; have BK201 := n0_; have HB := n1_; clear n0_ n1_; (try clear hb); have hcz70_1 := cl1 BK201.out; have hfz70_1 := blk_frozen BK201.out 1) | ((with_reducible refine gate_callee (f := 44) rfl ?_); refine goesL_ (some 19) rfl rfl Try.func44 (by kernel_rfl) rfl #[.int .i64 a0_1, .int .i64 2] rfl gAr ?_; (with_reducible refine (roadbookref02_Put.calls k a0_1 2 t204 t205 _ A3.out).mono ?_); rintro e w71 ⟨rfl, hb⟩; refine ⟨_, rfl, ?_⟩; have n0_ := Aside0.mk (blk_below (blk_below BK201.out bll) hb); have n1_ := Aside0.mk (below_step (bel) hb); clear BK201; clear HB; have BK201 := n0_; have HB := n1_; clear n0_ n1_; (try clear hb); have hcz72_5 := cl5 BK201.out; have hfz72_5 := blk_frozen BK201.out 5) | ((with_reducible refine gate_callee (f := 44) rfl ?_); refine goesL_ (some 25) rfl rfl Try.func44 (by kernel_rfl) rfl #[.int .i64 a0_5, .int .i64 4] rfl gAr ?_; (with_reducible refine (roadbookref02_Put.calls k a0_5 4 t206 t207 _ A4.out).mono ?_); rintro e w73 ⟨rfl, hb⟩; refine ⟨_, rfl, ?_⟩; have n0_ := Aside0.mk (blk_below (blk_below BK201.out bll) hb); have n1_ := Aside0.mk (below_step (bel) hb); clear BK201; clear HB; have BK201 := n0_; have HB := n1_; clear n0_ n1_; (try clear hb)))
    go_ret2
    exact ⟨rtE, bel⟩

/-! ### cursor_Left: function 45 -/
def cursor_Left.f (a0_0 : ByteArray) (a0_1 : Int) (a0_2 : Int) (a0_3 : Bool) : Option (Int) := if a0_3 = true then (some 0) else (some (wrap64 (a0_2 - a0_1)))
set_option maxHeartbeats 8000000 in
set_option maxRecDepth 100000 in
theorem cursor_Left.calls (a0_0 : ByteArray) (a0_1 : Int) (a0_2 : Int) (a0_3 : Bool) (r : Int) (w : World) (h : cursor_Left.f a0_0 a0_1 a0_2 a0_3 = some r) :
    Calls Try.prog 45 #[.agg #[.string a0_0, .int .i64 a0_1, .int .i64 a0_2, .bool a0_3]] w fun e w' => e = .returned (.int .i64 r) ∧ Below w.heap.size w w' := by
  have hu60 := Try.underlying60
  have HB := Aside0.mk (Below.refl w.heap.size w)
  have H : (if a0_3 = true then (some 0) else (some (wrap64 (a0_2 - a0_1)))) = some r := h
  clear h
  by_cases c2 : a0_3 = true
  · subst c2
    have H1 : (some 0) = some r := by rw [if_pos rfl] at H; exact H
    clear H
    have H := H1
    clear H1
    obtain rfl := Option.some.inj H
    go_enter Try.func45, Try.ntmps45
    go_wp2_with (first | ((with_reducible refine gate_dst (N := 1) rfl ?_); refine box_event ?hg (N := 1) ?hd (cs := #[.string a0_0, .int .i64 a0_1, .int .i64 a0_2, .bool true]) (t := 60) ?hr ?_; (case hd => rfl); (case hg => rfl); (case hr => first | (go_simp; done) | (go_simp; rfl)); intro gb254 hg w3 hbox hb; have n0_ := Aside0.mk (below_step (bel) hb); have n1_ := Aside0.mk (hbox); have n2_ := Aside0.mk ((by rw [hg]; exact bsz : w.heap.size ≤ gb254)); have n3_ := Aside0.mk ((by rw [hg]; exact bsz : w.heap.size ≤ gb254)); clear HB; have HB := n0_; have BK254 := n1_; have GW254 := n2_; have GE254 := n3_; clear n0_ n1_ n2_ n3_; clear hb hbox hg; have hcz4_3 := cl3 BK254.out; have hfz4_3 := blk_frozen BK254.out 3))
    go_ret
    exact ⟨rtE, bel⟩
  · replace c2 := Bool.eq_false_iff.mpr c2
    subst c2
    have H1 : (some (wrap64 (a0_2 - a0_1))) = some r := by rw [if_neg (show ¬ (false = true) by decide)] at H; exact H
    clear H
    have H := H1
    clear H1
    obtain rfl := Option.some.inj H
    go_enter Try.func45, Try.ntmps45
    go_wp2_with (first | ((with_reducible refine gate_dst (N := 1) rfl ?_); refine box_event ?hg (N := 1) ?hd (cs := #[.string a0_0, .int .i64 a0_1, .int .i64 a0_2, .bool false]) (t := 60) ?hr ?_; (case hd => rfl); (case hg => rfl); (case hr => first | (go_simp; done) | (go_simp; rfl)); intro gb254 hg w5 hbox hb; have n0_ := Aside0.mk (below_step (bel) hb); have n1_ := Aside0.mk (hbox); have n2_ := Aside0.mk ((by rw [hg]; exact bsz : w.heap.size ≤ gb254)); have n3_ := Aside0.mk ((by rw [hg]; exact bsz : w.heap.size ≤ gb254)); clear HB; have HB := n0_; have BK254 := n1_; have GW254 := n2_; have GE254 := n3_; clear n0_ n1_ n2_ n3_; clear hb hbox hg; have hcz6_3 := cl3 BK254.out; have hfz6_3 := blk_frozen BK254.out 3; have hcz7_2 := cl2 BK254.out; have hfz7_2 := blk_frozen BK254.out 2; have hcz8_1 := cl1 BK254.out; have hfz8_1 := blk_frozen BK254.out 1))
    go_ret
    exact ⟨rtE, bel⟩

end Go.Proofs.Ytjgnpggpgkkknaa.Pr
