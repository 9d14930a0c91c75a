-- Written by wip/tools/xprint.py of this repo over the kit's printer, out of the translation. Lean checks it.
import Derived.Test.YtjgnpggpgkkknaaPr0
import Derived.Test.YtjgnpggpgkkknaaPr7
import Derived.Test.YtjgnpggpgkkknaaPr8
namespace Go.Proofs.Ytjgnpggpgkkknaa.Pr
open Go.RowKit Go.Proofs.YtjgnpggpgkkknaaW.PrintWords Go.Proofs.YtjgnpggpgkkknaaW.PrintLast
set_option linter.unusedVariables false
set_option linter.unusedSimpArgs false

/-! ### roadbookref02_Fits: function 57 -/
mutual
def roadbookref02_Fits.j0 : Nat → Int → Int → Bool → Option (Bool)
  | 0, _, _, _ => none
  | k + 1, x0, x1, x16 => if x16 = true then (some false) else (roadbookref02_Fits.l0 k x0 x1 1 0)
def roadbookref02_Fits.l0 : Nat → Int → Int → Int → Int → Option (Bool)
  | 0, _, _, _, _ => none
  | k + 1, x0, x1, x5, x6 => if x6 < x1 then (roadbookref02_Fits.l0 k x0 x1 (wrap64 (x5 * 256)) (wrap64 (x6 + 1))) else (some (decide (x0 < x5)))
end
def roadbookref02_Fits.f (k : Nat) (a0 : Int) (a1 : Int) : Option (Bool) := if a1 < 1 then (roadbookref02_Fits.j0 k a0 a1 true) else (if a1 > 7 then (roadbookref02_Fits.j0 k a0 a1 true) else (roadbookref02_Fits.j0 k a0 a1 (decide (a0 < 0))))
theorem roadbookref02_Fits.mono_l : ∀ k, (∀ y0 y1 y2, LeO (roadbookref02_Fits.j0 k y0 y1 y2) (roadbookref02_Fits.j0 (k + 1) y0 y1 y2)) ∧ (∀ y0 y1 y2 y3, LeO (roadbookref02_Fits.l0 k y0 y1 y2 y3) (roadbookref02_Fits.l0 (k + 1) y0 y1 y2 y3))
  | 0 => ⟨fun _ _ _ r h => by simp [roadbookref02_Fits.j0] at h, fun _ _ _ _ r h => by simp [roadbookref02_Fits.l0] at h⟩
  | k + 1 => by
    obtain ⟨ih0, ih1⟩ := roadbookref02_Fits.mono_l k
    refine ⟨?_, ?_⟩
    · intro y0 y1 y2
      unfold roadbookref02_Fits.j0
      repeat' first
      | (with_reducible exact ih0 _ _ _)
      | (with_reducible exact ih1 _ _ _ _)
      | (with_reducible exact LeO.refl _)
      | (with_reducible exact LeO.none _)
      | (with_reducible refine LeO.ite ?_ ?_)
      | (with_reducible refine LeO.bind ?_ (fun _ => ?_))
      | exact ih0 _ _ _
      | exact ih1 _ _ _ _
      | exact LeO.none _
      | refine LeO.ite ?_ ?_
      | refine LeO.bind ?_ (fun _ => ?_)
    · intro y0 y1 y2 y3
      unfold roadbookref02_Fits.l0
      repeat' first
      | (with_reducible exact ih0 _ _ _)
      | (with_reducible exact ih1 _ _ _ _)
      | (with_reducible exact LeO.refl _)
      | (with_reducible exact LeO.none _)
      | (with_reducible refine LeO.ite ?_ ?_)
      | (with_reducible refine LeO.bind ?_ (fun _ => ?_))
      | exact ih0 _ _ _
      | exact ih1 _ _ _ _
      | exact LeO.none _
      | refine LeO.ite ?_ ?_
      | refine LeO.bind ?_ (fun _ => ?_)
theorem roadbookref02_Fits.mono : ∀ a0 a1 k, LeO (roadbookref02_Fits.f k a0 a1) (roadbookref02_Fits.f (k + 1) a0 a1) := by
  intro a0 a1 k
  obtain ⟨ih0, ih1⟩ := roadbookref02_Fits.mono_l k
  unfold roadbookref02_Fits.f
  repeat' first
      | (with_reducible exact ih0 _ _ _)
      | (with_reducible exact ih1 _ _ _ _)
      | (with_reducible exact LeO.refl _)
      | (with_reducible exact LeO.none _)
      | (with_reducible refine LeO.ite ?_ ?_)
      | (with_reducible refine LeO.bind ?_ (fun _ => ?_))
      | exact ih0 _ _ _
      | exact ih1 _ _ _ _
      | exact LeO.none _
      | refine LeO.ite ?_ ?_
      | refine LeO.bind ?_ (fun _ => ?_)
set_option maxHeartbeats 8000000 in
set_option maxRecDepth 100000 in
theorem roadbookref02_Fits.calls (k : Nat) (a0 : Int) (a1 : Int) (r : Bool) (w : World) (h : roadbookref02_Fits.f k a0 a1 = some r) :
    Calls Try.prog 57 #[.int .i64 a0, .int .i64 a1] w fun e w' => e = .returned (.bool r) ∧ Drawn0 w w' := by
  have H : (if a1 < 1 then (roadbookref02_Fits.j0 k a0 a1 true) else (if a1 > 7 then (roadbookref02_Fits.j0 k a0 a1 true) else (roadbookref02_Fits.j0 k a0 a1 (decide (a0 < 0))))) = some r := h
  clear h
  have HC3 := Aside0.mk H
  clear H
  go_enter Try.func57, Try.ntmps57
  go_upto_region 1 with (fail)
  go_cut [16] (fun v16 wc => ∃ (kq : Nat) (x16_2 : Bool), v16 = .bool x16_2 ∧ Aside0 (roadbookref02_Fits.j0 kq a0 a1 x16_2 = some r) ∧ Aside0 (kq ≤ k) ∧ Drawn0 w wc)
  case first =>
    have H := HC3.out
    clear HC3
    by_cases c4 : a1 < 1
    · rw [if_pos c4] at H
      have c4b0 : decide (a1 < 1) = true := decide_eq_true c4
      clear c4
      (first | rw [c4b0] | (simp only [i64_w, i32_w]; rw [c4b0]) | skip)
      have H' := Aside0.mk H
      clear H
      go_wp2
      go_meet
      case rel => exact ⟨_, (true), rfS, H', ⟨by first | omega | exact Nat.le_refl _⟩, by repeat (first | exact Drawn0.refl _ | apply Drawn0.step)⟩
    · rw [if_neg c4] at H
      have c4b0 : decide (a1 < 1) = false := decide_eq_false c4
      clear c4
      (first | rw [c4b0] | (simp only [i64_w, i32_w]; rw [c4b0]) | skip)
      by_cases c5 : a1 > 7
      · rw [if_pos c5] at H
        have c5b0 : decide (7 < a1) = true := decide_eq_true c5
        clear c5
        have H' := Aside0.mk H
        clear H
        go_wp2
        go_meet
        case rel => exact ⟨_, (true), rfS, H', ⟨by first | omega | exact Nat.le_refl _⟩, by repeat (first | exact Drawn0.refl _ | apply Drawn0.step)⟩
      · rw [if_neg c5] at H
        have c5b0 : decide (7 < a1) = false := decide_eq_false c5
        clear c5
        have H' := Aside0.mk H
        clear H
        go_wp2
        go_meet
        case rel => exact ⟨_, (decide (a0 < 0)), rfS, H', ⟨by first | omega | exact Nat.le_refl _⟩, by repeat (first | exact Drawn0.refl _ | apply Drawn0.step)⟩
  case rest =>
    clear HC3
    try clear c4
    try clear c4b0
    try clear c5
    try clear c5b0
    obtain ⟨kq, x16_2, rfl, HA, HJ2, ⟨mc2, rfl⟩⟩ := hcut
    cases kq with
    | zero => exact absurd HA.out (by simp [roadbookref02_Fits.j0])
    | succ kj2 =>
      have H := HA.out
      clear HA
      simp only [roadbookref02_Fits.j0] at H
      by_cases c6 : x16_2 = true
      · subst c6
        have H1 : (some false) = some r := by rw [if_pos rfl] at H; exact H
        clear H
        have H := H1
        clear H1
        obtain rfl := Option.some.inj H
        go_wp2
        go_ret
        exact ⟨rfS, by repeat (first | exact Drawn0.refl _ | apply Drawn0.step)⟩
      · replace c6 := Bool.eq_false_iff.mpr c6
        subst c6
        have H1 : (roadbookref02_Fits.l0 kj2 a0 a1 1 0) = some r := by rw [if_neg (show ¬ (false = true) by decide)] at H; exact H
        clear H
        have H := H1
        clear H1
        have H' := Aside0.mk H
        clear H
        go_wp2
        go_loopg [5, 6] kj2 (fun kq v5 v6 w' => ∃ (x5_2 : Int) (x6_2 : Int), v5 = .int .i64 x5_2 ∧ v6 = .int .i64 x6_2 ∧ Aside0 (roadbookref02_Fits.l0 kq a0 a1 x5_2 x6_2 = some r) ∧ Aside0 (kq ≤ kj2) ∧ Drawn0 w w')
        case atStart => exact ⟨(1), (0), rfS, rfS, H', ⟨Nat.le_refl _⟩, by repeat (first | exact Drawn0.refl _ | apply Drawn0.step)⟩
        case round =>
          clear H'
          try clear c4
          try clear c4b0
          try clear c5
          try clear c5b0
          try clear c6
          obtain ⟨x5_2, x6_2, rfl, rfl, HA, HK2, ⟨m2, rfl⟩⟩ := hrel
          cases gk with
          | zero => exact absurd HA.out (by simp [roadbookref02_Fits.l0])
          | succ k2 =>
            have H := HA.out
            clear HA
            simp only [roadbookref02_Fits.l0] at H
            by_cases c7 : x6_2 < a1
            · rw [if_pos c7] at H
              have c7b0 : decide (x6_2 < a1) = true := decide_eq_true c7
              clear c7
              have H' := Aside0.mk H
              clear H
              go_wp2
              go_roundg k2
              case measure => have := HJ2.out; have := HK2.out; omega
              case rel => exact ⟨(wrap64 (x5_2 * 256)), (wrap64 (x6_2 + 1)), rfS, rfS, H', ⟨by have := HJ2.out; have := HK2.out; omega⟩, by repeat (first | exact Drawn0.refl _ | apply Drawn0.step)⟩
            · rw [if_neg c7] at H
              have c7b0 : decide (x6_2 < a1) = false := decide_eq_false c7
              clear c7
              obtain rfl := Option.some.inj H
              go_wp2
              go_ret
              exact ⟨rfS, by repeat (first | exact Drawn0.refl _ | apply Drawn0.step)⟩

/-! ### roadbookref02_Put: function 44 -/
def roadbookref02_Put.l0 : Nat → Int → Int → ByteArray → Int → Option (ByteArray × Bool)
  | 0, _, _, _, _ => none
  | k + 1, x0, x1, x6, x7 => if x7 < x1 then ((some (([(Int.tmod x0 256) % 256] : List Int) : List Int)).bind fun y198 => (if (strOfNums y198).size + x6.size ≤ 9223372036854775807 then (roadbookref02_Put.l0 k (wrap64 (Int.tdiv x0 256)) x1 ((strOfNums y198) ++ x6) (wrap64 (x7 + 1))) else (none))) else (some (x6, true))
def roadbookref02_Put.f (k : Nat) (a0 : Int) (a1 : Int) : Option (ByteArray × Bool) := (roadbookref02_Fits.f k a0 a1).bind fun t197 => (if t197 = true then (roadbookref02_Put.l0 k a0 a1 (⟨#[]⟩ : ByteArray) 0) else (some ((⟨#[]⟩ : ByteArray), false)))
theorem roadbookref02_Put.mono_l : ∀ k, (∀ y0 y1 y2 y3, LeO (roadbookref02_Put.l0 k y0 y1 y2 y3) (roadbookref02_Put.l0 (k + 1) y0 y1 y2 y3))
  | 0 => fun _ _ _ _ r h => by simp [roadbookref02_Put.l0] at h
  | k + 1 => by
    have ih0 := roadbookref02_Put.mono_l k
    · intro y0 y1 y2 y3
      unfold roadbookref02_Put.l0
      repeat' first
      | (with_reducible exact ih0 _ _ _ _)
      | (with_reducible exact roadbookref02_Fits.mono _ _ _)
      | (with_reducible exact LeO.refl _)
      | (with_reducible exact LeO.none _)
      | (with_reducible refine LeO.ite ?_ ?_)
      | (with_reducible refine LeO.bind ?_ (fun _ => ?_))
      | exact ih0 _ _ _ _
      | exact roadbookref02_Fits.mono _ _ _
      | exact LeO.none _
      | refine LeO.ite ?_ ?_
      | refine LeO.bind ?_ (fun _ => ?_)
theorem roadbookref02_Put.mono : ∀ a0 a1 k, LeO (roadbookref02_Put.f k a0 a1) (roadbookref02_Put.f (k + 1) a0 a1) := by
  intro a0 a1 k
  have ih0 := roadbookref02_Put.mono_l k
  unfold roadbookref02_Put.f
  repeat' first
      | (with_reducible exact ih0 _ _ _ _)
      | (with_reducible exact roadbookref02_Fits.mono _ _ _)
      | (with_reducible exact LeO.refl _)
      | (with_reducible exact LeO.none _)
      | (with_reducible refine LeO.ite ?_ ?_)
      | (with_reducible refine LeO.bind ?_ (fun _ => ?_))
      | exact ih0 _ _ _ _
      | exact roadbookref02_Fits.mono _ _ _
      | exact LeO.none _
      | refine LeO.ite ?_ ?_
      | refine LeO.bind ?_ (fun _ => ?_)
set_option maxHeartbeats 8000000 in
set_option maxRecDepth 100000 in
theorem roadbookref02_Put.calls (k : Nat) (a0 : Int) (a1 : Int) (r1 : ByteArray) (r2 : Bool) (w : World) (h : roadbookref02_Put.f k a0 a1 = some (r1, r2)) :
    Calls Try.prog 44 #[.int .i64 a0, .int .i64 a1] w fun e w' => e = .returned (.tuple #[.string r1, .bool r2]) ∧ Below w.heap.size w w' := by
  have HB := Aside0.mk (Below.refl w.heap.size w)
  have H : ((roadbookref02_Fits.f k a0 a1).bind fun t197 => (if t197 = true then (roadbookref02_Put.l0 k a0 a1 (⟨#[]⟩ : ByteArray) 0) else (some ((⟨#[]⟩ : ByteArray), false)))) = some (r1, r2) := h
  clear h
  replace H := Option.bind_eq_some_iff.mp H
  obtain ⟨t197, A30, H⟩ := H
  replace H : (if t197 = true then (roadbookref02_Put.l0 k a0 a1 (⟨#[]⟩ : ByteArray) 0) else (some ((⟨#[]⟩ : ByteArray), false))) = some (r1, r2) := H
  have A3 := Aside0.mk A30
  clear A30
  by_cases c4 : t197 = true
  · subst c4
    have H1 : (roadbookref02_Put.l0 k a0 a1 (⟨#[]⟩ : ByteArray) 0) = some (r1, r2) := by rw [if_pos rfl] at H; exact H
    clear H
    have H := H1
    clear H1
    have H' := Aside0.mk H
    clear H
    go_enter Try.func44, Try.ntmps44
    go_wp2_with (first | ((with_reducible refine gate_callee (f := 57) rfl ?_); refine goesL_ (some 10) rfl rfl Try.func57 (by kernel_rfl) rfl #[.int .i64 a0, .int .i64 a1] rfl gAr ?_; (with_reducible refine (roadbookref02_Fits.calls k a0 a1 true _ A3.out).mono ?_); rintro e w' ⟨rfl, ⟨nd, rfl⟩⟩; refine ⟨_, rfl, ?_⟩))
    go_loopg [0, 6, 7] k (fun kq v0 v6 v7 w' => ∃ (x0_1 : Int) (x6_1 : ByteArray) (x7_1 : Int), v0 = .int .i64 x0_1 ∧ v6 = .string x6_1 ∧ v7 = .int .i64 x7_1 ∧ Aside0 (roadbookref02_Put.l0 kq x0_1 a1 x6_1 x7_1 = some (r1, r2)) ∧ Aside0 (kq ≤ k) ∧ Aside0 (Below w.heap.size w w'))
    case atStart => exact ⟨(a0), ((⟨#[]⟩ : ByteArray)), (0), rfS, rfS, rfS, H', ⟨Nat.le_refl _⟩, ⟨bel⟩⟩
    case round =>
      clear H'
      try clear c4
      obtain ⟨x0_1, x6_1, x7_1, rfl, rfl, rfl, HA, HK1, HB⟩ := hrel
      cases gk with
      | zero => exact absurd HA.out (by simp [roadbookref02_Put.l0])
      | succ k1 =>
        have H := HA.out
        clear HA
        simp only [roadbookref02_Put.l0] at H
        by_cases c5 : x7_1 < a1
        · rw [if_pos c5] at H
          have c5b0 : decide (x7_1 < a1) = true := decide_eq_true c5
          clear c5
          obtain ⟨y198, hy198⟩ : ∃ y_ : List Int, y_ = (([(Int.tmod x0_1 256) % 256] : List Int)) := ⟨_, rfl⟩
          replace H : (if (strOfNums y198).size + x6_1.size ≤ 9223372036854775807 then (roadbookref02_Put.l0 k1 (wrap64 (Int.tdiv x0_1 256)) a1 ((strOfNums y198) ++ x6_1) (wrap64 (x7_1 + 1))) else (none)) = some (r1, r2) := by first | (rw [hy198]; with_reducible exact H) | (have H2_ := (Option.bind_some _ _).symm.trans H; rw [hy198]; with_reducible exact H2_) | (have H2_ := (Option.bind_some _ _).symm.trans H; with_reducible exact H2_) | with_reducible exact H | (rw [hy198]; exact H) | exact H
          have Ny198 := Aside0.mk hy198
          clear hy198
          by_cases c6 : (strOfNums y198).size + x6_1.size ≤ 9223372036854775807
          · rw [if_pos c6] at H
            have c6b0 := eq_true c6
            have c6b1 : decide ((strOfNums y198).size + x6_1.size ≤ 9223372036854775807) = true := decide_eq_true c6
            try have c6b2 : (9223372036854775807 < (strOfNums y198).size + x6_1.size) = False := eq_false (Nat.not_lt.2 c6)
            have H' := Aside0.mk H
            clear H
            go_wp2_with (first | ((with_reducible refine gate_dst (N := 20) rfl ?_); refine Kd.R_lit (Kd.int .u8) _ 5 ?hg (N := 20) ?hd (xs := ([(Int.tmod x0_1 256) % 256] : List Int)) (inner := [.int .u8 ((Int.tmod x0_1 256) % 256)]) (ok := fun _ => True) (okp := fun _ => True) ?hr ?hp (fun _ hk => hk) trivial (Below.refl _ _) (Nat.le_refl _) (by simp) ?_; (case hd => rfl); (case hg => rfl); (case hr => first | (go_simp; done) | (go_simp; rfl)); (case hp => exact (Reps.one (show Kd.M (Kd.int .u8) _ _ _ ((Int.tmod x0_1 256) % 256) [.int .u8 ((Int.tmod x0_1 256) % 256)] from rfl) (Reps.none _ _))); intro v199 w7 ho8 hb hg_ hnew_; clear hg_ hnew_; (first | rw [← Ny198.out] at ho8 | (simp only [Int.reduceToNat] at ho8; rw [← Ny198.out] at ho8)); have n0_ := Aside0.mk (Kd.R_lower ho8 bsz); have n1_ := Aside0.mk (below_step (bel) hb); clear HB; have HO200 := n0_; have HB := n1_; clear n0_ n1_; clear hb ho8; have hcv9 := own_string (P := Try.prog) Try.underlying55 Try.underlying5 Try.underlying9 (Kd.own_of_R HO200.out)))
            go_roundg k1
            case measure => have := HK1.out; omega
            case rel => exact ⟨(wrap64 (Int.tdiv x0_1 256)), ((strOfNums y198) ++ x6_1), (wrap64 (x7_1 + 1)), rfS, rfS, rfS, H', ⟨by have := HK1.out; omega⟩, ⟨bel⟩⟩
          · rw [if_neg c6] at H
            exact absurd H (by simp)
        · rw [if_neg c5] at H
          have c5b0 : decide (x7_1 < a1) = false := decide_eq_false c5
          clear c5
          simp only [Option.some.injEq, Prod.mk.injEq] at H
          obtain ⟨rfl, rfl⟩ := H
          go_wp2
          go_ret2
          exact ⟨rtE, bel⟩
  · replace c4 := Bool.eq_false_iff.mpr c4
    subst c4
    have H1 : (some ((⟨#[]⟩ : ByteArray), false)) = some (r1, r2) := by rw [if_neg (show ¬ (false = true) by decide)] at H; exact H
    clear H
    have H := H1
    clear H1
    simp only [Option.some.injEq, Prod.mk.injEq] at H
    obtain ⟨rfl, rfl⟩ := H
    go_enter Try.func44, Try.ntmps44
    go_wp2_with (first | ((with_reducible refine gate_callee (f := 57) rfl ?_); refine goesL_ (some 10) rfl rfl Try.func57 (by kernel_rfl) rfl #[.int .i64 a0, .int .i64 a1] rfl gAr ?_; (with_reducible refine (roadbookref02_Fits.calls k a0 a1 false _ A3.out).mono ?_); rintro e w' ⟨rfl, ⟨nd, rfl⟩⟩; refine ⟨_, rfl, ?_⟩))
    go_ret2
    exact ⟨rtE, bel⟩

/-! ### roadbookref08_Put: function 16 -/
def roadbookref08_Put.f (k : Nat) (a0_0 : Int) (a0_1 : Int) (a0_2 : ByteArray) (a0_3 : ByteArray) (a0_4 : ByteArray) (a0_5 : Int) : Option (ByteArray × Bool) := (roadbookref02_Put.f k a0_0 2).bind fun bt202 => ((roadbookref02_Put.f k a0_1 2).bind fun bt204 => ((roadbookref02_Put.f k a0_5 4).bind fun bt206 => (if bt202.2 = true then (if bt204.2 = true then (if bt206.2 = true then (if (a0_2.size : Int) = 4 then (if (a0_3.size : Int) = 4 then (if (a0_4.size : Int) = 4 then (if bt202.1.size + bt204.1.size ≤ 9223372036854775807 then (if (bt202.1 ++ bt204.1).size + a0_2.size ≤ 9223372036854775807 then (if ((bt202.1 ++ bt204.1) ++ a0_2).size + a0_3.size ≤ 9223372036854775807 then (if (((bt202.1 ++ bt204.1) ++ a0_2) ++ a0_3).size + a0_4.size ≤ 9223372036854775807 then (if ((((bt202.1 ++ bt204.1) ++ a0_2) ++ a0_3) ++ a0_4).size + bt206.1.size ≤ 9223372036854775807 then (some (((((bt202.1 ++ bt204.1) ++ a0_2) ++ a0_3) ++ a0_4) ++ bt206.1, true)) else (none)) else (none)) else (none)) else (none)) else (none)) else (some ((⟨#[]⟩ : ByteArray), false))) else (some ((⟨#[]⟩ : ByteArray), false))) else (some ((⟨#[]⟩ : ByteArray), false))) else (some ((⟨#[]⟩ : ByteArray), false))) else (some ((⟨#[]⟩ : ByteArray), false))) else (some ((⟨#[]⟩ : ByteArray), false)))))
theorem roadbookref08_Put.mono : ∀ a0 a1 a2 a3 a4 a5 k, LeO (roadbookref08_Put.f k a0 a1 a2 a3 a4 a5) (roadbookref08_Put.f (k + 1) a0 a1 a2 a3 a4 a5) := by
  intro a0 a1 a2 a3 a4 a5 k
  unfold roadbookref08_Put.f
  repeat' first
      | (with_reducible exact roadbookref02_Put.mono _ _ _)
      | (with_reducible exact LeO.refl _)
      | (with_reducible exact LeO.none _)
      | (with_reducible refine LeO.ite ?_ ?_)
      | (with_reducible refine LeO.bind ?_ (fun _ => ?_))
      | exact roadbookref02_Put.mono _ _ _
      | exact LeO.none _
      | refine LeO.ite ?_ ?_
      | refine LeO.bind ?_ (fun _ => ?_)
set_option maxHeartbeats 8000000 in
set_option maxRecDepth 100000 in
theorem roadbookref08_Put.calls (k : Nat) (a0_0 : Int) (a0_1 : Int) (a0_2 : ByteArray) (a0_3 : ByteArray) (a0_4 : ByteArray) (a0_5 : Int) (r1 : ByteArray) (r2 : Bool) (w : World) (h : roadbookref08_Put.f k a0_0 a0_1 a0_2 a0_3 a0_4 a0_5 = some (r1, r2)) :
    Calls Try.prog 16 #[.agg #[.int .i64 a0_0, .int .i64 a0_1, .string a0_2, .string a0_3, .string a0_4, .int .i64 a0_5]] w fun e w' => e = .returned (.tuple #[.string r1, .bool r2]) ∧ Below w.heap.size w w' := by
  have hu23 := Try.underlying23
  have HB := Aside0.mk (Below.refl w.heap.size w)
  have H : ((roadbookref02_Put.f k a0_0 2).bind fun bt202 => ((roadbookref02_Put.f k a0_1 2).bind fun bt204 => ((roadbookref02_Put.f k a0_5 4).bind fun bt206 => (if bt202.2 = true then (if bt204.2 = true then (if bt206.2 = true then (if (a0_2.size : Int) = 4 then (if (a0_3.size : Int) = 4 then (if (a0_4.size : Int) = 4 then (if bt202.1.size + bt204.1.size ≤ 9223372036854775807 then (if (bt202.1 ++ bt204.1).size + a0_2.size ≤ 9223372036854775807 then (if ((bt202.1 ++ bt204.1) ++ a0_2).size + a0_3.size ≤ 9223372036854775807 then (if (((bt202.1 ++ bt204.1) ++ a0_2) ++ a0_3).size + a0_4.size ≤ 9223372036854775807 then (if ((((bt202.1 ++ bt204.1) ++ a0_2) ++ a0_3) ++ a0_4).size + bt206.1.size ≤ 9223372036854775807 then (some (((((bt202.1 ++ bt204.1) ++ a0_2) ++ a0_3) ++ a0_4) ++ bt206.1, true)) else (none)) else (none)) else (none)) else (none)) else (none)) else (some ((⟨#[]⟩ : ByteArray), false))) else (some ((⟨#[]⟩ : ByteArray), false))) else (some ((⟨#[]⟩ : ByteArray), false))) else (some ((⟨#[]⟩ : ByteArray), false))) else (some ((⟨#[]⟩ : ByteArray), false))) else (some ((⟨#[]⟩ : ByteArray), false)))))) = some (r1, r2) := h
  clear h
  replace H := Option.bind_eq_some_iff.mp H
  obtain ⟨⟨t202, t203⟩, A20, H⟩ := H
  replace H : ((roadbookref02_Put.f k a0_1 2).bind fun bt204 => ((roadbookref02_Put.f k a0_5 4).bind fun bt206 => (if t203 = true then (if bt204.2 = true then (if bt206.2 = true then (if (a0_2.size : Int) = 4 then (if (a0_3.size : Int) = 4 then (if (a0_4.size : Int) = 4 then (if t202.size + bt204.1.size ≤ 9223372036854775807 then (if (t202 ++ bt204.1).size + a0_2.size ≤ 9223372036854775807 then (if ((t202 ++ bt204.1) ++ a0_2).size + a0_3.size ≤ 9223372036854775807 then (if (((t202 ++ bt204.1) ++ a0_2) ++ a0_3).size + a0_4.size ≤ 9223372036854775807 then (if ((((t202 ++ bt204.1) ++ a0_2) ++ a0_3) ++ a0_4).size + bt206.1.size ≤ 9223372036854775807 then (some (((((t202 ++ bt204.1) ++ a0_2) ++ a0_3) ++ a0_4) ++ bt206.1, true)) else (none)) else (none)) else (none)) else (none)) else (none)) else (some ((⟨#[]⟩ : ByteArray), false))) else (some ((⟨#[]⟩ : ByteArray), false))) else (some ((⟨#[]⟩ : ByteArray), false))) else (some ((⟨#[]⟩ : ByteArray), false))) else (some ((⟨#[]⟩ : ByteArray), false))) else (some ((⟨#[]⟩ : ByteArray), false))))) = some (r1, r2) := H
  have A2 := Aside0.mk A20
  clear A20
  replace H := Option.bind_eq_some_iff.mp H
  obtain ⟨⟨t204, t205⟩, A30, H⟩ := H
  replace H : ((roadbookref02_Put.f k a0_5 4).bind fun bt206 => (if t203 = true then (if t205 = true then (if bt206.2 = true then (if (a0_2.size : Int) = 4 then (if (a0_3.size : Int) = 4 then (if (a0_4.size : Int) = 4 then (if t202.size + t204.size ≤ 9223372036854775807 then (if (t202 ++ t204).size + a0_2.size ≤ 9223372036854775807 then (if ((t202 ++ t204) ++ a0_2).size + a0_3.size ≤ 9223372036854775807 then (if (((t202 ++ t204) ++ a0_2) ++ a0_3).size + a0_4.size ≤ 9223372036854775807 then (if ((((t202 ++ t204) ++ a0_2) ++ a0_3) ++ a0_4).size + bt206.1.size ≤ 9223372036854775807 then (some (((((t202 ++ t204) ++ a0_2) ++ a0_3) ++ a0_4) ++ bt206.1, true)) else (none)) else (none)) else (none)) else (none)) else (none)) else (some ((⟨#[]⟩ : ByteArray), false))) else (some ((⟨#[]⟩ : ByteArray), false))) else (some ((⟨#[]⟩ : ByteArray), false))) else (some ((⟨#[]⟩ : ByteArray), false))) else (some ((⟨#[]⟩ : ByteArray), false))) else (some ((⟨#[]⟩ : ByteArray), false)))) = some (r1, r2) := H
  have A3 := Aside0.mk A30
  clear A30
  replace H := Option.bind_eq_some_iff.mp H
  obtain ⟨⟨t206, t207⟩, A40, H⟩ := H
  replace H : (if t203 = true then (if t205 = true then (if t207 = true then (if (a0_2.size : Int) = 4 then (if (a0_3.size : Int) = 4 then (if (a0_4.size : Int) = 4 then (if t202.size + t204.size ≤ 9223372036854775807 then (if (t202 ++ t204).size + a0_2.size ≤ 9223372036854775807 then (if ((t202 ++ t204) ++ a0_2).size + a0_3.size ≤ 9223372036854775807 then (if (((t202 ++ t204) ++ a0_2) ++ a0_3).size + a0_4.size ≤ 9223372036854775807 then (if ((((t202 ++ t204) ++ a0_2) ++ a0_3) ++ a0_4).size + t206.size ≤ 9223372036854775807 then (some (((((t202 ++ t204) ++ a0_2) ++ a0_3) ++ a0_4) ++ t206, true)) else (none)) else (none)) else (none)) else (none)) else (none)) else (some ((⟨#[]⟩ : ByteArray), false))) else (some ((⟨#[]⟩ : ByteArray), false))) else (some ((⟨#[]⟩ : ByteArray), false))) else (some ((⟨#[]⟩ : ByteArray), false))) else (some ((⟨#[]⟩ : ByteArray), false))) else (some ((⟨#[]⟩ : ByteArray), false))) = some (r1, r2) := H
  have A4 := Aside0.mk A40
  clear A40
  by_cases c5 : t203 = true
  · subst c5
    have H1 : (if t205 = true then (if t207 = true then (if (a0_2.size : Int) = 4 then (if (a0_3.size : Int) = 4 then (if (a0_4.size : Int) = 4 then (if t202.size + t204.size ≤ 9223372036854775807 then (if (t202 ++ t204).size + a0_2.size ≤ 9223372036854775807 then (if ((t202 ++ t204) ++ a0_2).size + a0_3.size ≤ 9223372036854775807 then (if (((t202 ++ t204) ++ a0_2) ++ a0_3).size + a0_4.size ≤ 9223372036854775807 then (if ((((t202 ++ t204) ++ a0_2) ++ a0_3) ++ a0_4).size + t206.size ≤ 9223372036854775807 then (some (((((t202 ++ t204) ++ a0_2) ++ a0_3) ++ a0_4) ++ t206, true)) else (none)) else (none)) else (none)) else (none)) else (none)) else (some ((⟨#[]⟩ : ByteArray), false))) else (some ((⟨#[]⟩ : ByteArray), false))) else (some ((⟨#[]⟩ : ByteArray), false))) else (some ((⟨#[]⟩ : ByteArray), false))) else (some ((⟨#[]⟩ : ByteArray), false))) = some (r1, r2) := by rw [if_pos rfl] at H; exact H
    clear H
    have H := H1
    clear H1
    by_cases c6 : t205 = true
    · subst c6
      have H1 : (if t207 = true then (if (a0_2.size : Int) = 4 then (if (a0_3.size : Int) = 4 then (if (a0_4.size : Int) = 4 then (if t202.size + t204.size ≤ 9223372036854775807 then (if (t202 ++ t204).size + a0_2.size ≤ 9223372036854775807 then (if ((t202 ++ t204) ++ a0_2).size + a0_3.size ≤ 9223372036854775807 then (if (((t202 ++ t204) ++ a0_2) ++ a0_3).size + a0_4.size ≤ 9223372036854775807 then (if ((((t202 ++ t204) ++ a0_2) ++ a0_3) ++ a0_4).size + t206.size ≤ 9223372036854775807 then (some (((((t202 ++ t204) ++ a0_2) ++ a0_3) ++ a0_4) ++ t206, true)) else (none)) else (none)) else (none)) else (none)) else (none)) else (some ((⟨#[]⟩ : ByteArray), false))) else (some ((⟨#[]⟩ : ByteArray), false))) else (some ((⟨#[]⟩ : ByteArray), false))) else (some ((⟨#[]⟩ : ByteArray), false))) = some (r1, r2) := by rw [if_pos rfl] at H; exact H
      clear H
      have H := H1
      clear H1
      by_cases c7 : t207 = true
      · subst c7
        have H1 : (if (a0_2.size : Int) = 4 then (if (a0_3.size : Int) = 4 then (if (a0_4.size : Int) = 4 then (if t202.size + t204.size ≤ 9223372036854775807 then (if (t202 ++ t204).size + a0_2.size ≤ 9223372036854775807 then (if ((t202 ++ t204) ++ a0_2).size + a0_3.size ≤ 9223372036854775807 then (if (((t202 ++ t204) ++ a0_2) ++ a0_3).size + a0_4.size ≤ 9223372036854775807 then (if ((((t202 ++ t204) ++ a0_2) ++ a0_3) ++ a0_4).size + t206.size ≤ 9223372036854775807 then (some (((((t202 ++ t204) ++ a0_2) ++ a0_3) ++ a0_4) ++ t206, true)) else (none)) else (none)) else (none)) else (none)) else (none)) else (some ((⟨#[]⟩ : ByteArray), false))) else (some ((⟨#[]⟩ : ByteArray), false))) else (some ((⟨#[]⟩ : ByteArray), false))) = some (r1, r2) := by rw [if_pos rfl] at H; exact H
        clear H
        have H := H1
        clear H1
        by_cases c8 : (a0_2.size : Int) = 4
        · rw [if_pos c8] at H
          have c8b0 : ((a0_2.size : Int) == 4) = true := beq_iff_eq.mpr c8
          have c8b1 : ((a0_2.size : Int) != 4) = false := bne_eq_false_iff_eq.mpr c8
          clear c8
          by_cases c9 : (a0_3.size : Int) = 4
          · rw [if_pos c9] at H
            have c9b0 : ((a0_3.size : Int) == 4) = true := beq_iff_eq.mpr c9
            have c9b1 : ((a0_3.size : Int) != 4) = false := bne_eq_false_iff_eq.mpr c9
            clear c9
            by_cases c10 : (a0_4.size : Int) = 4
            · rw [if_pos c10] at H
              have c10b0 : ((a0_4.size : Int) == 4) = true := beq_iff_eq.mpr c10
              have c10b1 : ((a0_4.size : Int) != 4) = false := bne_eq_false_iff_eq.mpr c10
              clear c10
              by_cases c11 : t202.size + t204.size ≤ 9223372036854775807
              · rw [if_pos c11] at H
                have c11b0 := eq_true c11
                have c11b1 : decide (t202.size + t204.size ≤ 9223372036854775807) = true := decide_eq_true c11
                try have c11b2 : (9223372036854775807 < t202.size + t204.size) = False := eq_false (Nat.not_lt.2 c11)
                by_cases c12 : (t202 ++ t204).size + a0_2.size ≤ 9223372036854775807
                · rw [if_pos c12] at H
                  have c12b0 := eq_true c12
                  have c12b1 : decide ((t202 ++ t204).size + a0_2.size ≤ 9223372036854775807) = true := decide_eq_true c12
                  try have c12b2 : (9223372036854775807 < (t202 ++ t204).size + a0_2.size) = False := eq_false (Nat.not_lt.2 c12)
                  by_cases c13 : ((t202 ++ t204) ++ a0_2).size + a0_3.size ≤ 9223372036854775807
                  · rw [if_pos c13] at H
                    have c13b0 := eq_true c13
                    have c13b1 : decide (((t202 ++ t204) ++ a0_2).size + a0_3.size ≤ 9223372036854775807) = true := decide_eq_true c13
                    try have c13b2 : (9223372036854775807 < ((t202 ++ t204) ++ a0_2).size + a0_3.size) = False := eq_false (Nat.not_lt.2 c13)
                    by_cases c14 : (((t202 ++ t204) ++ a0_2) ++ a0_3).size + a0_4.size ≤ 9223372036854775807
                    · rw [if_pos c14] at H
                      have c14b0 := eq_true c14
                      have c14b1 : decide ((((t202 ++ t204) ++ a0_2) ++ a0_3).size + a0_4.size ≤ 9223372036854775807) = true := decide_eq_true c14
                      try have c14b2 : (9223372036854775807 < (((t202 ++ t204) ++ a0_2) ++ a0_3).size + a0_4.size) = False := eq_false (Nat.not_lt.2 c14)
                      by_cases c15 : ((((t202 ++ t204) ++ a0_2) ++ a0_3) ++ a0_4).size + t206.size ≤ 9223372036854775807
                      · rw [if_pos c15] at H
                        have c15b0 := eq_true c15
                        have c15b1 : decide (((((t202 ++ t204) ++ a0_2) ++ a0_3) ++ a0_4).size + t206.size ≤ 9223372036854775807) = true := decide_eq_true c15
                        try have c15b2 : (9223372036854775807 < ((((t202 ++ t204) ++ a0_2) ++ a0_3) ++ a0_4).size + t206.size) = False := eq_false (Nat.not_lt.2 c15)
                        simp only [Option.some.injEq, Prod.mk.injEq] at H
                        obtain ⟨rfl, rfl⟩ := H
                        go_enter Try.func16, Try.ntmps16
                        go_wp2_with (first | ((with_reducible refine gate_dst (N := 1) rfl ?_); refine box_event ?hg (N := 1) ?hd (cs := #[.int .i64 a0_0, .int .i64 a0_1, .string a0_2, .string a0_3, .string a0_4, .int .i64 a0_5]) (t := 23) ?hr ?_; (case hd => rfl); (case hg => rfl); (case hr => first | (go_simp; done) | (go_simp; rfl)); intro gb201 hg w16 hbox hb; have n0_ := Aside0.mk (below_step (bel) hb); have n1_ := Aside0.mk (hbox); have n2_ := Aside0.mk ((by rw [hg]; exact bsz : w.heap.size ≤ gb201)); have n3_ := Aside0.mk ((by rw [hg]; exact bsz : w.heap.size ≤ gb201)); clear HB; have HB := n0_; have BK201 := n1_; have GW201 := n2_; have GE201 := n3_; clear n0_ n1_ n2_ n3_; clear hb hbox hg; have hcz17_0 := cl0 BK201.out; have hfz17_0 := blk_frozen BK201.out 0) | ((with_reducible refine gate_callee (f := 44) rfl ?_); refine goesL_ (some 13) rfl rfl Try.func44 (by kernel_rfl) rfl #[.int .i64 a0_0, .int .i64 2] rfl gAr ?_; (with_reducible refine (roadbookref02_Put.calls k a0_0 2 t202 true _ A2.out).mono ?_); rintro e w18 ⟨rfl, hb⟩; refine ⟨_, rfl, ?_⟩; have n0_ := Aside0.mk (blk_below (blk_below BK201.out bll) hb); have n1_ := Aside0.mk (below_step (bel) hb); clear BK201; clear HB; have BK201 := n0_; have HB := n1_; clear n0_ n1_; (try clear hb); have hcz19_1 := cl1 BK201.out; have hfz19_1 := blk_frozen BK201.out 1) | ((with_reducible refine gate_callee (f := 44) rfl ?_); refine goesL_ (some 19) rfl rfl Try.func44 (by kernel_rfl) rfl #[.int .i64 a0_1, .int .i64 2] rfl gAr ?_; (with_reducible refine (roadbookref02_Put.calls k a0_1 2 t204 true _ A3.out).mono ?_); rintro e w20 ⟨rfl, hb⟩; refine ⟨_, rfl, ?_⟩; have n0_ := Aside0.mk (blk_below (blk_below BK201.out bll) hb); have n1_ := Aside0.mk (below_step (bel) hb); clear BK201; clear HB; have BK201 := n0_; have HB := n1_; clear n0_ n1_; (try clear hb); have hcz21_5 := cl5 BK201.out; have hfz21_5 := blk_frozen BK201.out 5) | ((with_reducible refine gate_callee (f := 44) rfl ?_); refine goesL_ (some 25) rfl rfl Try.func44 (by kernel_rfl) rfl #[.int .i64 a0_5, .int .i64 4] rfl gAr ?_; (with_reducible refine (roadbookref02_Put.calls k a0_5 4 t206 true _ A4.out).mono ?_); rintro e w22 ⟨rfl, hb⟩; refine ⟨_, rfl, ?_⟩; have n0_ := Aside0.mk (blk_below (blk_below BK201.out bll) hb); have n1_ := Aside0.mk (below_step (bel) hb); clear BK201; clear HB; have BK201 := n0_; have HB := n1_; clear n0_ n1_; (try clear hb); have hcz23_2 := cl2 BK201.out; have hfz23_2 := blk_frozen BK201.out 2; have hcz24_3 := cl3 BK201.out; have hfz24_3 := blk_frozen BK201.out 3; have hcz25_4 := cl4 BK201.out; have hfz25_4 := blk_frozen BK201.out 4))
                        go_ret2
                        exact ⟨rtE, bel⟩
                      · rw [if_neg c15] at H
                        exact absurd H (by simp)
                    · rw [if_neg c14] at H
                      exact absurd H (by simp)
                  · rw [if_neg c13] at H
                    exact absurd H (by simp)
                · rw [if_neg c12] at H
                  exact absurd H (by simp)
              · rw [if_neg c11] at H
                exact absurd H (by simp)
            · rw [if_neg c10] at H
              have c10b0 : ((a0_4.size : Int) == 4) = false := beq_eq_false_iff_ne.mpr c10
              have c10b1 : ((a0_4.size : Int) != 4) = true := bne_iff_ne.mpr c10
              simp only [Option.some.injEq, Prod.mk.injEq] at H
              obtain ⟨rfl, rfl⟩ := H
              go_enter Try.func16, Try.ntmps16
              go_wp2_with (first | ((with_reducible refine gate_dst (N := 1) rfl ?_); refine box_event ?hg (N := 1) ?hd (cs := #[.int .i64 a0_0, .int .i64 a0_1, .string a0_2, .string a0_3, .string a0_4, .int .i64 a0_5]) (t := 23) ?hr ?_; (case hd => rfl); (case hg => rfl); (case hr => first | (go_simp; done) | (go_simp; rfl)); intro gb201 hg w26 hbox hb; have n0_ := Aside0.mk (below_step (bel) hb); have n1_ := Aside0.mk (hbox); have n2_ := Aside0.mk ((by rw [hg]; exact bsz : w.heap.size ≤ gb201)); have n3_ := Aside0.mk ((by rw [hg]; exact bsz : w.heap.size ≤ gb201)); clear HB; have HB := n0_; have BK201 := n1_; have GW201 := n2_; have GE201 := n3_; clear n0_ n1_ n2_ n3_; clear hb hbox hg; have hcz27_0 := cl0 BK201.out; have hfz27_0 := blk_frozen BK201.out 0) | ((with_reducible refine gate_callee (f := 44) rfl ?_); refine goesL_ (some 13) rfl rfl Try.func44 (by kernel_rfl) rfl #[.int .i64 a0_0, .int .i64 2] rfl gAr ?_; (with_reducible refine (roadbookref02_Put.calls k a0_0 2 t202 true _ A2.out).mono ?_); rintro e w28 ⟨rfl, hb⟩; refine ⟨_, rfl, ?_⟩; have n0_ := Aside0.mk (blk_below (blk_below BK201.out bll) hb); have n1_ := Aside0.mk (below_step (bel) hb); clear BK201; clear HB; have BK201 := n0_; have HB := n1_; clear n0_ n1_; (try clear hb); have hcz29_1 := cl1 BK201.out; have hfz29_1 := blk_frozen BK201.out 1) | ((with_reducible refine gate_callee (f := 44) rfl ?_); refine goesL_ (some 19) rfl rfl Try.func44 (by kernel_rfl) rfl #[.int .i64 a0_1, .int .i64 2] rfl gAr ?_; (with_reducible refine (roadbookref02_Put.calls k a0_1 2 t204 true _ A3.out).mono ?_); rintro e w30 ⟨rfl, hb⟩; refine ⟨_, rfl, ?_⟩; have n0_ := Aside0.mk (blk_below (blk_below BK201.out bll) hb); have n1_ := Aside0.mk (below_step (bel) hb); clear BK201; clear HB; have BK201 := n0_; have HB := n1_; clear n0_ n1_; (try clear hb); have hcz31_5 := cl5 BK201.out; have hfz31_5 := blk_frozen BK201.out 5) | ((with_reducible refine gate_callee (f := 44) rfl ?_); refine goesL_ (some 25) rfl rfl Try.func44 (by kernel_rfl) rfl #[.int .i64 a0_5, .int .i64 4] rfl gAr ?_; (with_reducible refine (roadbookref02_Put.calls k a0_5 4 t206 true _ A4.out).mono ?_); rintro e w32 ⟨rfl, hb⟩; refine ⟨_, rfl, ?_⟩; have n0_ := Aside0.mk (blk_below (blk_below BK201.out bll) hb); have n1_ := Aside0.mk (below_step (bel) hb); clear BK201; clear HB; have BK201 := n0_; have HB := n1_; clear n0_ n1_; (try clear hb); have hcz33_2 := cl2 BK201.out; have hfz33_2 := blk_frozen BK201.out 2; have hcz34_3 := cl3 BK201.out; have hfz34_3 := blk_frozen BK201.out 3; have hcz35_4 := cl4 BK201.out; have hfz35_4 := blk_frozen BK201.out 4))
              go_ret2
              exact ⟨rtE, bel⟩
          · rw [if_neg c9] at H
            have c9b0 : ((a0_3.size : Int) == 4) = false := beq_eq_false_iff_ne.mpr c9
            have c9b1 : ((a0_3.size : Int) != 4) = true := bne_iff_ne.mpr c9
            simp only [Option.some.injEq, Prod.mk.injEq] at H
            obtain ⟨rfl, rfl⟩ := H
            go_enter Try.func16, Try.ntmps16
            go_wp2_with (first | ((with_reducible refine gate_dst (N := 1) rfl ?_); refine box_event ?hg (N := 1) ?hd (cs := #[.int .i64 a0_0, .int .i64 a0_1, .string a0_2, .string a0_3, .string a0_4, .int .i64 a0_5]) (t := 23) ?hr ?_; (case hd => rfl); (case hg => rfl); (case hr => first | (go_simp; done) | (go_simp; rfl)); intro gb201 hg w36 hbox hb; have n0_ := Aside0.mk (below_step (bel) hb); have n1_ := Aside0.mk (hbox); have n2_ := Aside0.mk ((by rw [hg]; exact bsz : w.heap.size ≤ gb201)); have n3_ := Aside0.mk ((by rw [hg]; exact bsz : w.heap.size ≤ gb201)); clear HB; have HB := n0_; have BK201 := n1_; have GW201 := n2_; have GE201 := n3_; clear n0_ n1_ n2_ n3_; clear hb hbox hg; have hcz37_0 := cl0 BK201.out; have hfz37_0 := blk_frozen BK201.out 0) | ((with_reducible refine gate_callee (f := 44) rfl ?_); refine goesL_ (some 13) rfl rfl Try.func44 (by kernel_rfl) rfl #[.int .i64 a0_0, .int .i64 2] rfl gAr ?_; (with_reducible refine (roadbookref02_Put.calls k a0_0 2 t202 true _ A2.out).mono ?_); rintro e w38 ⟨rfl, hb⟩; refine ⟨_, rfl, ?_⟩; have n0_ := Aside0.mk (blk_below (blk_below BK201.out bll) hb); have n1_ := Aside0.mk (below_step (bel) hb); clear BK201; clear HB; have BK201 := n0_; have HB := n1_; clear n0_ n1_; (try clear hb); have hcz39_1 := cl1 BK201.out; have hfz39_1 := blk_frozen BK201.out 1) | ((with_reducible refine gate_callee (f := 44) rfl ?_); refine goesL_ (some 19) rfl rfl Try.func44 (by kernel_rfl) rfl #[.int .i64 a0_1, .int .i64 2] rfl gAr ?_; (with_reducible refine (roadbookref02_Put.calls k a0_1 2 t204 true _ A3.out).mono ?_); rintro e w40 ⟨rfl, hb⟩; refine ⟨_, rfl, ?_⟩; have n0_ := Aside0.mk (blk_below (blk_below BK201.out bll) hb); have n1_ := Aside0.mk (below_step (bel) hb); clear BK201; clear HB; have BK201 := n0_; have HB := n1_; clear n0_ n1_; (try clear hb); have hcz41_5 := cl5 BK201.out; have hfz41_5 := blk_frozen BK201.out 5) | ((with_reducible refine gate_callee (f := 44) rfl ?_); refine goesL_ (some 25) rfl rfl Try.func44 (by kernel_rfl) rfl #[.int .i64 a0_5, .int .i64 4] rfl gAr ?_; (with_reducible refine (roadbookref02_Put.calls k a0_5 4 t206 true _ A4.out).mono ?_); rintro e w42 ⟨rfl, hb⟩; refine ⟨_, rfl, ?_⟩; have n0_ := Aside0.mk (blk_below (blk_below BK201.out bll) hb); have n1_ := Aside0.mk (below_step (bel) hb); clear BK201; clear HB; have BK201 := n0_; have HB := n1_; clear n0_ n1_; (try clear hb); have hcz43_2 := cl2 BK201.out; have hfz43_2 := blk_frozen BK201.out 2; have hcz44_3 := cl3 BK201.out; have hfz44_3 := blk_frozen BK201.out 3))
            go_ret2
            exact ⟨rtE, bel⟩
        · rw [if_neg c8] at H
          have c8b0 : ((a0_2.size : Int) == 4) = false := beq_eq_false_iff_ne.mpr c8
          have c8b1 : ((a0_2.size : Int) != 4) = true := bne_iff_ne.mpr c8
          simp only [Option.some.injEq, Prod.mk.injEq] at H
          obtain ⟨rfl, rfl⟩ := H
          go_enter Try.func16, Try.ntmps16
          go_wp2_with (first | ((with_reducible refine gate_dst (N := 1) rfl ?_); refine box_event ?hg (N := 1) ?hd (cs := #[.int .i64 a0_0, .int .i64 a0_1, .string a0_2, .string a0_3, .string a0_4, .int .i64 a0_5]) (t := 23) ?hr ?_; (case hd => rfl); (case hg => rfl); (case hr => first | (go_simp; done) | (go_simp; rfl)); intro gb201 hg w45 hbox hb; have n0_ := Aside0.mk (below_step (bel) hb); have n1_ := Aside0.mk (hbox); have n2_ := Aside0.mk ((by rw [hg]; exact bsz : w.heap.size ≤ gb201)); have n3_ := Aside0.mk ((by rw [hg]; exact bsz : w.heap.size ≤ gb201)); clear HB; have HB := n0_; have BK201 := n1_; have GW201 := n2_; have GE201 := n3_; clear n0_ n1_ n2_ n3_; clear hb hbox hg; have hcz46_0 := cl0 BK201.out; have hfz46_0 := blk_frozen BK201.out 0) | ((with_reducible refine gate_callee (f := 44) rfl ?_); refine goesL_ (some 13) rfl rfl Try.func44 (by kernel_rfl) rfl #[.int .i64 a0_0, .int .i64 2] rfl gAr ?_; (with_reducible refine (roadbookref02_Put.calls k a0_0 2 t202 true _ A2.out).mono ?_); rintro e w47 ⟨rfl, hb⟩; refine ⟨_, rfl, ?_⟩; have n0_ := Aside0.mk (blk_below (blk_below BK201.out bll) hb); have n1_ := Aside0.mk (below_step (bel) hb); clear BK201; clear HB; have BK201 := n0_; have HB := n1_; clear n0_ n1_; (try clear hb); have hcz48_1 := cl1 BK201.out; have hfz48_1 := blk_frozen BK201.out 1) | ((with_reducible refine gate_callee (f := 44) rfl ?_); refine goesL_ (some 19) rfl rfl Try.func44 (by kernel_rfl) rfl #[.int .i64 a0_1, .int .i64 2] rfl gAr ?_; (with_reducible refine (roadbookref02_Put.calls k a0_1 2 t204 true _ A3.out).mono ?_); rintro e w49 ⟨rfl, hb⟩; refine ⟨_, rfl, ?_⟩; have n0_ := Aside0.mk (blk_below (blk_below BK201.out bll) hb); have n1_ := Aside0.mk (below_step (bel) hb); clear BK201; clear HB; have BK201 := n0_; have HB := n1_; clear n0_ n1_; (try clear hb); have hcz50_5 := cl5 BK201.out; have hfz50_5 := blk_frozen BK201.out 5) | ((with_reducible refine gate_callee (f := 44) rfl ?_); refine goesL_ (some 25) rfl rfl Try.func44 (by kernel_rfl) rfl #[.int .i64 a0_5, .int .i64 4] rfl gAr ?_; (with_reducible refine (roadbookref02_Put.calls k a0_5 4 t206 true _ A4.out).mono ?_); rintro e w51 ⟨rfl, hb⟩; refine ⟨_, rfl, ?_⟩; have n0_ := Aside0.mk (blk_below (blk_below BK201.out bll) hb); have n1_ := Aside0.mk (below_step (bel) hb); clear BK201; clear HB; have BK201 := n0_; have HB := n1_; clear n0_ n1_; (try clear hb); have hcz52_2 := cl2 BK201.out; have hfz52_2 := blk_frozen BK201.out 2))
          go_ret2
          exact ⟨rtE, bel⟩
      · replace c7 := Bool.eq_false_iff.mpr c7
        subst c7
        have H1 : (some ((⟨#[]⟩ : ByteArray), false)) = some (r1, r2) := by rw [if_neg (show ¬ (false = true) by decide)] at H; exact H
        clear H
        have H := H1
        clear H1
        simp only [Option.some.injEq, Prod.mk.injEq] at H
        obtain ⟨rfl, rfl⟩ := H
        go_enter Try.func16, Try.ntmps16
        go_wp2_with (first | ((with_reducible refine gate_dst (N := 1) rfl ?_); refine box_event ?hg (N := 1) ?hd (cs := #[.int .i64 a0_0, .int .i64 a0_1, .string a0_2, .string a0_3, .string a0_4, .int .i64 a0_5]) (t := 23) ?hr ?_; (case hd => rfl); (case hg => rfl); (case hr => first | (go_simp; done) | (go_simp; rfl)); intro gb201 hg w53 hbox hb; have n0_ := Aside0.mk (below_step (bel) hb); have n1_ := Aside0.mk (hbox); have n2_ := Aside0.mk ((by rw [hg]; exact bsz : w.heap.size ≤ gb201)); have n3_ := Aside0.mk ((by rw [hg]; exact bsz : w.heap.size ≤ gb201)); clear HB; have HB := n0_; have BK201 := n1_; have GW201 := n2_; have GE201 := n3_; clear n0_ n1_ n2_ n3_; clear hb hbox hg; have hcz54_0 := cl0 BK201.out; have hfz54_0 := blk_frozen BK201.out 0) | ((with_reducible refine gate_callee (f := 44) rfl ?_); refine goesL_ (some 13) rfl rfl Try.func44 (by kernel_rfl) rfl #[.int .i64 a0_0, .int .i64 2] rfl gAr ?_; (with_reducible refine (roadbookref02_Put.calls k a0_0 2 t202 true _ A2.out).mono ?_); rintro e w55 ⟨rfl, hb⟩; refine ⟨_, rfl, ?_⟩; have n0_ := Aside0.mk (blk_below (blk_below BK201.out bll) hb); have n1_ := Aside0.mk (below_step (bel) hb); clear BK201; clear HB; have BK201 := n0_; have HB := n1_; clear n0_ n1_; (try clear hb); have hcz56_1 := cl1 BK201.out; have hfz56_1 := blk_frozen BK201.out 1) | ((with_reducible refine gate_callee (f := 44) rfl ?_); refine goesL_ (some 19) rfl rfl Try.func44 (by kernel_rfl) rfl #[.int .i64 a0_1, .int .i64 2] rfl gAr ?_; (with_reducible refine (roadbookref02_Put.calls k a0_1 2 t204 true _ A3.out).mono ?_); rintro e w57 ⟨rfl, hb⟩; refine ⟨_, rfl, ?_⟩; have n0_ := Aside0.mk (blk_below (blk_below BK201.out bll) hb); have n1_ := Aside0.mk (below_step (bel) hb); clear BK201; clear HB; have BK201 := n0_; have HB := n1_; clear n0_ n1_; (try clear hb); have hcz58_5 := cl5 BK201.out; have hfz58_5 := blk_frozen BK201.out 5) | ((with_reducible refine gate_callee (f := 44) rfl ?_); refine goesL_ (some 25) rfl rfl Try.func44 (by kernel_rfl) rfl #[.int .i64 a0_5, .int .i64 4] rfl gAr ?_; (with_reducible refine (roadbookref02_Put.calls k a0_5 4 t206 false _ A4.out).mono ?_); rintro e w59 ⟨rfl, hb⟩; refine ⟨_, rfl, ?_⟩; have n0_ := Aside0.mk (blk_below (blk_below BK201.out bll) hb); have n1_ := Aside0.mk (below_step (bel) hb); clear BK201; clear HB; have BK201 := n0_; have HB := n1_; clear n0_ n1_; (try clear hb)))
        go_ret2
        exact ⟨rtE, bel⟩
    · replace c6 := Bool.eq_false_iff.mpr c6
      subst c6
      have H1 : (some ((⟨#[]⟩ : ByteArray), false)) = some (r1, r2) := by rw [if_neg (show ¬ (false = true) by decide)] at H; exact H
      clear H
      have H := H1
      clear H1
      simp only [Option.some.injEq, Prod.mk.injEq] at H
      obtain ⟨rfl, rfl⟩ := H
      go_enter Try.func16, Try.ntmps16
      go_wp2_with (first | ((with_reducible refine gate_dst (N := 1) rfl ?_); refine box_event ?hg (N := 1) ?hd (cs := #[.int .i64 a0_0, .int .i64 a0_1, .string a0_2, .string a0_3, .string a0_4, .int .i64 a0_5]) (t := 23) ?hr ?_; (case hd => rfl); (case hg => rfl); (case hr => first | (go_simp; done) | (go_simp; rfl)); intro gb201 hg w60 hbox hb; have n0_ := Aside0.mk (below_step (bel) hb); have n1_ := Aside0.mk (hbox); have n2_ := Aside0.mk ((by rw [hg]; exact bsz : w.heap.size ≤ gb201)); have n3_ := Aside0.mk ((by rw [hg]; exact bsz : w.heap.size ≤ gb201)); clear HB; have HB := n0_; have BK201 := n1_; have GW201 := n2_; have GE201 := n3_; clear n0_ n1_ n2_ n3_; clear hb hbox hg; have hcz61_0 := cl0 BK201.out; have hfz61_0 := blk_frozen BK201.out 0) | ((with_reducible refine gate_callee (f := 44) rfl ?_); refine goesL_ (some 13) rfl rfl Try.func44 (by kernel_rfl) rfl #[.int .i64 a0_0, .int .i64 2] rfl gAr ?_; (with_reducible refine (roadbookref02_Put.calls k a0_0 2 t202 true _ A2.out).mono ?_); rintro e w62 ⟨rfl, hb⟩; refine ⟨_, rfl, ?_⟩; have n0_ := Aside0.mk (blk_below (blk_below BK201.out bll) hb); have n1_ := Aside0.mk (below_step (bel) hb); clear BK201; clear HB; have BK201 := n0_; have HB := n1_; clear n0_ n1_; (try clear hb); have hcz63_1 := cl1 BK201.out; have hfz63_1 := blk_frozen BK201.out 1) | ((with_reducible refine gate_callee (f := 44) rfl ?_); refine goesL_ (some 19) rfl rfl Try.func44 (by kernel_rfl) rfl #[.int .i64 a0_1, .int .i64 2] rfl gAr ?_; (with_reducible refine (roadbookref02_Put.calls k a0_1 2 t204 false _ A3.out).mono ?_); rintro e w64 ⟨rfl, hb⟩; refine ⟨_, rfl, ?_⟩; have n0_ := Aside0.mk (blk_below (blk_below BK201.out bll) hb); have n1_ := Aside0.mk (below_step (bel) hb); clear BK201; clear HB; have BK201 := n0_; have HB := n1_; clear n0_ n1_; (try clear hb); have hcz65_5 := cl5 BK201.out; have hfz65_5 := blk_frozen BK201.out 5) | ((with_reducible refine gate_callee (f := 44) rfl ?_); refine goesL_ (some 25) rfl rfl Try.func44 (by kernel_rfl) rfl #[.int .i64 a0_5, .int .i64 4] rfl gAr ?_; (with_reducible refine (roadbookref02_Put.calls k a0_5 4 t206 t207 _ A4.out).mono ?_); rintro e w66 ⟨rfl, hb⟩; refine ⟨_, rfl, ?_⟩; have n0_ := Aside0.mk (blk_below (blk_below BK201.out bll) hb); have n1_ := Aside0.mk (below_step (bel) hb); clear BK201; clear HB; have BK201 := n0_; have HB := n1_; clear n0_ n1_; (try clear hb)))
      go_ret2
      exact ⟨rtE, bel⟩
  · replace c5 := Bool.eq_false_iff.mpr c5
    subst c5
    have H1 : (some ((⟨#[]⟩ : ByteArray), false)) = some (r1, r2) := by rw [if_neg (show ¬ (false = true) by decide)] at H; exact H
    clear H
    have H := H1
    clear H1
    simp only [Option.some.injEq, Prod.mk.injEq] at H
    obtain ⟨rfl, rfl⟩ := H
    go_enter Try.func16, Try.ntmps16
    go_wp2_with (first | ((with_reducible refine gate_dst (N := 1) rfl ?_); refine box_event ?hg (N := 1) ?hd (cs := #[.int .i64 a0_0, .int .i64 a0_1, .string a0_2, .string a0_3, .string a0_4, .int .i64 a0_5]) (t := 23) ?hr ?_; (case hd => rfl); (case hg => rfl); (case hr => first | (go_simp; done) | (go_simp; rfl)); intro gb201 hg w67 hbox hb; have n0_ := Aside0.mk (below_step (bel) hb); have n1_ := Aside0.mk (hbox); have n2_ := Aside0.mk ((by rw [hg]; exact bsz : w.heap.size ≤ gb201)); have n3_ := Aside0.mk ((by rw [hg]; exact bsz : w.heap.size ≤ gb201)); clear HB; have HB := n0_; have BK201 := n1_; have GW201 := n2_; have GE201 := n3_; clear n0_ n1_ n2_ n3_; clear hb hbox hg; have hcz68_0 := cl0 BK201.out; have hfz68_0 := blk_frozen BK201.out 0) | ((with_reducible refine gate_callee (f := 44) rfl ?_); refine goesL_ (some 13) rfl rfl Try.func44 (by kernel_rfl) rfl #[.int .i64 a0_0, .int .i64 2] rfl gAr ?_; (with_reducible refine (roadbookref02_Put.calls k a0_0 2 t202 false _ A2.out).mono ?_); rintro e w69 ⟨rfl, hb⟩; refine ⟨_, rfl, ?_⟩; have n0_ := Aside0.mk (blk_below (blk_below BK201.out bll) hb); have n1_ := Aside0.mk (below_step (bel) hb); clear BK201; clear HB; have BK201 := n0_; have HB := n1_; clear n0_ n1_; (try clear hb); have hcz70_1 := cl1 BK201.out; have hfz70_1 := blk_frozen BK201.out 1) | ((with_reducible refine gate_callee (f := 44) rfl ?_); refine goesL_ (some 19) rfl rfl Try.func44 (by kernel_rfl) rfl #[.int .i64 a0_1, .int .i64 2] rfl gAr ?_; (with_reducible refine (roadbookref02_Put.calls k a0_1 2 t204 t205 _ A3.out).mono ?_); rintro e w71 ⟨rfl, hb⟩; refine ⟨_, rfl, ?_⟩; have n0_ := Aside0.mk (blk_below (blk_below BK201.out bll) hb); have n1_ := Aside0.mk (below_step (bel) hb); clear BK201; clear HB; have BK201 := n0_; have HB := n1_; clear n0_ n1_; (try clear hb); have hcz72_5 := cl5 BK201.out; have hfz72_5 := blk_frozen BK201.out 5) | ((with_reducible refine gate_callee (f := 44) rfl ?_); refine goesL_ (some 25) rfl rfl Try.func44 (by kernel_rfl) rfl #[.int .i64 a0_5, .int .i64 4] rfl gAr ?_; (with_reducible refine (roadbookref02_Put.calls k a0_5 4 t206 t207 _ A4.out).mono ?_); rintro e w73 ⟨rfl, hb⟩; refine ⟨_, rfl, ?_⟩; have n0_ := Aside0.mk (blk_below (blk_below BK201.out bll) hb); have n1_ := Aside0.mk (below_step (bel) hb); clear BK201; clear HB; have BK201 := n0_; have HB := n1_; clear n0_ n1_; (try clear hb)))
    go_ret2
    exact ⟨rtE, bel⟩

/-! ### cursor_Left: function 45 -/
def cursor_Left.f (a0_0 : ByteArray) (a0_1 : Int) (a0_2 : Int) (a0_3 : Bool) : Option (Int) := if a0_3 = true then (some 0) else (some (wrap64 (a0_2 - a0_1)))
set_option maxHeartbeats 8000000 in
set_option maxRecDepth 100000 in
theorem cursor_Left.calls (a0_0 : ByteArray) (a0_1 : Int) (a0_2 : Int) (a0_3 : Bool) (r : Int) (w : World) (h : cursor_Left.f a0_0 a0_1 a0_2 a0_3 = some r) :
    Calls Try.prog 45 #[.agg #[.string a0_0, .int .i64 a0_1, .int .i64 a0_2, .bool a0_3]] w fun e w' => e = .returned (.int .i64 r) ∧ Below w.heap.size w w' := by
  have hu60 := Try.underlying60
  have HB := Aside0.mk (Below.refl w.heap.size w)
  have H : (if a0_3 = true then (some 0) else (some (wrap64 (a0_2 - a0_1)))) = some r := h
  clear h
  by_cases c2 : a0_3 = true
  · subst c2
    have H1 : (some 0) = some r := by rw [if_pos rfl] at H; exact H
    clear H
    have H := H1
    clear H1
    obtain rfl := Option.some.inj H
    go_enter Try.func45, Try.ntmps45
    go_wp2_with (first | ((with_reducible refine gate_dst (N := 1) rfl ?_); refine box_event ?hg (N := 1) ?hd (cs := #[.string a0_0, .int .i64 a0_1, .int .i64 a0_2, .bool true]) (t := 60) ?hr ?_; (case hd => rfl); (case hg => rfl); (case hr => first | (go_simp; done) | (go_simp; rfl)); intro gb254 hg w3 hbox hb; have n0_ := Aside0.mk (below_step (bel) hb); have n1_ := Aside0.mk (hbox); have n2_ := Aside0.mk ((by rw [hg]; exact bsz : w.heap.size ≤ gb254)); have n3_ := Aside0.mk ((by rw [hg]; exact bsz : w.heap.size ≤ gb254)); clear HB; have HB := n0_; have BK254 := n1_; have GW254 := n2_; have GE254 := n3_; clear n0_ n1_ n2_ n3_; clear hb hbox hg; have hcz4_3 := cl3 BK254.out; have hfz4_3 := blk_frozen BK254.out 3))
    go_ret
    exact ⟨rtE, bel⟩
  · replace c2 := Bool.eq_false_iff.mpr c2
    subst c2
    have H1 : (some (wrap64 (a0_2 - a0_1))) = some r := by rw [if_neg (show ¬ (false = true) by decide)] at H; exact H
    clear H
    have H := H1
    clear H1
    obtain rfl := Option.some.inj H
    go_enter Try.func45, Try.ntmps45
    go_wp2_with (first | ((with_reducible refine gate_dst (N := 1) rfl ?_); refine box_event ?hg (N := 1) ?hd (cs := #[.string a0_0, .int .i64 a0_1, .int .i64 a0_2, .bool false]) (t := 60) ?hr ?_; (case hd => rfl); (case hg => rfl); (case hr => first | (go_simp; done) | (go_simp; rfl)); intro gb254 hg w5 hbox hb; have n0_ := Aside0.mk (below_step (bel) hb); have n1_ := Aside0.mk (hbox); have n2_ := Aside0.mk ((by rw [hg]; exact bsz : w.heap.size ≤ gb254)); have n3_ := Aside0.mk ((by rw [hg]; exact bsz : w.heap.size ≤ gb254)); clear HB; have HB := n0_; have BK254 := n1_; have GW254 := n2_; have GE254 := n3_; clear n0_ n1_ n2_ n3_; clear hb hbox hg; have hcz6_3 := cl3 BK254.out; have hfz6_3 := blk_frozen BK254.out 3; have hcz7_2 := cl2 BK254.out; have hfz7_2 := blk_frozen BK254.out 2; have hcz8_1 := cl1 BK254.out; have hfz8_1 := blk_frozen BK254.out 1))
    go_ret
    exact ⟨rtE, bel⟩

/-! ### frame_next: function 46 -/
def frame_next.f (k : Nat) (a0_0 : ByteArray) (a0_1 : Int) (a0_2 : Int) (a0_3 : Bool) : Option (Int × Int × ByteArray × ByteArray × Int × Int × Bool) := (cursor_Num.f k a0_0 a0_1 a0_2 a0_3 1).bind fun bt259 => (if bt259.1 = 0 then (some (bt259.1, a0_1, (⟨#[]⟩ : ByteArray), bt259.2.1, bt259.2.2.1, bt259.2.2.2.1, bt259.2.2.2.2)) else ((cursor_Num.f k bt259.2.1 bt259.2.2.1 bt259.2.2.2.1 bt259.2.2.2.2 1).bind fun bt264 => ((cursor_Text.f bt264.2.1 bt264.2.2.1 bt264.2.2.2.1 bt264.2.2.2.2 bt264.1).bind fun bt269 => (some (bt259.1, a0_1, bt269.1, bt269.2.1, bt269.2.2.1, bt269.2.2.2.1, bt269.2.2.2.2)))))
theorem frame_next.mono : ∀ a0 a1 a2 a3 k, LeO (frame_next.f k a0 a1 a2 a3) (frame_next.f (k + 1) a0 a1 a2 a3) := by
  intro a0 a1 a2 a3 k
  unfold frame_next.f
  repeat' first
      | (with_reducible exact cursor_Num.mono _ _ _ _ _ _)
      | (with_reducible exact LeO.refl _)
      | (with_reducible exact LeO.none _)
      | (with_reducible refine LeO.ite ?_ ?_)
      | (with_reducible refine LeO.bind ?_ (fun _ => ?_))
      | exact cursor_Num.mono _ _ _ _ _ _
      | exact LeO.none _
      | refine LeO.ite ?_ ?_
      | refine LeO.bind ?_ (fun _ => ?_)
set_option maxHeartbeats 8000000 in
set_option maxRecDepth 100000 in
theorem frame_next.calls (k : Nat) (a0_0 : ByteArray) (a0_1 : Int) (a0_2 : Int) (a0_3 : Bool) (r1 : Int) (r2 : Int) (r3 : ByteArray) (r4 : ByteArray) (r5 : Int) (r6 : Int) (r7 : Bool) (w : World) (h : frame_next.f k a0_0 a0_1 a0_2 a0_3 = some (r1, r2, r3, r4, r5, r6, r7)) :
    Calls Try.prog 46 #[.agg #[.string a0_0, .int .i64 a0_1, .int .i64 a0_2, .bool a0_3]] w fun e w' => e = .returned (.tuple #[.agg #[.int .i64 r1, .int .i64 r2, .string r3], .agg #[.string r4, .int .i64 r5, .int .i64 r6, .bool r7]]) ∧ Below w.heap.size w w' := by
  have hu60 := Try.underlying60
  have hu47 := Try.underlying47
  have HB := Aside0.mk (Below.refl w.heap.size w)
  have H : ((cursor_Num.f k a0_0 a0_1 a0_2 a0_3 1).bind fun bt259 => (if bt259.1 = 0 then (some (bt259.1, a0_1, (⟨#[]⟩ : ByteArray), bt259.2.1, bt259.2.2.1, bt259.2.2.2.1, bt259.2.2.2.2)) else ((cursor_Num.f k bt259.2.1 bt259.2.2.1 bt259.2.2.2.1 bt259.2.2.2.2 1).bind fun bt264 => ((cursor_Text.f bt264.2.1 bt264.2.2.1 bt264.2.2.2.1 bt264.2.2.2.2 bt264.1).bind fun bt269 => (some (bt259.1, a0_1, bt269.1, bt269.2.1, bt269.2.2.1, bt269.2.2.2.1, bt269.2.2.2.2)))))) = some (r1, r2, r3, r4, r5, r6, r7) := h
  clear h
  replace H := Option.bind_eq_some_iff.mp H
  obtain ⟨⟨t259, t260, t261, t262, t263⟩, A20, H⟩ := H
  replace H : (if t259 = 0 then (some (t259, a0_1, (⟨#[]⟩ : ByteArray), t260, t261, t262, t263)) else ((cursor_Num.f k t260 t261 t262 t263 1).bind fun bt264 => ((cursor_Text.f bt264.2.1 bt264.2.2.1 bt264.2.2.2.1 bt264.2.2.2.2 bt264.1).bind fun bt269 => (some (t259, a0_1, bt269.1, bt269.2.1, bt269.2.2.1, bt269.2.2.2.1, bt269.2.2.2.2))))) = some (r1, r2, r3, r4, r5, r6, r7) := H
  have A2 := Aside0.mk A20
  clear A20
  by_cases c3 : t259 = 0
  · rw [if_pos c3] at H
    have c3b0 : (t259 == 0) = true := beq_iff_eq.mpr c3
    have c3b1 : (t259 != 0) = false := bne_eq_false_iff_eq.mpr c3
    clear c3
    simp only [Option.some.injEq, Prod.mk.injEq] at H
    obtain ⟨rfl, rfl, rfl, rfl, rfl, rfl, rfl⟩ := H
    go_enter Try.func46, Try.ntmps46
    try go_wp2_with (first | ((with_reducible refine gate_dst (N := 1) rfl ?_); refine box_event ?hg (N := 1) ?hd (cs := #[.string a0_0, .int .i64 a0_1, .int .i64 a0_2, .bool a0_3]) (t := 60) ?hr ?_; (case hd => rfl); (case hg => rfl); (case hr => first | (go_simp; done) | (go_simp; rfl)); intro gb255 hg w4 hbox hb; have n0_ := Aside0.mk (below_step (bel) hb); have n1_ := Aside0.mk (hbox); have n2_ := Aside0.mk ((by rw [hg]; exact bsz : w.heap.size ≤ gb255)); have n3_ := Aside0.mk ((by rw [hg]; exact bsz : w.heap.size ≤ gb255)); clear HB; have HB := n0_; have BK255 := n1_; have GW255 := n2_; have GE255 := n3_; clear n0_ n1_ n2_ n3_; clear hb hbox hg) | ((with_reducible refine gate_dst (N := 2) rfl ?_); refine box_event ?hg (N := 2) ?hd (cs := #[.int .i64 0, .int .i64 0, .string (⟨#[]⟩ : ByteArray)]) (t := 47) ?hr ?_; (case hd => rfl); (case hg => rfl); (case hr => first | (go_simp; done) | (go_simp; rfl)); intro gb256 hg w5 hbox hb; have n0_ := Aside0.mk (blk_below (blk_below BK255.out bll) hb); have n1_ := Aside0.mk (below_step (bel) hb); have n2_ := Aside0.mk (hbox); have n3_ := Aside0.mk ((by rw [hg]; exact bsz : w.heap.size ≤ gb256)); have n4_ := Aside0.mk ((by rw [hg]; exact bsz : w.heap.size ≤ gb256)); have n5_ := Aside0.mk ((by rw [hg]; exact Nat.ne_of_lt (blk_lt (blk_below BK255.out bll)) : gb255 ≠ gb256)); have n6_ := Aside0.mk ((by rw [hg]; exact Nat.ne_of_gt (blk_lt (blk_below BK255.out bll)) : gb256 ≠ gb255)); clear BK255; clear HB; have BK255 := n0_; have HB := n1_; have BK256 := n2_; have GW256 := n3_; have GE256 := n4_; have NB255_256 := n5_; have NB256_255 := n6_; clear n0_ n1_ n2_ n3_ n4_ n5_ n6_; clear hb hbox hg) | ((with_reducible refine gate_dst (N := 3) rfl ?_); refine box_event ?hg (N := 3) ?hd (cs := #[.string (⟨#[]⟩ : ByteArray), .int .i64 0, .int .i64 0, .bool false]) (t := 60) ?hr ?_; (case hd => rfl); (case hg => rfl); (case hr => first | (go_simp; done) | (go_simp; rfl)); intro gb257 hg w6 hbox hb; have n0_ := Aside0.mk (blk_below (blk_below BK255.out bll) hb); have n1_ := Aside0.mk (blk_below (blk_below BK256.out bll) hb); have n2_ := Aside0.mk (below_step (bel) hb); have n3_ := Aside0.mk (hbox); have n4_ := Aside0.mk ((by rw [hg]; exact bsz : w.heap.size ≤ gb257)); have n5_ := Aside0.mk ((by rw [hg]; exact bsz : w.heap.size ≤ gb257)); have n6_ := Aside0.mk ((by rw [hg]; exact Nat.ne_of_lt (blk_lt (blk_below BK255.out bll)) : gb255 ≠ gb257)); have n7_ := Aside0.mk ((by rw [hg]; exact Nat.ne_of_gt (blk_lt (blk_below BK255.out bll)) : gb257 ≠ gb255)); have n8_ := Aside0.mk ((by rw [hg]; exact Nat.ne_of_lt (blk_lt (blk_below BK256.out bll)) : gb256 ≠ gb257)); have n9_ := Aside0.mk ((by rw [hg]; exact Nat.ne_of_gt (blk_lt (blk_below BK256.out bll)) : gb257 ≠ gb256)); clear BK255; clear BK256; clear HB; have BK255 := n0_; have BK256 := n1_; have HB := n2_; have BK257 := n3_; have GW257 := n4_; have GE257 := n5_; have NB255_257 := n6_; have NB257_255 := n7_; have NB256_257 := n8_; have NB257_256 := n9_; clear n0_ n1_ n2_ n3_ n4_ n5_ n6_ n7_ n8_ n9_; clear hb hbox hg; have hnb7 := NB255_256.out; have hnc7 := NB256_255.out; have hnb8 := NB255_257.out; have hnc8 := NB257_255.out; have hcz9_1 := cl1 BK255.out; have hfz9_1 := blk_frozen BK255.out 1) | ((with_reducible refine gate_dst (N := 4) rfl ?_); refine box_event ?hg (N := 4) ?hd (cs := #[.int .i64 0, .int .i64 0, .string (⟨#[]⟩ : ByteArray)]) (t := 47) ?hr ?_; (case hd => rfl); (case hg => rfl); (case hr => first | (go_simp; done) | (go_simp; rfl)); intro gb258 hg w10 hbox hb; have n0_ := Aside0.mk (blk_below (blk_below BK255.out bll) hb); have n1_ := Aside0.mk (blk_below (blk_below BK256.out bll) hb); have n2_ := Aside0.mk (blk_below (blk_below BK257.out bll) hb); have n3_ := Aside0.mk (below_step (bel) hb); have n4_ := Aside0.mk (hbox); have n5_ := Aside0.mk ((by rw [hg]; exact bsz : w.heap.size ≤ gb258)); have n6_ := Aside0.mk ((by rw [hg]; exact bsz : w.heap.size ≤ gb258)); have n7_ := Aside0.mk ((by rw [hg]; exact Nat.ne_of_lt (blk_lt (blk_below BK255.out bll)) : gb255 ≠ gb258)); have n8_ := Aside0.mk ((by rw [hg]; exact Nat.ne_of_gt (blk_lt (blk_below BK255.out bll)) : gb258 ≠ gb255)); have n9_ := Aside0.mk ((by rw [hg]; exact Nat.ne_of_lt (blk_lt (blk_below BK256.out bll)) : gb256 ≠ gb258)); have n10_ := Aside0.mk ((by rw [hg]; exact Nat.ne_of_gt (blk_lt (blk_below BK256.out bll)) : gb258 ≠ gb256)); have n11_ := Aside0.mk ((by rw [hg]; exact Nat.ne_of_lt (blk_lt (blk_below BK257.out bll)) : gb257 ≠ gb258)); have n12_ := Aside0.mk ((by rw [hg]; exact Nat.ne_of_gt (blk_lt (blk_below BK257.out bll)) : gb258 ≠ gb257)); clear BK255; clear BK256; clear BK257; clear HB; have BK255 := n0_; have BK256 := n1_; have BK257 := n2_; have HB := n3_; have BK258 := n4_; have GW258 := n5_; have GE258 := n6_; have NB255_258 := n7_; have NB258_255 := n8_; have NB256_258 := n9_; have NB258_256 := n10_; have NB257_258 := n11_; have NB258_257 := n12_; clear n0_ n1_ n2_ n3_ n4_ n5_ n6_ n7_ n8_ n9_ n10_ n11_ n12_; clear hb hbox hg; have hnb11 := NB258_255.out; have hnc11 := NB255_258.out; have hnb12 := NB258_256.out; have hnc12 := NB256_258.out; have hnb13 := NB258_257.out; have hnc13 := NB257_258.out; have hcz14_0 := cl0 BK258.out; have hfz14_0 := blk_frozen BK258.out 0; have hcz15_1 := cl1 BK258.out; have hfz15_1 := blk_frozen BK258.out 1; have hcz16_2 := cl2 BK258.out; have hfz16_2 := blk_frozen BK258.out 2; have hcz17_0 := cl0 BK255.out; have hcz17_1 := cl1 BK255.out; have hcz17_2 := cl2 BK255.out; have hcz17_3 := cl3 BK255.out; have hfz17_0 := blk_frozen BK255.out 0; have hfz17_1 := blk_frozen BK255.out 1; have hfz17_2 := blk_frozen BK255.out 2; have hfz17_3 := blk_frozen BK255.out 3) | ((with_reducible refine gate_callee (f := 55) rfl ?_); refine goesL_ (some 11) rfl rfl Try.func55 (by kernel_rfl) rfl #[.agg #[.string a0_0, .int .i64 a0_1, .int .i64 a0_2, .bool a0_3], .int .i64 1] rfl gAr ?_; (with_reducible refine (cursor_Num.calls k a0_0 a0_1 a0_2 a0_3 1 t259 t260 t261 t262 t263 _ A2.out).mono ?_); rintro e w18 ⟨rfl, hb⟩; refine ⟨_, rfl, ?_⟩; have n0_ := Aside0.mk (blk_below (g := gb255) blk hb); have n1_ := Aside0.mk (blk_below (g := gb256) blk hb); have n2_ := Aside0.mk (blk_below (g := gb257) blk hb); have n3_ := Aside0.mk (blk_below (g := gb258) (o := .cells #[.int .i64 0, .int .i64 a0_1, .string (⟨#[]⟩ : ByteArray)] 47 (0, 0)) (blk) hb); have n4_ := Aside0.mk (below_step (bel) hb); clear BK255; clear BK256; clear BK257; clear BK258; clear HB; have BK255 := n0_; have BK256 := n1_; have BK257 := n2_; have BK258 := n3_; have HB := n4_; clear n0_ n1_ n2_ n3_ n4_; (try clear hb); have hcz19_0 := cl0 BK258.out; have hfz19_0 := blk_frozen BK258.out 0; have hcz20_0 := cl0 BK255.out; have hfz20_0 := blk_frozen BK255.out 0; have hcz21_1 := cl1 BK255.out; have hfz21_1 := blk_frozen BK255.out 1; have hcz22_2 := cl2 BK255.out; have hfz22_2 := blk_frozen BK255.out 2; have hcz23_3 := cl3 BK255.out; have hfz23_3 := blk_frozen BK255.out 3))
    have n0_ : Aside0 ((((((w18.setCell ⟨gb258, 0, none⟩ (.int .i64 t259)).setCell ⟨gb255, 0, none⟩ (.string t260)).setCell ⟨gb255, 1, none⟩ (.int .i64 t261)).setCell ⟨gb255, 2, none⟩ (.int .i64 t262)).setCell ⟨gb255, 3, none⟩ (.bool t263)).heap[gb255]? = some (.cells #[.string t260, .int .i64 t261, .int .i64 t262, .bool t263] 60 (0, 0))) := ⟨blk⟩
    have n1_ : Aside0 ((((((w18.setCell ⟨gb258, 0, none⟩ (.int .i64 t259)).setCell ⟨gb255, 0, none⟩ (.string t260)).setCell ⟨gb255, 1, none⟩ (.int .i64 t261)).setCell ⟨gb255, 2, none⟩ (.int .i64 t262)).setCell ⟨gb255, 3, none⟩ (.bool t263)).heap[gb256]? = some (.cells #[.int .i64 0, .int .i64 0, .string (⟨#[]⟩ : ByteArray)] 47 (0, 0))) := ⟨blk⟩
    have n2_ : Aside0 ((((((w18.setCell ⟨gb258, 0, none⟩ (.int .i64 t259)).setCell ⟨gb255, 0, none⟩ (.string t260)).setCell ⟨gb255, 1, none⟩ (.int .i64 t261)).setCell ⟨gb255, 2, none⟩ (.int .i64 t262)).setCell ⟨gb255, 3, none⟩ (.bool t263)).heap[gb257]? = some (.cells #[.string (⟨#[]⟩ : ByteArray), .int .i64 0, .int .i64 0, .bool false] 60 (0, 0))) := ⟨blk⟩
    have n3_ : Aside0 ((((((w18.setCell ⟨gb258, 0, none⟩ (.int .i64 t259)).setCell ⟨gb255, 0, none⟩ (.string t260)).setCell ⟨gb255, 1, none⟩ (.int .i64 t261)).setCell ⟨gb255, 2, none⟩ (.int .i64 t262)).setCell ⟨gb255, 3, none⟩ (.bool t263)).heap[gb258]? = some (.cells #[.int .i64 t259, .int .i64 a0_1, .string (⟨#[]⟩ : ByteArray)] 47 (0, 0))) := ⟨blk⟩
    have n4_ : Aside0 (Below w.heap.size w (((((w18.setCell ⟨gb258, 0, none⟩ (.int .i64 t259)).setCell ⟨gb255, 0, none⟩ (.string t260)).setCell ⟨gb255, 1, none⟩ (.int .i64 t261)).setCell ⟨gb255, 2, none⟩ (.int .i64 t262)).setCell ⟨gb255, 3, none⟩ (.bool t263))) := ⟨bel⟩
    (try clear BK255)
    (try clear BK256)
    (try clear BK257)
    (try clear BK258)
    (try clear HB)
    generalize (((((w18.setCell ⟨gb258, 0, none⟩ (.int .i64 t259)).setCell ⟨gb255, 0, none⟩ (.string t260)).setCell ⟨gb255, 1, none⟩ (.int .i64 t261)).setCell ⟨gb255, 2, none⟩ (.int .i64 t262)).setCell ⟨gb255, 3, none⟩ (.bool t263)) = w24 at n0_ n1_ n2_ n3_ n4_ ⊢
    have BK255 := n0_
    have BK256 := n1_
    have BK257 := n2_
    have BK258 := n3_
    have HB := n4_
    clear n0_ n1_ n2_ n3_ n4_
    have n0_ := Aside0.mk (blk_drew BK255.out)
    have n1_ := Aside0.mk (blk_drew BK256.out)
    have n2_ := Aside0.mk (blk_drew BK257.out)
    have n3_ := Aside0.mk (blk_drew BK258.out)
    have n4_ := Aside0.mk (below_drew1 HB.out)
    clear BK255
    clear BK256
    clear BK257
    clear BK258
    clear HB
    have BK255 := n0_
    have BK256 := n1_
    have BK257 := n2_
    have BK258 := n3_
    have HB := n4_
    clear n0_ n1_ n2_ n3_ n4_
    refine start_ (n := 4) (S := fun w' => w'.cell? ⟨gb258, 0, none⟩ = some (.int .i64 t259) ∧ w'.cell? ⟨gb258, 1, none⟩ = some (.int .i64 a0_1) ∧ w'.cell? ⟨gb258, 2, none⟩ = some (.string (⟨#[]⟩ : ByteArray)) ∧ w'.cell? ⟨gb255, 0, none⟩ = some (.string t260) ∧ w'.cell? ⟨gb255, 1, none⟩ = some (.int .i64 t261) ∧ w'.cell? ⟨gb255, 2, none⟩ = some (.int .i64 t262) ∧ w'.cell? ⟨gb255, 3, none⟩ = some (.bool t263)) (ds := []) #[false, false, false, false] (by kernel_rfl) rfl rfl ⟨(blk_cell BK258.out 0).trans rfl, (blk_cell BK258.out 1).trans rfl, (blk_cell BK258.out 2).trans rfl, (blk_cell BK255.out 0).trans rfl, (blk_cell BK255.out 1).trans rfl, (blk_cell BK255.out 2).trans rfl, (blk_cell BK255.out 3).trans rfl⟩ (fun hHeld => ?_)
    generalize w24.drew = w25 at BK255 BK256 BK257 BK258 HB hHeld ⊢
    refine take_ (i := 0) (N := some 18) (v := ?_) (a' := ?_) #[true, false, false, false] rfl rfl (by kernel_rfl) (fun _ _ _ h => h) (Or.inl ⟨by rfl, ?_⟩) hHeld ?_ ?_
    rotate_left
    · rintro w' ⟨s0, s1, s2, s3, s4, s5, s6⟩
      go_simp
      with_reducible rfl
    rotate_left
    · simp only [Act.put, List.setIfInBounds_toArray, List.set_cons_zero, List.set_cons_succ, i64_w, i32_w]
      rfl
    refine take_ (i := 1) (N := some 19) (v := ?_) (a' := ?_) #[true, true, false, false] rfl rfl (by kernel_rfl) (fun _ _ _ h => h) (Or.inl ⟨by rfl, ?_⟩) hHeld ?_ ?_
    rotate_left
    · rintro w' ⟨s0, s1, s2, s3, s4, s5, s6⟩
      go_simp
      with_reducible rfl
    rotate_left
    · simp only [Act.put, List.setIfInBounds_toArray, List.set_cons_zero, List.set_cons_succ, i64_w, i32_w]
      rfl
    refine one_ (i := 2) (N := none) #[true, true, true, false] rfl rfl (by kernel_rfl) (by decide) (fun K hK => ?_)
    have hs26 : w25.cell? ⟨gb256, 0, none⟩ = some (.int .i64 0) := (blk_cell BK256.out 0).trans rfl
    have hfs26 := blk_frozen BK256.out 0
    have hns26_0 := NB255_256.out
    have hns26_2 := NB257_256.out
    have hns26_3 := NB258_256.out
    have hms26_0 := NB256_255.out
    have hms26_2 := NB256_257.out
    have hms26_3 := NB256_258.out
    have hs27 : w25.cell? ⟨gb256, 1, none⟩ = some (.int .i64 0) := (blk_cell BK256.out 1).trans rfl
    have hfs27 := blk_frozen BK256.out 1
    have hns27_0 := NB255_256.out
    have hns27_2 := NB257_256.out
    have hns27_3 := NB258_256.out
    have hms27_0 := NB256_255.out
    have hms27_2 := NB256_257.out
    have hms27_3 := NB256_258.out
    have hs28 : w25.cell? ⟨gb256, 2, none⟩ = some (.string (⟨#[]⟩ : ByteArray)) := (blk_cell BK256.out 2).trans rfl
    have hfs28 := blk_frozen BK256.out 2
    have hns28_0 := NB255_256.out
    have hns28_2 := NB257_256.out
    have hns28_3 := NB258_256.out
    have hms28_0 := NB256_255.out
    have hms28_2 := NB256_257.out
    have hms28_3 := NB256_258.out
    refine skip_ (w1 := ?_) (by rfl) rfl ?_ ?_
    rotate_left
    · go_simp
      rfl
    refine hK.out _ _ ⟨((cell_far (p := ⟨gb256, _, none⟩) NB258_256.out _).trans (((cell_far (p := ⟨gb256, _, none⟩) NB258_256.out _).trans (((cell_far (p := ⟨gb256, _, none⟩) NB258_256.out _).trans (hHeld.1)))))), ((cell_far (p := ⟨gb256, _, none⟩) NB258_256.out _).trans (((cell_far (p := ⟨gb256, _, none⟩) NB258_256.out _).trans (((cell_far (p := ⟨gb256, _, none⟩) NB258_256.out _).trans (hHeld.2.1)))))), ((cell_far (p := ⟨gb256, _, none⟩) NB258_256.out _).trans (((cell_far (p := ⟨gb256, _, none⟩) NB258_256.out _).trans (((cell_far (p := ⟨gb256, _, none⟩) NB258_256.out _).trans (hHeld.2.2.1)))))), ((cell_far (p := ⟨gb256, _, none⟩) NB255_256.out _).trans (((cell_far (p := ⟨gb256, _, none⟩) NB255_256.out _).trans (((cell_far (p := ⟨gb256, _, none⟩) NB255_256.out _).trans (hHeld.2.2.2.1)))))), ((cell_far (p := ⟨gb256, _, none⟩) NB255_256.out _).trans (((cell_far (p := ⟨gb256, _, none⟩) NB255_256.out _).trans (((cell_far (p := ⟨gb256, _, none⟩) NB255_256.out _).trans (hHeld.2.2.2.2.1)))))), ((cell_far (p := ⟨gb256, _, none⟩) NB255_256.out _).trans (((cell_far (p := ⟨gb256, _, none⟩) NB255_256.out _).trans (((cell_far (p := ⟨gb256, _, none⟩) NB255_256.out _).trans (hHeld.2.2.2.2.2.1)))))), ((cell_far (p := ⟨gb256, _, none⟩) NB255_256.out _).trans (((cell_far (p := ⟨gb256, _, none⟩) NB255_256.out _).trans (((cell_far (p := ⟨gb256, _, none⟩) NB255_256.out _).trans (hHeld.2.2.2.2.2.2))))))⟩ (fun hHeld => ?_)
    clear hK K
    refine one_ (i := 3) (N := none) #[true, true, true, true] rfl rfl (by kernel_rfl) (by decide) (fun K hK => ?_)
    have hs29 : w25.cell? ⟨gb257, 0, none⟩ = some (.string (⟨#[]⟩ : ByteArray)) := (blk_cell BK257.out 0).trans rfl
    have hfs29 := blk_frozen BK257.out 0
    have hns29_0 := NB255_257.out
    have hns29_1 := NB256_257.out
    have hns29_3 := NB258_257.out
    have hms29_0 := NB257_255.out
    have hms29_1 := NB257_256.out
    have hms29_3 := NB257_258.out
    have hs30 : w25.cell? ⟨gb257, 1, none⟩ = some (.int .i64 0) := (blk_cell BK257.out 1).trans rfl
    have hfs30 := blk_frozen BK257.out 1
    have hns30_0 := NB255_257.out
    have hns30_1 := NB256_257.out
    have hns30_3 := NB258_257.out
    have hms30_0 := NB257_255.out
    have hms30_1 := NB257_256.out
    have hms30_3 := NB257_258.out
    have hs31 : w25.cell? ⟨gb257, 2, none⟩ = some (.int .i64 0) := (blk_cell BK257.out 2).trans rfl
    have hfs31 := blk_frozen BK257.out 2
    have hns31_0 := NB255_257.out
    have hns31_1 := NB256_257.out
    have hns31_3 := NB258_257.out
    have hms31_0 := NB257_255.out
    have hms31_1 := NB257_256.out
    have hms31_3 := NB257_258.out
    have hs32 : w25.cell? ⟨gb257, 3, none⟩ = some (.bool false) := (blk_cell BK257.out 3).trans rfl
    have hfs32 := blk_frozen BK257.out 3
    have hns32_0 := NB255_257.out
    have hns32_1 := NB256_257.out
    have hns32_3 := NB258_257.out
    have hms32_0 := NB257_255.out
    have hms32_1 := NB257_256.out
    have hms32_3 := NB257_258.out
    refine skip_ (w1 := ?_) (by rfl) rfl ?_ ?_
    rotate_left
    · go_simp
      rfl
    refine hK.out _ _ ⟨((cell_far (p := ⟨gb257, _, none⟩) NB258_257.out _).trans (((cell_far (p := ⟨gb257, _, none⟩) NB258_257.out _).trans (((cell_far (p := ⟨gb257, _, none⟩) NB258_257.out _).trans (((cell_far (p := ⟨gb257, _, none⟩) NB258_257.out _).trans (hHeld.1)))))))), ((cell_far (p := ⟨gb257, _, none⟩) NB258_257.out _).trans (((cell_far (p := ⟨gb257, _, none⟩) NB258_257.out _).trans (((cell_far (p := ⟨gb257, _, none⟩) NB258_257.out _).trans (((cell_far (p := ⟨gb257, _, none⟩) NB258_257.out _).trans (hHeld.2.1)))))))), ((cell_far (p := ⟨gb257, _, none⟩) NB258_257.out _).trans (((cell_far (p := ⟨gb257, _, none⟩) NB258_257.out _).trans (((cell_far (p := ⟨gb257, _, none⟩) NB258_257.out _).trans (((cell_far (p := ⟨gb257, _, none⟩) NB258_257.out _).trans (hHeld.2.2.1)))))))), ((cell_far (p := ⟨gb257, _, none⟩) NB255_257.out _).trans (((cell_far (p := ⟨gb257, _, none⟩) NB255_257.out _).trans (((cell_far (p := ⟨gb257, _, none⟩) NB255_257.out _).trans (((cell_far (p := ⟨gb257, _, none⟩) NB255_257.out _).trans (hHeld.2.2.2.1)))))))), ((cell_far (p := ⟨gb257, _, none⟩) NB255_257.out _).trans (((cell_far (p := ⟨gb257, _, none⟩) NB255_257.out _).trans (((cell_far (p := ⟨gb257, _, none⟩) NB255_257.out _).trans (((cell_far (p := ⟨gb257, _, none⟩) NB255_257.out _).trans (hHeld.2.2.2.2.1)))))))), ((cell_far (p := ⟨gb257, _, none⟩) NB255_257.out _).trans (((cell_far (p := ⟨gb257, _, none⟩) NB255_257.out _).trans (((cell_far (p := ⟨gb257, _, none⟩) NB255_257.out _).trans (((cell_far (p := ⟨gb257, _, none⟩) NB255_257.out _).trans (hHeld.2.2.2.2.2.1)))))))), ((cell_far (p := ⟨gb257, _, none⟩) NB255_257.out _).trans (((cell_far (p := ⟨gb257, _, none⟩) NB255_257.out _).trans (((cell_far (p := ⟨gb257, _, none⟩) NB255_257.out _).trans (((cell_far (p := ⟨gb257, _, none⟩) NB255_257.out _).trans (hHeld.2.2.2.2.2.2))))))))⟩ (fun hHeld => ?_)
    clear hK K
    refine done_ (by kernel_rfl) ?_
    try go_wp2
    refine bodyPost_ret (results_cc rfl _ _ gb256 gb257 47 60 #[.int .i64 t259, .int .i64 a0_1, .string (⟨#[]⟩ : ByteArray)] #[.string t260, .int .i64 t261, .int .i64 t262, .bool t263] (0, 0) (0, 0) _ _ rfl (blk) Try.underlying47 rfl (by kernel_rfl) rfl (blk) Try.underlying60 rfl (by kernel_rfl)) rfl ?_
    exact ⟨rtE, bel⟩
  · rw [if_neg c3] at H
    have c3b0 : (t259 == 0) = false := beq_eq_false_iff_ne.mpr c3
    have c3b1 : (t259 != 0) = true := bne_iff_ne.mpr c3
    replace H := Option.bind_eq_some_iff.mp H
    obtain ⟨⟨t264, t265, t266, t267, t268⟩, A330, H⟩ := H
    replace H : ((cursor_Text.f t265 t266 t267 t268 t264).bind fun bt269 => (some (t259, a0_1, bt269.1, bt269.2.1, bt269.2.2.1, bt269.2.2.2.1, bt269.2.2.2.2))) = some (r1, r2, r3, r4, r5, r6, r7) := H
    have A33 := Aside0.mk A330
    clear A330
    replace H := Option.bind_eq_some_iff.mp H
    obtain ⟨⟨t269, t270, t271, t272, t273⟩, A340, H⟩ := H
    replace H : (some (t259, a0_1, t269, t270, t271, t272, t273)) = some (r1, r2, r3, r4, r5, r6, r7) := H
    have A34 := Aside0.mk A340
    clear A340
    simp only [Option.some.injEq, Prod.mk.injEq] at H
    obtain ⟨rfl, rfl, rfl, rfl, rfl, rfl, rfl⟩ := H
    go_enter Try.func46, Try.ntmps46
    try go_wp2_with (first | ((with_reducible refine gate_dst (N := 1) rfl ?_); refine box_event ?hg (N := 1) ?hd (cs := #[.string a0_0, .int .i64 a0_1, .int .i64 a0_2, .bool a0_3]) (t := 60) ?hr ?_; (case hd => rfl); (case hg => rfl); (case hr => first | (go_simp; done) | (go_simp; rfl)); intro gb255 hg w35 hbox hb; have n0_ := Aside0.mk (below_step (bel) hb); have n1_ := Aside0.mk (hbox); have n2_ := Aside0.mk ((by rw [hg]; exact bsz : w.heap.size ≤ gb255)); have n3_ := Aside0.mk ((by rw [hg]; exact bsz : w.heap.size ≤ gb255)); clear HB; have HB := n0_; have BK255 := n1_; have GW255 := n2_; have GE255 := n3_; clear n0_ n1_ n2_ n3_; clear hb hbox hg) | ((with_reducible refine gate_dst (N := 2) rfl ?_); refine box_event ?hg (N := 2) ?hd (cs := #[.int .i64 0, .int .i64 0, .string (⟨#[]⟩ : ByteArray)]) (t := 47) ?hr ?_; (case hd => rfl); (case hg => rfl); (case hr => first | (go_simp; done) | (go_simp; rfl)); intro gb256 hg w36 hbox hb; have n0_ := Aside0.mk (blk_below (blk_below BK255.out bll) hb); have n1_ := Aside0.mk (below_step (bel) hb); have n2_ := Aside0.mk (hbox); have n3_ := Aside0.mk ((by rw [hg]; exact bsz : w.heap.size ≤ gb256)); have n4_ := Aside0.mk ((by rw [hg]; exact bsz : w.heap.size ≤ gb256)); have n5_ := Aside0.mk ((by rw [hg]; exact Nat.ne_of_lt (blk_lt (blk_below BK255.out bll)) : gb255 ≠ gb256)); have n6_ := Aside0.mk ((by rw [hg]; exact Nat.ne_of_gt (blk_lt (blk_below BK255.out bll)) : gb256 ≠ gb255)); clear BK255; clear HB; have BK255 := n0_; have HB := n1_; have BK256 := n2_; have GW256 := n3_; have GE256 := n4_; have NB255_256 := n5_; have NB256_255 := n6_; clear n0_ n1_ n2_ n3_ n4_ n5_ n6_; clear hb hbox hg) | ((with_reducible refine gate_dst (N := 3) rfl ?_); refine box_event ?hg (N := 3) ?hd (cs := #[.string (⟨#[]⟩ : ByteArray), .int .i64 0, .int .i64 0, .bool false]) (t := 60) ?hr ?_; (case hd => rfl); (case hg => rfl); (case hr => first | (go_simp; done) | (go_simp; rfl)); intro gb257 hg w37 hbox hb; have n0_ := Aside0.mk (blk_below (blk_below BK255.out bll) hb); have n1_ := Aside0.mk (blk_below (blk_below BK256.out bll) hb); have n2_ := Aside0.mk (below_step (bel) hb); have n3_ := Aside0.mk (hbox); have n4_ := Aside0.mk ((by rw [hg]; exact bsz : w.heap.size ≤ gb257)); have n5_ := Aside0.mk ((by rw [hg]; exact bsz : w.heap.size ≤ gb257)); have n6_ := Aside0.mk ((by rw [hg]; exact Nat.ne_of_lt (blk_lt (blk_below BK255.out bll)) : gb255 ≠ gb257)); have n7_ := Aside0.mk ((by rw [hg]; exact Nat.ne_of_gt (blk_lt (blk_below BK255.out bll)) : gb257 ≠ gb255)); have n8_ := Aside0.mk ((by rw [hg]; exact Nat.ne_of_lt (blk_lt (blk_below BK256.out bll)) : gb256 ≠ gb257)); have n9_ := Aside0.mk ((by rw [hg]; exact Nat.ne_of_gt (blk_lt (blk_below BK256.out bll)) : gb257 ≠ gb256)); clear BK255; clear BK256; clear HB; have BK255 := n0_; have BK256 := n1_; have HB := n2_; have BK257 := n3_; have GW257 := n4_; have GE257 := n5_; have NB255_257 := n6_; have NB257_255 := n7_; have NB256_257 := n8_; have NB257_256 := n9_; clear n0_ n1_ n2_ n3_ n4_ n5_ n6_ n7_ n8_ n9_; clear hb hbox hg; have hnb38 := NB255_256.out; have hnc38 := NB256_255.out; have hnb39 := NB255_257.out; have hnc39 := NB257_255.out; have hcz40_1 := cl1 BK255.out; have hfz40_1 := blk_frozen BK255.out 1) | ((with_reducible refine gate_dst (N := 4) rfl ?_); refine box_event ?hg (N := 4) ?hd (cs := #[.int .i64 0, .int .i64 0, .string (⟨#[]⟩ : ByteArray)]) (t := 47) ?hr ?_; (case hd => rfl); (case hg => rfl); (case hr => first | (go_simp; done) | (go_simp; rfl)); intro gb258 hg w41 hbox hb; have n0_ := Aside0.mk (blk_below (blk_below BK255.out bll) hb); have n1_ := Aside0.mk (blk_below (blk_below BK256.out bll) hb); have n2_ := Aside0.mk (blk_below (blk_below BK257.out bll) hb); have n3_ := Aside0.mk (below_step (bel) hb); have n4_ := Aside0.mk (hbox); have n5_ := Aside0.mk ((by rw [hg]; exact bsz : w.heap.size ≤ gb258)); have n6_ := Aside0.mk ((by rw [hg]; exact bsz : w.heap.size ≤ gb258)); have n7_ := Aside0.mk ((by rw [hg]; exact Nat.ne_of_lt (blk_lt (blk_below BK255.out bll)) : gb255 ≠ gb258)); have n8_ := Aside0.mk ((by rw [hg]; exact Nat.ne_of_gt (blk_lt (blk_below BK255.out bll)) : gb258 ≠ gb255)); have n9_ := Aside0.mk ((by rw [hg]; exact Nat.ne_of_lt (blk_lt (blk_below BK256.out bll)) : gb256 ≠ gb258)); have n10_ := Aside0.mk ((by rw [hg]; exact Nat.ne_of_gt (blk_lt (blk_below BK256.out bll)) : gb258 ≠ gb256)); have n11_ := Aside0.mk ((by rw [hg]; exact Nat.ne_of_lt (blk_lt (blk_below BK257.out bll)) : gb257 ≠ gb258)); have n12_ := Aside0.mk ((by rw [hg]; exact Nat.ne_of_gt (blk_lt (blk_below BK257.out bll)) : gb258 ≠ gb257)); clear BK255; clear BK256; clear BK257; clear HB; have BK255 := n0_; have BK256 := n1_; have BK257 := n2_; have HB := n3_; have BK258 := n4_; have GW258 := n5_; have GE258 := n6_; have NB255_258 := n7_; have NB258_255 := n8_; have NB256_258 := n9_; have NB258_256 := n10_; have NB257_258 := n11_; have NB258_257 := n12_; clear n0_ n1_ n2_ n3_ n4_ n5_ n6_ n7_ n8_ n9_ n10_ n11_ n12_; clear hb hbox hg; have hnb42 := NB258_255.out; have hnc42 := NB255_258.out; have hnb43 := NB258_256.out; have hnc43 := NB256_258.out; have hnb44 := NB258_257.out; have hnc44 := NB257_258.out; have hcz45_0 := cl0 BK258.out; have hfz45_0 := blk_frozen BK258.out 0; have hcz46_1 := cl1 BK258.out; have hfz46_1 := blk_frozen BK258.out 1; have hcz47_2 := cl2 BK258.out; have hfz47_2 := blk_frozen BK258.out 2; have hcz48_0 := cl0 BK255.out; have hcz48_1 := cl1 BK255.out; have hcz48_2 := cl2 BK255.out; have hcz48_3 := cl3 BK255.out; have hfz48_0 := blk_frozen BK255.out 0; have hfz48_1 := blk_frozen BK255.out 1; have hfz48_2 := blk_frozen BK255.out 2; have hfz48_3 := blk_frozen BK255.out 3) | ((with_reducible refine gate_callee (f := 55) rfl ?_); refine goesL_ (some 11) rfl rfl Try.func55 (by kernel_rfl) rfl #[.agg #[.string a0_0, .int .i64 a0_1, .int .i64 a0_2, .bool a0_3], .int .i64 1] rfl gAr ?_; (with_reducible refine (cursor_Num.calls k a0_0 a0_1 a0_2 a0_3 1 t259 t260 t261 t262 t263 _ A2.out).mono ?_); rintro e w49 ⟨rfl, hb⟩; refine ⟨_, rfl, ?_⟩; have n0_ := Aside0.mk (blk_below (g := gb255) blk hb); have n1_ := Aside0.mk (blk_below (g := gb256) blk hb); have n2_ := Aside0.mk (blk_below (g := gb257) blk hb); have n3_ := Aside0.mk (blk_below (g := gb258) (o := .cells #[.int .i64 0, .int .i64 a0_1, .string (⟨#[]⟩ : ByteArray)] 47 (0, 0)) (blk) hb); have n4_ := Aside0.mk (below_step (bel) hb); clear BK255; clear BK256; clear BK257; clear BK258; clear HB; have BK255 := n0_; have BK256 := n1_; have BK257 := n2_; have BK258 := n3_; have HB := n4_; clear n0_ n1_ n2_ n3_ n4_; (try clear hb); have hcz50_0 := cl0 BK258.out; have hfz50_0 := blk_frozen BK258.out 0; have hcz51_0 := cl0 BK255.out; have hfz51_0 := blk_frozen BK255.out 0; have hcz52_1 := cl1 BK255.out; have hfz52_1 := blk_frozen BK255.out 1; have hcz53_2 := cl2 BK255.out; have hfz53_2 := blk_frozen BK255.out 2; have hcz54_3 := cl3 BK255.out; have hfz54_3 := blk_frozen BK255.out 3; have hcz55_0 := cl0 BK255.out; have hcz55_1 := cl1 BK255.out; have hcz55_2 := cl2 BK255.out; have hcz55_3 := cl3 BK255.out; have hfz55_0 := blk_frozen BK255.out 0; have hfz55_1 := blk_frozen BK255.out 1; have hfz55_2 := blk_frozen BK255.out 2; have hfz55_3 := blk_frozen BK255.out 3) | ((with_reducible refine gate_callee (f := 55) rfl ?_); refine goesL_ (some 22) rfl rfl Try.func55 (by kernel_rfl) rfl #[.agg #[.string t260, .int .i64 t261, .int .i64 t262, .bool t263], .int .i64 1] rfl gAr ?_; (with_reducible refine (cursor_Num.calls k t260 t261 t262 t263 1 t264 t265 t266 t267 t268 _ A33.out).mono ?_); rintro e w56 ⟨rfl, hb⟩; refine ⟨_, rfl, ?_⟩; have n0_ := Aside0.mk (blk_below (g := gb255) (o := .cells #[.string t260, .int .i64 t261, .int .i64 t262, .bool t263] 60 (0, 0)) (blk) hb); have n1_ := Aside0.mk (blk_below (g := gb256) blk hb); have n2_ := Aside0.mk (blk_below (g := gb257) blk hb); have n3_ := Aside0.mk (blk_below (g := gb258) (o := .cells #[.int .i64 t259, .int .i64 a0_1, .string (⟨#[]⟩ : ByteArray)] 47 (0, 0)) (blk) hb); have n4_ := Aside0.mk (below_step (bel) hb); clear BK255; clear BK256; clear BK257; clear BK258; clear HB; have BK255 := n0_; have BK256 := n1_; have BK257 := n2_; have BK258 := n3_; have HB := n4_; clear n0_ n1_ n2_ n3_ n4_; (try clear hb); have hcz57_0 := cl0 BK255.out; have hfz57_0 := blk_frozen BK255.out 0; have hcz58_1 := cl1 BK255.out; have hfz58_1 := blk_frozen BK255.out 1; have hcz59_2 := cl2 BK255.out; have hfz59_2 := blk_frozen BK255.out 2; have hcz60_3 := cl3 BK255.out; have hfz60_3 := blk_frozen BK255.out 3; have hcz61_0 := cl0 BK255.out; have hcz61_1 := cl1 BK255.out; have hcz61_2 := cl2 BK255.out; have hcz61_3 := cl3 BK255.out; have hfz61_0 := blk_frozen BK255.out 0; have hfz61_1 := blk_frozen BK255.out 1; have hfz61_2 := blk_frozen BK255.out 2; have hfz61_3 := blk_frozen BK255.out 3) | ((with_reducible refine gate_callee (f := 56) rfl ?_); refine goesL_ (some 28) rfl rfl Try.func56 (by kernel_rfl) rfl #[.agg #[.string t265, .int .i64 t266, .int .i64 t267, .bool t268], .int .i64 t264] rfl gAr ?_; (with_reducible refine (cursor_Text.calls t265 t266 t267 t268 t264 t269 t270 t271 t272 t273 _ A34.out).mono ?_); rintro e w62 ⟨rfl, hb⟩; refine ⟨_, rfl, ?_⟩; have n0_ := Aside0.mk (blk_below (g := gb255) (o := .cells #[.string t265, .int .i64 t266, .int .i64 t267, .bool t268] 60 (0, 0)) (blk) hb); have n1_ := Aside0.mk (blk_below (g := gb256) blk hb); have n2_ := Aside0.mk (blk_below (g := gb257) blk hb); have n3_ := Aside0.mk (blk_below (g := gb258) blk hb); have n4_ := Aside0.mk (below_step (bel) hb); clear BK255; clear BK256; clear BK257; clear BK258; clear HB; have BK255 := n0_; have BK256 := n1_; have BK257 := n2_; have BK258 := n3_; have HB := n4_; clear n0_ n1_ n2_ n3_ n4_; (try clear hb); have hcz63_2 := cl2 BK258.out; have hfz63_2 := blk_frozen BK258.out 2; have hcz64_0 := cl0 BK255.out; have hfz64_0 := blk_frozen BK255.out 0; have hcz65_1 := cl1 BK255.out; have hfz65_1 := blk_frozen BK255.out 1; have hcz66_2 := cl2 BK255.out; have hfz66_2 := blk_frozen BK255.out 2; have hcz67_3 := cl3 BK255.out; have hfz67_3 := blk_frozen BK255.out 3))
    have n0_ : Aside0 ((((((w62.setCell ⟨gb258, 2, none⟩ (.string t269)).setCell ⟨gb255, 0, none⟩ (.string t270)).setCell ⟨gb255, 1, none⟩ (.int .i64 t271)).setCell ⟨gb255, 2, none⟩ (.int .i64 t272)).setCell ⟨gb255, 3, none⟩ (.bool t273)).heap[gb255]? = some (.cells #[.string t270, .int .i64 t271, .int .i64 t272, .bool t273] 60 (0, 0))) := ⟨blk⟩
    have n1_ : Aside0 ((((((w62.setCell ⟨gb258, 2, none⟩ (.string t269)).setCell ⟨gb255, 0, none⟩ (.string t270)).setCell ⟨gb255, 1, none⟩ (.int .i64 t271)).setCell ⟨gb255, 2, none⟩ (.int .i64 t272)).setCell ⟨gb255, 3, none⟩ (.bool t273)).heap[gb256]? = some (.cells #[.int .i64 0, .int .i64 0, .string (⟨#[]⟩ : ByteArray)] 47 (0, 0))) := ⟨blk⟩
    have n2_ : Aside0 ((((((w62.setCell ⟨gb258, 2, none⟩ (.string t269)).setCell ⟨gb255, 0, none⟩ (.string t270)).setCell ⟨gb255, 1, none⟩ (.int .i64 t271)).setCell ⟨gb255, 2, none⟩ (.int .i64 t272)).setCell ⟨gb255, 3, none⟩ (.bool t273)).heap[gb257]? = some (.cells #[.string (⟨#[]⟩ : ByteArray), .int .i64 0, .int .i64 0, .bool false] 60 (0, 0))) := ⟨blk⟩
    have n3_ : Aside0 ((((((w62.setCell ⟨gb258, 2, none⟩ (.string t269)).setCell ⟨gb255, 0, none⟩ (.string t270)).setCell ⟨gb255, 1, none⟩ (.int .i64 t271)).setCell ⟨gb255, 2, none⟩ (.int .i64 t272)).setCell ⟨gb255, 3, none⟩ (.bool t273)).heap[gb258]? = some (.cells #[.int .i64 t259, .int .i64 a0_1, .string t269] 47 (0, 0))) := ⟨blk⟩
    have n4_ : Aside0 (Below w.heap.size w (((((w62.setCell ⟨gb258, 2, none⟩ (.string t269)).setCell ⟨gb255, 0, none⟩ (.string t270)).setCell ⟨gb255, 1, none⟩ (.int .i64 t271)).setCell ⟨gb255, 2, none⟩ (.int .i64 t272)).setCell ⟨gb255, 3, none⟩ (.bool t273))) := ⟨bel⟩
    (try clear BK255)
    (try clear BK256)
    (try clear BK257)
    (try clear BK258)
    (try clear HB)
    generalize (((((w62.setCell ⟨gb258, 2, none⟩ (.string t269)).setCell ⟨gb255, 0, none⟩ (.string t270)).setCell ⟨gb255, 1, none⟩ (.int .i64 t271)).setCell ⟨gb255, 2, none⟩ (.int .i64 t272)).setCell ⟨gb255, 3, none⟩ (.bool t273)) = w68 at n0_ n1_ n2_ n3_ n4_ ⊢
    have BK255 := n0_
    have BK256 := n1_
    have BK257 := n2_
    have BK258 := n3_
    have HB := n4_
    clear n0_ n1_ n2_ n3_ n4_
    have n0_ := Aside0.mk (blk_drew BK255.out)
    have n1_ := Aside0.mk (blk_drew BK256.out)
    have n2_ := Aside0.mk (blk_drew BK257.out)
    have n3_ := Aside0.mk (blk_drew BK258.out)
    have n4_ := Aside0.mk (below_drew1 HB.out)
    clear BK255
    clear BK256
    clear BK257
    clear BK258
    clear HB
    have BK255 := n0_
    have BK256 := n1_
    have BK257 := n2_
    have BK258 := n3_
    have HB := n4_
    clear n0_ n1_ n2_ n3_ n4_
    refine start_ (n := 4) (S := fun w' => w'.cell? ⟨gb258, 0, none⟩ = some (.int .i64 t259) ∧ w'.cell? ⟨gb258, 1, none⟩ = some (.int .i64 a0_1) ∧ w'.cell? ⟨gb258, 2, none⟩ = some (.string t269) ∧ w'.cell? ⟨gb255, 0, none⟩ = some (.string t270) ∧ w'.cell? ⟨gb255, 1, none⟩ = some (.int .i64 t271) ∧ w'.cell? ⟨gb255, 2, none⟩ = some (.int .i64 t272) ∧ w'.cell? ⟨gb255, 3, none⟩ = some (.bool t273)) (ds := []) #[false, false, false, false] (by kernel_rfl) rfl rfl ⟨(blk_cell BK258.out 0).trans rfl, (blk_cell BK258.out 1).trans rfl, (blk_cell BK258.out 2).trans rfl, (blk_cell BK255.out 0).trans rfl, (blk_cell BK255.out 1).trans rfl, (blk_cell BK255.out 2).trans rfl, (blk_cell BK255.out 3).trans rfl⟩ (fun hHeld => ?_)
    generalize w68.drew = w69 at BK255 BK256 BK257 BK258 HB hHeld ⊢
    refine take_ (i := 0) (N := some 32) (v := ?_) (a' := ?_) #[true, false, false, false] rfl rfl (by kernel_rfl) (fun _ _ _ h => h) (Or.inl ⟨by rfl, ?_⟩) hHeld ?_ ?_
    rotate_left
    · rintro w' ⟨s0, s1, s2, s3, s4, s5, s6⟩
      go_simp
      with_reducible rfl
    rotate_left
    · simp only [Act.put, List.setIfInBounds_toArray, List.set_cons_zero, List.set_cons_succ, i64_w, i32_w]
      rfl
    refine take_ (i := 1) (N := some 33) (v := ?_) (a' := ?_) #[true, true, false, false] rfl rfl (by kernel_rfl) (fun _ _ _ h => h) (Or.inl ⟨by rfl, ?_⟩) hHeld ?_ ?_
    rotate_left
    · rintro w' ⟨s0, s1, s2, s3, s4, s5, s6⟩
      go_simp
      with_reducible rfl
    rotate_left
    · simp only [Act.put, List.setIfInBounds_toArray, List.set_cons_zero, List.set_cons_succ, i64_w, i32_w]
      rfl
    refine one_ (i := 2) (N := none) #[true, true, true, false] rfl rfl (by kernel_rfl) (by decide) (fun K hK => ?_)
    have hs70 : w69.cell? ⟨gb256, 0, none⟩ = some (.int .i64 0) := (blk_cell BK256.out 0).trans rfl
    have hfs70 := blk_frozen BK256.out 0
    have hns70_0 := NB255_256.out
    have hns70_2 := NB257_256.out
    have hns70_3 := NB258_256.out
    have hms70_0 := NB256_255.out
    have hms70_2 := NB256_257.out
    have hms70_3 := NB256_258.out
    have hs71 : w69.cell? ⟨gb256, 1, none⟩ = some (.int .i64 0) := (blk_cell BK256.out 1).trans rfl
    have hfs71 := blk_frozen BK256.out 1
    have hns71_0 := NB255_256.out
    have hns71_2 := NB257_256.out
    have hns71_3 := NB258_256.out
    have hms71_0 := NB256_255.out
    have hms71_2 := NB256_257.out
    have hms71_3 := NB256_258.out
    have hs72 : w69.cell? ⟨gb256, 2, none⟩ = some (.string (⟨#[]⟩ : ByteArray)) := (blk_cell BK256.out 2).trans rfl
    have hfs72 := blk_frozen BK256.out 2
    have hns72_0 := NB255_256.out
    have hns72_2 := NB257_256.out
    have hns72_3 := NB258_256.out
    have hms72_0 := NB256_255.out
    have hms72_2 := NB256_257.out
    have hms72_3 := NB256_258.out
    refine skip_ (w1 := ?_) (by rfl) rfl ?_ ?_
    rotate_left
    · go_simp
      rfl
    refine hK.out _ _ ⟨((cell_far (p := ⟨gb256, _, none⟩) NB258_256.out _).trans (((cell_far (p := ⟨gb256, _, none⟩) NB258_256.out _).trans (((cell_far (p := ⟨gb256, _, none⟩) NB258_256.out _).trans (hHeld.1)))))), ((cell_far (p := ⟨gb256, _, none⟩) NB258_256.out _).trans (((cell_far (p := ⟨gb256, _, none⟩) NB258_256.out _).trans (((cell_far (p := ⟨gb256, _, none⟩) NB258_256.out _).trans (hHeld.2.1)))))), ((cell_far (p := ⟨gb256, _, none⟩) NB258_256.out _).trans (((cell_far (p := ⟨gb256, _, none⟩) NB258_256.out _).trans (((cell_far (p := ⟨gb256, _, none⟩) NB258_256.out _).trans (hHeld.2.2.1)))))), ((cell_far (p := ⟨gb256, _, none⟩) NB255_256.out _).trans (((cell_far (p := ⟨gb256, _, none⟩) NB255_256.out _).trans (((cell_far (p := ⟨gb256, _, none⟩) NB255_256.out _).trans (hHeld.2.2.2.1)))))), ((cell_far (p := ⟨gb256, _, none⟩) NB255_256.out _).trans (((cell_far (p := ⟨gb256, _, none⟩) NB255_256.out _).trans (((cell_far (p := ⟨gb256, _, none⟩) NB255_256.out _).trans (hHeld.2.2.2.2.1)))))), ((cell_far (p := ⟨gb256, _, none⟩) NB255_256.out _).trans (((cell_far (p := ⟨gb256, _, none⟩) NB255_256.out _).trans (((cell_far (p := ⟨gb256, _, none⟩) NB255_256.out _).trans (hHeld.2.2.2.2.2.1)))))), ((cell_far (p := ⟨gb256, _, none⟩) NB255_256.out _).trans (((cell_far (p := ⟨gb256, _, none⟩) NB255_256.out _).trans (((cell_far (p := ⟨gb256, _, none⟩) NB255_256.out _).trans (hHeld.2.2.2.2.2.2))))))⟩ (fun hHeld => ?_)
    clear hK K
    refine one_ (i := 3) (N := none) #[true, true, true, true] rfl rfl (by kernel_rfl) (by decide) (fun K hK => ?_)
    have hs73 : w69.cell? ⟨gb257, 0, none⟩ = some (.string (⟨#[]⟩ : ByteArray)) := (blk_cell BK257.out 0).trans rfl
    have hfs73 := blk_frozen BK257.out 0
    have hns73_0 := NB255_257.out
    have hns73_1 := NB256_257.out
    have hns73_3 := NB258_257.out
    have hms73_0 := NB257_255.out
    have hms73_1 := NB257_256.out
    have hms73_3 := NB257_258.out
    have hs74 : w69.cell? ⟨gb257, 1, none⟩ = some (.int .i64 0) := (blk_cell BK257.out 1).trans rfl
    have hfs74 := blk_frozen BK257.out 1
    have hns74_0 := NB255_257.out
    have hns74_1 := NB256_257.out
    have hns74_3 := NB258_257.out
    have hms74_0 := NB257_255.out
    have hms74_1 := NB257_256.out
    have hms74_3 := NB257_258.out
    have hs75 : w69.cell? ⟨gb257, 2, none⟩ = some (.int .i64 0) := (blk_cell BK257.out 2).trans rfl
    have hfs75 := blk_frozen BK257.out 2
    have hns75_0 := NB255_257.out
    have hns75_1 := NB256_257.out
    have hns75_3 := NB258_257.out
    have hms75_0 := NB257_255.out
    have hms75_1 := NB257_256.out
    have hms75_3 := NB257_258.out
    have hs76 : w69.cell? ⟨gb257, 3, none⟩ = some (.bool false) := (blk_cell BK257.out 3).trans rfl
    have hfs76 := blk_frozen BK257.out 3
    have hns76_0 := NB255_257.out
    have hns76_1 := NB256_257.out
    have hns76_3 := NB258_257.out
    have hms76_0 := NB257_255.out
    have hms76_1 := NB257_256.out
    have hms76_3 := NB257_258.out
    refine skip_ (w1 := ?_) (by rfl) rfl ?_ ?_
    rotate_left
    · go_simp
      rfl
    refine hK.out _ _ ⟨((cell_far (p := ⟨gb257, _, none⟩) NB258_257.out _).trans (((cell_far (p := ⟨gb257, _, none⟩) NB258_257.out _).trans (((cell_far (p := ⟨gb257, _, none⟩) NB258_257.out _).trans (((cell_far (p := ⟨gb257, _, none⟩) NB258_257.out _).trans (hHeld.1)))))))), ((cell_far (p := ⟨gb257, _, none⟩) NB258_257.out _).trans (((cell_far (p := ⟨gb257, _, none⟩) NB258_257.out _).trans (((cell_far (p := ⟨gb257, _, none⟩) NB258_257.out _).trans (((cell_far (p := ⟨gb257, _, none⟩) NB258_257.out _).trans (hHeld.2.1)))))))), ((cell_far (p := ⟨gb257, _, none⟩) NB258_257.out _).trans (((cell_far (p := ⟨gb257, _, none⟩) NB258_257.out _).trans (((cell_far (p := ⟨gb257, _, none⟩) NB258_257.out _).trans (((cell_far (p := ⟨gb257, _, none⟩) NB258_257.out _).trans (hHeld.2.2.1)))))))), ((cell_far (p := ⟨gb257, _, none⟩) NB255_257.out _).trans (((cell_far (p := ⟨gb257, _, none⟩) NB255_257.out _).trans (((cell_far (p := ⟨gb257, _, none⟩) NB255_257.out _).trans (((cell_far (p := ⟨gb257, _, none⟩) NB255_257.out _).trans (hHeld.2.2.2.1)))))))), ((cell_far (p := ⟨gb257, _, none⟩) NB255_257.out _).trans (((cell_far (p := ⟨gb257, _, none⟩) NB255_257.out _).trans (((cell_far (p := ⟨gb257, _, none⟩) NB255_257.out _).trans (((cell_far (p := ⟨gb257, _, none⟩) NB255_257.out _).trans (hHeld.2.2.2.2.1)))))))), ((cell_far (p := ⟨gb257, _, none⟩) NB255_257.out _).trans (((cell_far (p := ⟨gb257, _, none⟩) NB255_257.out _).trans (((cell_far (p := ⟨gb257, _, none⟩) NB255_257.out _).trans (((cell_far (p := ⟨gb257, _, none⟩) NB255_257.out _).trans (hHeld.2.2.2.2.2.1)))))))), ((cell_far (p := ⟨gb257, _, none⟩) NB255_257.out _).trans (((cell_far (p := ⟨gb257, _, none⟩) NB255_257.out _).trans (((cell_far (p := ⟨gb257, _, none⟩) NB255_257.out _).trans (((cell_far (p := ⟨gb257, _, none⟩) NB255_257.out _).trans (hHeld.2.2.2.2.2.2))))))))⟩ (fun hHeld => ?_)
    clear hK K
    refine done_ (by kernel_rfl) ?_
    try go_wp2
    refine bodyPost_ret (results_cc rfl _ _ gb256 gb257 47 60 #[.int .i64 t259, .int .i64 a0_1, .string t269] #[.string t270, .int .i64 t271, .int .i64 t272, .bool t273] (0, 0) (0, 0) _ _ rfl (blk) Try.underlying47 rfl (by kernel_rfl) rfl (blk) Try.underlying60 rfl (by kernel_rfl)) rfl ?_
    exact ⟨rtE, bel⟩

end Go.Proofs.Ytjgnpggpgkkknaa.Pr
