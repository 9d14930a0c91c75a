-- Written by wip/tools/xprint.py of this repo over the kit's printer, out of the translation. Lean checks it.
import Derived.Test.YtjgnpggpgkkknaaPr0
namespace Go.Proofs.Ytjgnpggpgkkknaa.Pr
open Go.RowKit Go.Proofs.YtjgnpggpgkkknaaW.PrintWords Go.Proofs.YtjgnpggpgkkknaaW.PrintLast
set_option linter.unusedVariables false
set_option linter.unusedSimpArgs false

/-! ### octet_Fits: function 42 -/
def octet_Fits.f (a0 : Int) (a1 : Int) : Option (Bool) := if a1 ≥ 1 then (if a1 ≤ 7 then (if a0 ≥ 0 then (if 0 ≤ (IntKind.u64.wrap (wrap64 (8 * a1))) then (some ((shr .i64 a0 (IntKind.u64.wrap (wrap64 (8 * a1)))) == 0)) else (none)) else (some false)) else (some false)) else (some false)
set_option maxHeartbeats 8000000 in
set_option maxRecDepth 100000 in
theorem octet_Fits.calls (a0 : Int) (a1 : Int) (r : Bool) (w : World) (h : octet_Fits.f a0 a1 = some r) :
    Calls Try.prog 42 #[.int .i64 a0, .int .i64 a1] w fun e w' => e = .returned (.bool r) ∧ Drawn0 w w' := by
  have H : (if a1 ≥ 1 then (if a1 ≤ 7 then (if a0 ≥ 0 then (if 0 ≤ (IntKind.u64.wrap (wrap64 (8 * a1))) then (some ((shr .i64 a0 (IntKind.u64.wrap (wrap64 (8 * a1)))) == 0)) else (none)) else (some false)) else (some false)) else (some false)) = some r := h
  clear h
  by_cases c3 : a1 ≥ 1
  · rw [if_pos c3] at H
    have c3b0 : decide (1 ≤ a1) = true := decide_eq_true c3
    clear c3
    by_cases c4 : a1 ≤ 7
    · rw [if_pos c4] at H
      have c4b0 : decide (a1 ≤ 7) = true := decide_eq_true c4
      clear c4
      by_cases c5 : a0 ≥ 0
      · rw [if_pos c5] at H
        have c5b0 : decide (0 ≤ a0) = true := decide_eq_true c5
        clear c5
        obtain ⟨ji6, hji6⟩ : ∃ j_ : Int, (IntKind.u64.wrap (wrap64 (8 * a1))) = j_ := ⟨_, rfl⟩
        replace H : (if 0 ≤ (ji6) then (some ((shr .i64 a0 (ji6)) == 0)) else (none)) = some r := by first | (rw [hji6] at H; exact H) | (simp only [hji6] at H ⊢; exact H)
        by_cases c7 : 0 ≤ (ji6)
        · rw [if_pos c7] at H
          have c7b0 := eq_true c7
          have c7b1 : decide (0 ≤ (ji6)) = true := decide_eq_true c7
          clear c7
          obtain ⟨ji8, hji8⟩ : ∃ j_ : Int, (shr .i64 a0 (ji6)) = j_ := ⟨_, rfl⟩
          replace H : (some ((ji8) == 0)) = some r := by first | (rw [hji8] at H; exact H) | (simp only [hji8] at H ⊢; exact H)
          have hji8_ : (a0 / 2 ^ min (ji6).toNat 64) = ji8 := hji8
          have hji8z : (ji6) ≤ 64 → (a0 / 2 ^ (ji6).toNat) = ji8 := shr_small hji8
          obtain rfl := Option.some.inj H
          go_enter Try.func42, Try.ntmps42
          go_wp2
          go_ret
          exact ⟨by first | rfl | (simp; done) | (simp only [← hji6, ← hji8] <;> (first | rfl | simp)) | (simp [*]; done), by repeat (first | exact Drawn0.refl _ | apply Drawn0.step)⟩
        · rw [if_neg c7] at H
          exact absurd H (by simp)
      · rw [if_neg c5] at H
        have c5b0 : decide (0 ≤ a0) = false := decide_eq_false c5
        clear c5
        obtain rfl := Option.some.inj H
        go_enter Try.func42, Try.ntmps42
        go_wp2
        go_ret
        exact ⟨rfS, by repeat (first | exact Drawn0.refl _ | apply Drawn0.step)⟩
    · rw [if_neg c4] at H
      have c4b0 : decide (a1 ≤ 7) = false := decide_eq_false c4
      clear c4
      obtain rfl := Option.some.inj H
      go_enter Try.func42, Try.ntmps42
      go_wp2
      go_ret
      exact ⟨rfS, by repeat (first | exact Drawn0.refl _ | apply Drawn0.step)⟩
  · rw [if_neg c3] at H
    have c3b0 : decide (1 ≤ a1) = false := decide_eq_false c3
    clear c3
    obtain rfl := Option.some.inj H
    go_enter Try.func42, Try.ntmps42
    go_wp2
    go_ret
    exact ⟨rfS, by repeat (first | exact Drawn0.refl _ | apply Drawn0.step)⟩

/-! ### octet_Put: function 43 -/
def octet_Put.l0 : Nat → Int → List Int → Int → Option (ByteArray × Bool)
  | 0, _, _, _ => none
  | k + 1, x0, x6, x7 => if x7 ≥ 0 then (if 0 ≤ x7 then (if x7 < (x6.length : Int) then (octet_Put.l0 k (x0 / 256) (x6.set (x7 : Int).toNat ((x0) % 256)) (wrap64 (x7 - 1))) else (none)) else (none)) else (some (strOfNums x6, true))
def octet_Put.f (k : Nat) (a0 : Int) (a1 : Int) : Option (ByteArray × Bool) := (octet_Fits.f a0 a1).bind fun t101 => (if t101 = true then (if 0 ≤ a1 then (if (a1 : Int).toNat ≤ 281474976710656 then (octet_Put.l0 k a0 (List.replicate (a1 : Int).toNat 0) (wrap64 (a1 - 1))) else (none)) else (none)) else (some ((⟨#[]⟩ : ByteArray), false)))
theorem octet_Put.mono_l : ∀ k, (∀ y0 y1 y2, LeO (octet_Put.l0 k y0 y1 y2) (octet_Put.l0 (k + 1) y0 y1 y2))
  | 0 => fun _ _ _ r h => by simp [octet_Put.l0] at h
  | k + 1 => by
    have ih0 := octet_Put.mono_l k
    · intro y0 y1 y2
      unfold octet_Put.l0
      repeat' first
      | (with_reducible exact ih0 _ _ _)
      | (with_reducible exact LeO.refl _)
      | (with_reducible exact LeO.none _)
      | (with_reducible refine LeO.ite ?_ ?_)
      | (with_reducible refine LeO.bind ?_ (fun _ => ?_))
      | exact ih0 _ _ _
      | exact LeO.none _
      | refine LeO.ite ?_ ?_
      | refine LeO.bind ?_ (fun _ => ?_)
theorem octet_Put.mono : ∀ a0 a1 k, LeO (octet_Put.f k a0 a1) (octet_Put.f (k + 1) a0 a1) := by
  intro a0 a1 k
  have ih0 := octet_Put.mono_l k
  unfold octet_Put.f
  repeat' first
      | (with_reducible exact ih0 _ _ _)
      | (with_reducible exact LeO.refl _)
      | (with_reducible exact LeO.none _)
      | (with_reducible refine LeO.ite ?_ ?_)
      | (with_reducible refine LeO.bind ?_ (fun _ => ?_))
      | exact ih0 _ _ _
      | exact LeO.none _
      | refine LeO.ite ?_ ?_
      | refine LeO.bind ?_ (fun _ => ?_)
set_option maxHeartbeats 8000000 in
set_option maxRecDepth 100000 in
theorem octet_Put.calls (k : Nat) (a0 : Int) (a1 : Int) (r1 : ByteArray) (r2 : Bool) (w : World) (h : octet_Put.f k a0 a1 = some (r1, r2)) :
    Calls Try.prog 43 #[.int .i64 a0, .int .i64 a1] w fun e w' => e = .returned (.tuple #[.string r1, .bool r2]) ∧ Below w.heap.size w w' := by
  have HB := Aside0.mk (Below.refl w.heap.size w)
  have H : ((octet_Fits.f a0 a1).bind fun t101 => (if t101 = true then (if 0 ≤ a1 then (if (a1 : Int).toNat ≤ 281474976710656 then (octet_Put.l0 k a0 (List.replicate (a1 : Int).toNat 0) (wrap64 (a1 - 1))) else (none)) else (none)) else (some ((⟨#[]⟩ : ByteArray), false)))) = some (r1, r2) := h
  clear h
  replace H := Option.bind_eq_some_iff.mp H
  obtain ⟨t101, A30, H⟩ := H
  replace H : (if t101 = true then (if 0 ≤ a1 then (if (a1 : Int).toNat ≤ 281474976710656 then (octet_Put.l0 k a0 (List.replicate (a1 : Int).toNat 0) (wrap64 (a1 - 1))) else (none)) else (none)) else (some ((⟨#[]⟩ : ByteArray), false))) = some (r1, r2) := H
  have A3 := Aside0.mk A30
  clear A30
  by_cases c4 : t101 = true
  · subst c4
    have H1 : (if 0 ≤ a1 then (if (a1 : Int).toNat ≤ 281474976710656 then (octet_Put.l0 k a0 (List.replicate (a1 : Int).toNat 0) (wrap64 (a1 - 1))) else (none)) else (none)) = some (r1, r2) := by rw [if_pos rfl] at H; exact H
    clear H
    have H := H1
    clear H1
    by_cases c5 : 0 ≤ a1
    · rw [if_pos c5] at H
      have c5b0 := eq_true c5
      have c5b1 : decide (0 ≤ a1) = true := decide_eq_true c5
      clear c5
      by_cases c6 : (a1 : Int).toNat ≤ 281474976710656
      · rw [if_pos c6] at H
        have c6b0 := eq_true c6
        have c6b1 : decide ((a1 : Int).toNat ≤ 281474976710656) = true := decide_eq_true c6
        clear c6
        obtain ⟨y102, hy102⟩ : ∃ y_ : List Int, y_ = (List.replicate (a1 : Int).toNat 0) := ⟨_, rfl⟩
        replace H : (octet_Put.l0 k a0 y102 (wrap64 (a1 - 1))) = some (r1, r2) := by first | (rw [hy102]; with_reducible exact H) | (have H2_ := (Option.bind_some _ _).symm.trans H; rw [hy102]; with_reducible exact H2_) | (have H2_ := (Option.bind_some _ _).symm.trans H; with_reducible exact H2_) | with_reducible exact H | (rw [hy102]; exact H) | exact H
        have Ny102 := Aside0.mk hy102
        clear hy102
        have H' := Aside0.mk H
        clear H
        go_enter Try.func43, Try.ntmps43
        go_wp2_with (first | ((with_reducible refine gate_callee (f := 42) rfl ?_); refine goesL_ (some 10) rfl rfl Try.func42 (by kernel_rfl) rfl #[.int .i64 a0, .int .i64 a1] rfl gAr ?_; (with_reducible refine (octet_Fits.calls a0 a1 true _ A3.out).mono ?_); rintro e w' ⟨rfl, ⟨nd, rfl⟩⟩; refine ⟨_, rfl, ?_⟩) | ((with_reducible refine gate_dst (N := 13) rfl ?_); refine Kd.R_make (Kd.int .u8) _ 5 rfl (N := 13) rfl 55 _ _ rfl a1 rfl rfl Try.underlying55 (.int .u8 0) 1 info5 rfl (by decide) (by omega) 0 (ok := fun _ => True) (okp := fun _ => True) rfl (fun _ hk => hk) trivial (odt) (Nat.le_trans (Nat.mul_le_mul_right _ (odt : a1.toNat ≤ 281474976710656)) (by omega)) (Below.refl _ _) (Nat.le_refl _) ?_; intro v103 w7 ho8 hb hg_ hnew_; clear hg_ hnew_; (first | rw [← Ny102.out] at ho8 | (simp only [Int.reduceToNat] at ho8; rw [← Ny102.out] at ho8)); have n0_ := Aside0.mk (Kd.R_lower ho8 bsz); have n1_ := Aside0.mk (below_step (bel) hb); clear HB; have HO104 := n0_; have HB := n1_; clear n0_ n1_; clear hb ho8))
        go_loopg [0, 7] k (fun kq v0 v7 w' => ∃ (x0_1 : Int) (x6_1 : List Int) (x7_1 : Int), v0 = .int .i64 x0_1 ∧ v7 = .int .i64 x7_1 ∧ Aside0 (octet_Put.l0 kq x0_1 x6_1 x7_1 = some (r1, r2)) ∧ Aside0 (kq ≤ k) ∧ Aside0 (Kd.R (Kd.int .u8) 5 w' w.heap.size (fun _ => True) v103 x6_1) ∧ Aside0 (Below w.heap.size w w'))
        case atStart => exact ⟨(a0), (y102), (wrap64 (a1 - 1)), rfS, rfS, H', ⟨Nat.le_refl _⟩, ⟨Kd.R_below HO104.out bll⟩, ⟨bel⟩⟩
        case round =>
          clear H'
          try clear c4
          try clear c5
          try clear c5b0
          try clear c5b1
          try clear c6
          try clear c6b0
          try clear c6b1
          obtain ⟨x0_1, x6_1, x7_1, rfl, rfl, HA, HK1, HO_6, HB⟩ := hrel
          cases gk with
          | zero => exact absurd HA.out (by simp [octet_Put.l0])
          | succ k1 =>
            have H := HA.out
            clear HA
            simp only [octet_Put.l0] at H
            by_cases c9 : x7_1 ≥ 0
            · rw [if_pos c9] at H
              have c9b0 : decide (0 ≤ x7_1) = true := decide_eq_true c9
              clear c9
              by_cases c10 : 0 ≤ x7_1
              · rw [if_pos c10] at H
                have c10b0 : decide (0 ≤ x7_1) = true := decide_eq_true c10
                clear c10
                by_cases c11 : x7_1 < (x6_1.length : Int)
                · rw [if_pos c11] at H
                  have c11b0 : decide (x7_1 < (x6_1.length : Int)) = true := decide_eq_true c11
                  clear c11
                  obtain ⟨y105, hy105⟩ : ∃ y_ : List Int, y_ = (x6_1.set (x7_1 : Int).toNat ((x0_1) % 256)) := ⟨_, rfl⟩
                  replace H : (octet_Put.l0 k1 (x0_1 / 256) y105 (wrap64 (x7_1 - 1))) = some (r1, r2) := by first | (rw [hy105]; with_reducible exact H) | (have H2_ := (Option.bind_some _ _).symm.trans H; rw [hy105]; with_reducible exact H2_) | (have H2_ := (Option.bind_some _ _).symm.trans H; with_reducible exact H2_) | with_reducible exact H | (rw [hy105]; exact H) | exact H
                  have Ny105 := Aside0.mk hy105
                  clear hy105
                  have H' := Aside0.mk H
                  clear H
                  have p12 : 0 ≤ (x7_1 : Int) := odt
                  have q12 : (x7_1 : Int) < ((x6_1.length : Int) : Int) := odt
                  obtain ⟨go12, co12, eo12, gb12, gl12, cl12, HG12⟩ := Kd.R_form HO_6.out (by omega)
                  (first | cases eo12 | (injection eo12 with ea_ en_ ec_; (first | subst ea_ | (injection ea_ with ea_; subst ea_)); subst ec_; clear en_))
                  have GB12 := Aside0.mk gb12
                  have GG12 := Aside0.mk HG12
                  clear gb12 gl12 HG12
                  obtain ⟨hx12_0, hf12_0⟩ := Kd.R_celln 0 HO_6.out (x7_1 : Int) p12 q12
                  replace p12 := eq_true p12
                  replace q12 := eq_true q12
                  have HP13 := Kd.R_putg HO_6.out (x7_1 : Int) ((x0_1) % 256)
                  go_wp2_with (first | ((with_reducible refine gate_store (t := 5) (p := 24) rfl ?_); refine store_event (t := 5) (p := 24) (v := ?vo_w14) (w1 := (wr.setCell ⟨go12, (x7_1 : Int).toNat, none⟩ (.int .u8 ((x0_1) % 256)))) ?hg ?ho ?hn ?hr ?_; (case ho => rfl); (case hg => rfl); (case hn => rfl); (case hr => first | (go_simp; done) | (go_simp; rfl)); intro w14 hw; have hg : wr.grownBy w14 (some go12) := (by rw [hw]; exact HP13.2); have hp_ : Kd.R (Kd.int .u8) 5 w14 w.heap.size (fun _ => True) (.slice (some ⟨go12, 0, none⟩) x6_1.length co12) y105 := (by rw [hw, Ny105.out]; exact HP13.1); clear HP13; have n0_ := Aside0.mk (hp_); have n1_ := Aside0.mk ((by rw [hw]; exact below_set (HB.out) GB12.out : Below w.heap.size w w14)); clear HO_6; clear HB; have HO_6 := n0_; have HB := n1_; clear n0_ n1_; clear hg hw hp_))
                  go_roundg k1
                  case measure => have := HK1.out; omega
                  case rel => exact ⟨(x0_1 / 256), (y105), (wrap64 (x7_1 - 1)), rfS, rfS, H', ⟨by have := HK1.out; omega⟩, ⟨Kd.R_below HO_6.out bll⟩, ⟨bel⟩⟩
                · rw [if_neg c11] at H
                  exact absurd H (by simp)
              · rw [if_neg c10] at H
                exact absurd H (by simp)
            · rw [if_neg c9] at H
              have c9b0 : decide (0 ≤ x7_1) = false := decide_eq_false c9
              clear c9
              simp only [Option.some.injEq, Prod.mk.injEq] at H
              obtain ⟨rfl, rfl⟩ := H
              have hcv15 := own_string (P := Try.prog) Try.underlying55 Try.underlying5 Try.underlying9 (Kd.own_of_R HO_6.out)
              go_wp2
              go_ret2
              exact ⟨rtE, bel⟩
      · rw [if_neg c6] at H
        exact absurd H (by simp)
    · rw [if_neg c5] at H
      exact absurd H (by simp)
  · replace c4 := Bool.eq_false_iff.mpr c4
    subst c4
    have H1 : (some ((⟨#[]⟩ : ByteArray), false)) = some (r1, r2) := by rw [if_neg (show ¬ (false = true) by decide)] at H; exact H
    clear H
    have H := H1
    clear H1
    simp only [Option.some.injEq, Prod.mk.injEq] at H
    obtain ⟨rfl, rfl⟩ := H
    go_enter Try.func43, Try.ntmps43
    go_wp2_with (first | ((with_reducible refine gate_callee (f := 42) rfl ?_); refine goesL_ (some 10) rfl rfl Try.func42 (by kernel_rfl) rfl #[.int .i64 a0, .int .i64 a1] rfl gAr ?_; (with_reducible refine (octet_Fits.calls a0 a1 false _ A3.out).mono ?_); rintro e w' ⟨rfl, ⟨nd, rfl⟩⟩; refine ⟨_, rfl, ?_⟩))
    go_ret2
    exact ⟨rtE, bel⟩

/-! ### entry_Put: function 15 -/
def entry_Put.j0 : Nat → Bool → Int → Int → ByteArray → ByteArray → ByteArray → Int → Option (ByteArray × Bool)
  | 0, _, _, _, _, _, _, _ => none
  | k + 1, x43, x107000, x107001, x107002, x107003, x107004, x107005 => if x43 = true then (some ((⟨#[]⟩ : ByteArray), false)) else ((octet_Put.f k x107000 2).bind fun bt110 => ((octet_Put.f k x107001 2).bind fun bt112 => ((octet_Put.f k x107005 4).bind fun bt114 => (if bt110.1.size + bt112.1.size ≤ 9223372036854775807 then (if (bt110.1 ++ bt112.1).size + x107002.size ≤ 9223372036854775807 then (if ((bt110.1 ++ bt112.1) ++ x107002).size + x107003.size ≤ 9223372036854775807 then (if (((bt110.1 ++ bt112.1) ++ x107002) ++ x107003).size + x107004.size ≤ 9223372036854775807 then (if ((((bt110.1 ++ bt112.1) ++ x107002) ++ x107003) ++ x107004).size + bt114.1.size ≤ 9223372036854775807 then (some (((((bt110.1 ++ bt112.1) ++ x107002) ++ x107003) ++ x107004) ++ bt114.1, true)) else (none)) else (none)) else (none)) else (none)) else (none)))))
def entry_Put.f (k : Nat) (a0_0 : Int) (a0_1 : Int) (a0_2 : ByteArray) (a0_3 : ByteArray) (a0_4 : ByteArray) (a0_5 : Int) : Option (ByteArray × Bool) := if (a0_2.size : Int) = 4 then (if (a0_3.size : Int) = 4 then (if (a0_4.size : Int) = 4 then ((octet_Fits.f a0_5 4).bind fun t107 => (if t107 = true then ((octet_Fits.f a0_0 2).bind fun t108 => (if t108 = true then ((octet_Fits.f a0_1 2).bind fun t109 => (entry_Put.j0 k (!t109) a0_0 a0_1 a0_2 a0_3 a0_4 a0_5)) else (entry_Put.j0 k true a0_0 a0_1 a0_2 a0_3 a0_4 a0_5))) else (entry_Put.j0 k true a0_0 a0_1 a0_2 a0_3 a0_4 a0_5))) else (entry_Put.j0 k true a0_0 a0_1 a0_2 a0_3 a0_4 a0_5)) else (entry_Put.j0 k true a0_0 a0_1 a0_2 a0_3 a0_4 a0_5)) else (entry_Put.j0 k true a0_0 a0_1 a0_2 a0_3 a0_4 a0_5)
theorem entry_Put.mono_l : ∀ k, (∀ y0 y1 y2 y3 y4 y5 y6, LeO (entry_Put.j0 k y0 y1 y2 y3 y4 y5 y6) (entry_Put.j0 (k + 1) y0 y1 y2 y3 y4 y5 y6))
  | 0 => fun _ _ _ _ _ _ _ r h => by simp [entry_Put.j0] at h
  | k + 1 => by
    have ih0 := entry_Put.mono_l k
    · intro y0 y1 y2 y3 y4 y5 y6
      unfold entry_Put.j0
      repeat' first
      | (with_reducible exact ih0 _ _ _ _ _ _ _)
      | (with_reducible exact octet_Put.mono _ _ _)
      | (with_reducible exact LeO.refl _)
      | (with_reducible exact LeO.none _)
      | (with_reducible refine LeO.ite ?_ ?_)
      | (with_reducible refine LeO.bind ?_ (fun _ => ?_))
      | exact ih0 _ _ _ _ _ _ _
      | exact octet_Put.mono _ _ _
      | exact LeO.none _
      | refine LeO.ite ?_ ?_
      | refine LeO.bind ?_ (fun _ => ?_)
theorem entry_Put.mono : ∀ a0 a1 a2 a3 a4 a5 k, LeO (entry_Put.f k a0 a1 a2 a3 a4 a5) (entry_Put.f (k + 1) a0 a1 a2 a3 a4 a5) := by
  intro a0 a1 a2 a3 a4 a5 k
  have ih0 := entry_Put.mono_l k
  unfold entry_Put.f
  repeat' first
      | (with_reducible exact ih0 _ _ _ _ _ _ _)
      | (with_reducible exact octet_Put.mono _ _ _)
      | (with_reducible exact LeO.refl _)
      | (with_reducible exact LeO.none _)
      | (with_reducible refine LeO.ite ?_ ?_)
      | (with_reducible refine LeO.bind ?_ (fun _ => ?_))
      | exact ih0 _ _ _ _ _ _ _
      | exact octet_Put.mono _ _ _
      | exact LeO.none _
      | refine LeO.ite ?_ ?_
      | refine LeO.bind ?_ (fun _ => ?_)
set_option maxHeartbeats 8000000 in
set_option maxRecDepth 100000 in
theorem entry_Put.calls (k : Nat) (a0_0 : Int) (a0_1 : Int) (a0_2 : ByteArray) (a0_3 : ByteArray) (a0_4 : ByteArray) (a0_5 : Int) (r1 : ByteArray) (r2 : Bool) (w : World) (h : entry_Put.f k a0_0 a0_1 a0_2 a0_3 a0_4 a0_5 = some (r1, r2)) :
    Calls Try.prog 15 #[.agg #[.int .i64 a0_0, .int .i64 a0_1, .string a0_2, .string a0_3, .string a0_4, .int .i64 a0_5]] w fun e w' => e = .returned (.tuple #[.string r1, .bool r2]) ∧ Below w.heap.size w w' := by
  have hu23 := Try.underlying23
  have HB := Aside0.mk (Below.refl w.heap.size w)
  have H : (if (a0_2.size : Int) = 4 then (if (a0_3.size : Int) = 4 then (if (a0_4.size : Int) = 4 then ((octet_Fits.f a0_5 4).bind fun t107 => (if t107 = true then ((octet_Fits.f a0_0 2).bind fun t108 => (if t108 = true then ((octet_Fits.f a0_1 2).bind fun t109 => (entry_Put.j0 k (!t109) a0_0 a0_1 a0_2 a0_3 a0_4 a0_5)) else (entry_Put.j0 k true a0_0 a0_1 a0_2 a0_3 a0_4 a0_5))) else (entry_Put.j0 k true a0_0 a0_1 a0_2 a0_3 a0_4 a0_5))) else (entry_Put.j0 k true a0_0 a0_1 a0_2 a0_3 a0_4 a0_5)) else (entry_Put.j0 k true a0_0 a0_1 a0_2 a0_3 a0_4 a0_5)) else (entry_Put.j0 k true a0_0 a0_1 a0_2 a0_3 a0_4 a0_5)) = some (r1, r2) := h
  clear h
  have HC2 := Aside0.mk H
  clear H
  go_enter Try.func15, Try.ntmps15
  go_upto_region 1 with (first | ((with_reducible refine gate_dst (N := 1) rfl ?_); refine box_event ?hg (N := 1) ?hd (cs := #[.int .i64 a0_0, .int .i64 a0_1, .string a0_2, .string a0_3, .string a0_4, .int .i64 a0_5]) (t := 23) ?hr ?_; (case hd => rfl); (case hg => rfl); (case hr => first | (go_simp; done) | (go_simp; rfl)); intro gb106 hg w3 hbox hb; have n0_ := Aside0.mk (below_step (bel) hb); have n1_ := Aside0.mk (hbox); have n2_ := Aside0.mk ((by rw [hg]; exact bsz : w.heap.size ≤ gb106)); have n3_ := Aside0.mk ((by rw [hg]; exact bsz : w.heap.size ≤ gb106)); clear HB; have HB := n0_; have BK106 := n1_; have GW106 := n2_; have GE106 := n3_; clear n0_ n1_ n2_ n3_; clear hb hbox hg))
  (try simp only [Act.put, List.setIfInBounds_toArray, List.set_cons_zero, List.set_cons_succ])
  go_cut [43] (fun v43 wc => ∃ (kq : Nat) (x43_1 : Bool), v43 = .bool x43_1 ∧ Aside0 (entry_Put.j0 kq x43_1 a0_0 a0_1 a0_2 a0_3 a0_4 a0_5 = some (r1, r2)) ∧ Aside0 (kq ≤ k) ∧ Aside0 (wc.heap[gb106]? = some (.cells #[.int .i64 a0_0, .int .i64 a0_1, .string a0_2, .string a0_3, .string a0_4, .int .i64 a0_5] 23 (0, 0))) ∧ Aside0 (Below w.heap.size w wc))
  case first =>
    have H := HC2.out
    clear HC2
    by_cases c4 : (a0_2.size : Int) = 4
    · rw [if_pos c4] at H
      have c4b0 : ((a0_2.size : Int) == 4) = true := beq_iff_eq.mpr c4
      have c4b1 : ((a0_2.size : Int) != 4) = false := bne_eq_false_iff_eq.mpr c4
      clear c4
      (first | rw [c4b0] | (simp only [i64_w, i32_w]; rw [c4b0]) | skip)
      by_cases c5 : (a0_3.size : Int) = 4
      · rw [if_pos c5] at H
        have c5b0 : ((a0_3.size : Int) == 4) = true := beq_iff_eq.mpr c5
        have c5b1 : ((a0_3.size : Int) != 4) = false := bne_eq_false_iff_eq.mpr c5
        clear c5
        by_cases c6 : (a0_4.size : Int) = 4
        · rw [if_pos c6] at H
          have c6b0 : ((a0_4.size : Int) == 4) = true := beq_iff_eq.mpr c6
          have c6b1 : ((a0_4.size : Int) != 4) = false := bne_eq_false_iff_eq.mpr c6
          clear c6
          replace H := Option.bind_eq_some_iff.mp H
          obtain ⟨t107, A70, H⟩ := H
          replace H : (if t107 = true then ((octet_Fits.f a0_0 2).bind fun t108 => (if t108 = true then ((octet_Fits.f a0_1 2).bind fun t109 => (entry_Put.j0 k (!t109) a0_0 a0_1 a0_2 a0_3 a0_4 a0_5)) else (entry_Put.j0 k true a0_0 a0_1 a0_2 a0_3 a0_4 a0_5))) else (entry_Put.j0 k true a0_0 a0_1 a0_2 a0_3 a0_4 a0_5)) = some (r1, r2) := H
          have A7 := Aside0.mk A70
          clear A70
          by_cases c8 : t107 = true
          · subst c8
            have H1 : ((octet_Fits.f a0_0 2).bind fun t108 => (if t108 = true then ((octet_Fits.f a0_1 2).bind fun t109 => (entry_Put.j0 k (!t109) a0_0 a0_1 a0_2 a0_3 a0_4 a0_5)) else (entry_Put.j0 k true a0_0 a0_1 a0_2 a0_3 a0_4 a0_5))) = some (r1, r2) := by rw [if_pos rfl] at H; exact H
            clear H
            have H := H1
            clear H1
            replace H := Option.bind_eq_some_iff.mp H
            obtain ⟨t108, A90, H⟩ := H
            replace H : (if t108 = true then ((octet_Fits.f a0_1 2).bind fun t109 => (entry_Put.j0 k (!t109) a0_0 a0_1 a0_2 a0_3 a0_4 a0_5)) else (entry_Put.j0 k true a0_0 a0_1 a0_2 a0_3 a0_4 a0_5)) = some (r1, r2) := H
            have A9 := Aside0.mk A90
            clear A90
            by_cases c10 : t108 = true
            · subst c10
              have H1 : ((octet_Fits.f a0_1 2).bind fun t109 => (entry_Put.j0 k (!t109) a0_0 a0_1 a0_2 a0_3 a0_4 a0_5)) = some (r1, r2) := by rw [if_pos rfl] at H; exact H
              clear H
              have H := H1
              clear H1
              replace H := Option.bind_eq_some_iff.mp H
              obtain ⟨t109, A110, H⟩ := H
              replace H : (entry_Put.j0 k (!t109) a0_0 a0_1 a0_2 a0_3 a0_4 a0_5) = some (r1, r2) := H
              have A11 := Aside0.mk A110
              clear A110
              have H' := Aside0.mk H
              clear H
              have hcz12_2 := cl2 BK106.out
              have hfz12_2 := blk_frozen BK106.out 2
              have hcz13_3 := cl3 BK106.out
              have hfz13_3 := blk_frozen BK106.out 3
              have hcz14_4 := cl4 BK106.out
              have hfz14_4 := blk_frozen BK106.out 4
              have hcz15_5 := cl5 BK106.out
              have hfz15_5 := blk_frozen BK106.out 5
              go_wp2_with (first | (go_at_call 42; (with_reducible refine (octet_Fits.calls a0_5 4 true _ A7.out).mono ?_); rintro e w' ⟨rfl, ⟨nd, rfl⟩⟩; have hcz16_0 := cl0 BK106.out; have hfz16_0 := blk_frozen BK106.out 0) | (go_at_call 42; (with_reducible refine (octet_Fits.calls a0_0 2 true _ A9.out).mono ?_); rintro e w' ⟨rfl, ⟨nd, rfl⟩⟩; have hcz17_1 := cl1 BK106.out; have hfz17_1 := blk_frozen BK106.out 1) | (go_at_call 42; (with_reducible refine (octet_Fits.calls a0_1 2 t109 _ A11.out).mono ?_); rintro e w' ⟨rfl, ⟨nd, rfl⟩⟩))
              go_meet
              case rel => exact ⟨_, (!t109), rfS, H', ⟨by first | omega | exact Nat.le_refl _⟩, ⟨blk_below BK106.out bll⟩, ⟨bel⟩⟩
            · replace c10 := Bool.eq_false_iff.mpr c10
              subst c10
              have H1 : (entry_Put.j0 k true a0_0 a0_1 a0_2 a0_3 a0_4 a0_5) = some (r1, r2) := by rw [if_neg (show ¬ (false = true) by decide)] at H; exact H
              clear H
              have H := H1
              clear H1
              have H' := Aside0.mk H
              clear H
              have hcz18_2 := cl2 BK106.out
              have hfz18_2 := blk_frozen BK106.out 2
              have hcz19_3 := cl3 BK106.out
              have hfz19_3 := blk_frozen BK106.out 3
              have hcz20_4 := cl4 BK106.out
              have hfz20_4 := blk_frozen BK106.out 4
              have hcz21_5 := cl5 BK106.out
              have hfz21_5 := blk_frozen BK106.out 5
              go_wp2_with (first | (go_at_call 42; (with_reducible refine (octet_Fits.calls a0_5 4 true _ A7.out).mono ?_); rintro e w' ⟨rfl, ⟨nd, rfl⟩⟩; have hcz22_0 := cl0 BK106.out; have hfz22_0 := blk_frozen BK106.out 0) | (go_at_call 42; (with_reducible refine (octet_Fits.calls a0_0 2 false _ A9.out).mono ?_); rintro e w' ⟨rfl, ⟨nd, rfl⟩⟩))
              go_meet
              case rel => exact ⟨_, (true), rfS, H', ⟨by first | omega | exact Nat.le_refl _⟩, ⟨blk_below BK106.out bll⟩, ⟨bel⟩⟩
          · replace c8 := Bool.eq_false_iff.mpr c8
            subst c8
            have H1 : (entry_Put.j0 k true a0_0 a0_1 a0_2 a0_3 a0_4 a0_5) = some (r1, r2) := by rw [if_neg (show ¬ (false = true) by decide)] at H; exact H
            clear H
            have H := H1
            clear H1
            have H' := Aside0.mk H
            clear H
            have hcz23_2 := cl2 BK106.out
            have hfz23_2 := blk_frozen BK106.out 2
            have hcz24_3 := cl3 BK106.out
            have hfz24_3 := blk_frozen BK106.out 3
            have hcz25_4 := cl4 BK106.out
            have hfz25_4 := blk_frozen BK106.out 4
            have hcz26_5 := cl5 BK106.out
            have hfz26_5 := blk_frozen BK106.out 5
            go_wp2_with (first | (go_at_call 42; (with_reducible refine (octet_Fits.calls a0_5 4 false _ A7.out).mono ?_); rintro e w' ⟨rfl, ⟨nd, rfl⟩⟩))
            go_meet
            case rel => exact ⟨_, (true), rfS, H', ⟨by first | omega | exact Nat.le_refl _⟩, ⟨blk_below BK106.out bll⟩, ⟨bel⟩⟩
        · rw [if_neg c6] at H
          have c6b0 : ((a0_4.size : Int) == 4) = false := beq_eq_false_iff_ne.mpr c6
          have c6b1 : ((a0_4.size : Int) != 4) = true := bne_iff_ne.mpr c6
          have H' := Aside0.mk H
          clear H
          have hcz27_2 := cl2 BK106.out
          have hfz27_2 := blk_frozen BK106.out 2
          have hcz28_3 := cl3 BK106.out
          have hfz28_3 := blk_frozen BK106.out 3
          have hcz29_4 := cl4 BK106.out
          have hfz29_4 := blk_frozen BK106.out 4
          go_wp2
          go_meet
          case rel => exact ⟨_, (true), rfS, H', ⟨by first | omega | exact Nat.le_refl _⟩, ⟨blk_below BK106.out bll⟩, ⟨bel⟩⟩
      · rw [if_neg c5] at H
        have c5b0 : ((a0_3.size : Int) == 4) = false := beq_eq_false_iff_ne.mpr c5
        have c5b1 : ((a0_3.size : Int) != 4) = true := bne_iff_ne.mpr c5
        have H' := Aside0.mk H
        clear H
        have hcz30_2 := cl2 BK106.out
        have hfz30_2 := blk_frozen BK106.out 2
        have hcz31_3 := cl3 BK106.out
        have hfz31_3 := blk_frozen BK106.out 3
        go_wp2
        go_meet
        case rel => exact ⟨_, (true), rfS, H', ⟨by first | omega | exact Nat.le_refl _⟩, ⟨blk_below BK106.out bll⟩, ⟨bel⟩⟩
    · rw [if_neg c4] at H
      have c4b0 : ((a0_2.size : Int) == 4) = false := beq_eq_false_iff_ne.mpr c4
      have c4b1 : ((a0_2.size : Int) != 4) = true := bne_iff_ne.mpr c4
      (first | rw [c4b0] | (simp only [i64_w, i32_w]; rw [c4b0]) | skip)
      have H' := Aside0.mk H
      clear H
      have hcz32_2 := cl2 BK106.out
      have hfz32_2 := blk_frozen BK106.out 2
      go_wp2
      go_meet
      case rel => exact ⟨_, (true), rfS, H', ⟨by first | omega | exact Nat.le_refl _⟩, ⟨blk_below BK106.out bll⟩, ⟨bel⟩⟩
  case rest =>
    clear HC2
    try clear c4
    try clear c4b0
    try clear c4b1
    try clear c5
    try clear c5b0
    try clear c5b1
    try clear c6
    try clear c6b0
    try clear c6b1
    try clear c8
    try clear c10
    try clear hcz12_2
    try clear hcz13_3
    try clear hcz14_4
    try clear hcz15_5
    try clear hcz16_0
    try clear hcz17_1
    try clear hcz18_2
    try clear hcz19_3
    try clear hcz20_4
    try clear hcz21_5
    try clear hcz22_0
    try clear hcz23_2
    try clear hcz24_3
    try clear hcz25_4
    try clear hcz26_5
    try clear hcz27_2
    try clear hcz28_3
    try clear hcz29_4
    try clear hcz30_2
    try clear hcz31_3
    try clear hcz32_2
    try clear hfz12_2
    try clear hfz13_3
    try clear hfz14_4
    try clear hfz15_5
    try clear hfz16_0
    try clear hfz17_1
    try clear hfz18_2
    try clear hfz19_3
    try clear hfz20_4
    try clear hfz21_5
    try clear hfz22_0
    try clear hfz23_2
    try clear hfz24_3
    try clear hfz25_4
    try clear hfz26_5
    try clear hfz27_2
    try clear hfz28_3
    try clear hfz29_4
    try clear hfz30_2
    try clear hfz31_3
    try clear hfz32_2
    obtain ⟨kq, x43_1, rfl, HA, HJ1, BK106, HB⟩ := hcut
    cases kq with
    | zero => exact absurd HA.out (by simp [entry_Put.j0])
    | succ kj1 =>
      have H := HA.out
      clear HA
      simp only [entry_Put.j0] at H
      by_cases c33 : x43_1 = true
      · subst c33
        have H1 : (some ((⟨#[]⟩ : ByteArray), false)) = some (r1, r2) := by rw [if_pos rfl] at H; exact H
        clear H
        have H := H1
        clear H1
        simp only [Option.some.injEq, Prod.mk.injEq] at H
        obtain ⟨rfl, rfl⟩ := H
        go_wp2
        go_ret2
        exact ⟨rtE, bel⟩
      · replace c33 := Bool.eq_false_iff.mpr c33
        subst c33
        have H1 : ((octet_Put.f kj1 a0_0 2).bind fun bt110 => ((octet_Put.f kj1 a0_1 2).bind fun bt112 => ((octet_Put.f kj1 a0_5 4).bind fun bt114 => (if bt110.1.size + bt112.1.size ≤ 9223372036854775807 then (if (bt110.1 ++ bt112.1).size + a0_2.size ≤ 9223372036854775807 then (if ((bt110.1 ++ bt112.1) ++ a0_2).size + a0_3.size ≤ 9223372036854775807 then (if (((bt110.1 ++ bt112.1) ++ a0_2) ++ a0_3).size + a0_4.size ≤ 9223372036854775807 then (if ((((bt110.1 ++ bt112.1) ++ a0_2) ++ a0_3) ++ a0_4).size + bt114.1.size ≤ 9223372036854775807 then (some (((((bt110.1 ++ bt112.1) ++ a0_2) ++ a0_3) ++ a0_4) ++ bt114.1, true)) else (none)) else (none)) else (none)) else (none)) else (none))))) = some (r1, r2) := by rw [if_neg (show ¬ (false = true) by decide)] at H; exact H
        clear H
        have H := H1
        clear H1
        replace H := Option.bind_eq_some_iff.mp H
        obtain ⟨⟨t110, t111⟩, A340, H⟩ := H
        replace H : ((octet_Put.f kj1 a0_1 2).bind fun bt112 => ((octet_Put.f kj1 a0_5 4).bind fun bt114 => (if t110.size + bt112.1.size ≤ 9223372036854775807 then (if (t110 ++ bt112.1).size + a0_2.size ≤ 9223372036854775807 then (if ((t110 ++ bt112.1) ++ a0_2).size + a0_3.size ≤ 9223372036854775807 then (if (((t110 ++ bt112.1) ++ a0_2) ++ a0_3).size + a0_4.size ≤ 9223372036854775807 then (if ((((t110 ++ bt112.1) ++ a0_2) ++ a0_3) ++ a0_4).size + bt114.1.size ≤ 9223372036854775807 then (some (((((t110 ++ bt112.1) ++ a0_2) ++ a0_3) ++ a0_4) ++ bt114.1, true)) else (none)) else (none)) else (none)) else (none)) else (none)))) = some (r1, r2) := H
        have A34 := Aside0.mk A340
        clear A340
        replace H := Option.bind_eq_some_iff.mp H
        obtain ⟨⟨t112, t113⟩, A350, H⟩ := H
        replace H : ((octet_Put.f kj1 a0_5 4).bind fun bt114 => (if t110.size + t112.size ≤ 9223372036854775807 then (if (t110 ++ t112).size + a0_2.size ≤ 9223372036854775807 then (if ((t110 ++ t112) ++ a0_2).size + a0_3.size ≤ 9223372036854775807 then (if (((t110 ++ t112) ++ a0_2) ++ a0_3).size + a0_4.size ≤ 9223372036854775807 then (if ((((t110 ++ t112) ++ a0_2) ++ a0_3) ++ a0_4).size + bt114.1.size ≤ 9223372036854775807 then (some (((((t110 ++ t112) ++ a0_2) ++ a0_3) ++ a0_4) ++ bt114.1, true)) else (none)) else (none)) else (none)) else (none)) else (none))) = some (r1, r2) := H
        have A35 := Aside0.mk A350
        clear A350
        replace H := Option.bind_eq_some_iff.mp H
        obtain ⟨⟨t114, t115⟩, A360, H⟩ := H
        replace H : (if t110.size + t112.size ≤ 9223372036854775807 then (if (t110 ++ t112).size + a0_2.size ≤ 9223372036854775807 then (if ((t110 ++ t112) ++ a0_2).size + a0_3.size ≤ 9223372036854775807 then (if (((t110 ++ t112) ++ a0_2) ++ a0_3).size + a0_4.size ≤ 9223372036854775807 then (if ((((t110 ++ t112) ++ a0_2) ++ a0_3) ++ a0_4).size + t114.size ≤ 9223372036854775807 then (some (((((t110 ++ t112) ++ a0_2) ++ a0_3) ++ a0_4) ++ t114, true)) else (none)) else (none)) else (none)) else (none)) else (none)) = some (r1, r2) := H
        have A36 := Aside0.mk A360
        clear A360
        by_cases c37 : t110.size + t112.size ≤ 9223372036854775807
        · rw [if_pos c37] at H
          have c37b0 := eq_true c37
          have c37b1 : decide (t110.size + t112.size ≤ 9223372036854775807) = true := decide_eq_true c37
          try have c37b2 : (9223372036854775807 < t110.size + t112.size) = False := eq_false (Nat.not_lt.2 c37)
          by_cases c38 : (t110 ++ t112).size + a0_2.size ≤ 9223372036854775807
          · rw [if_pos c38] at H
            have c38b0 := eq_true c38
            have c38b1 : decide ((t110 ++ t112).size + a0_2.size ≤ 9223372036854775807) = true := decide_eq_true c38
            try have c38b2 : (9223372036854775807 < (t110 ++ t112).size + a0_2.size) = False := eq_false (Nat.not_lt.2 c38)
            by_cases c39 : ((t110 ++ t112) ++ a0_2).size + a0_3.size ≤ 9223372036854775807
            · rw [if_pos c39] at H
              have c39b0 := eq_true c39
              have c39b1 : decide (((t110 ++ t112) ++ a0_2).size + a0_3.size ≤ 9223372036854775807) = true := decide_eq_true c39
              try have c39b2 : (9223372036854775807 < ((t110 ++ t112) ++ a0_2).size + a0_3.size) = False := eq_false (Nat.not_lt.2 c39)
              by_cases c40 : (((t110 ++ t112) ++ a0_2) ++ a0_3).size + a0_4.size ≤ 9223372036854775807
              · rw [if_pos c40] at H
                have c40b0 := eq_true c40
                have c40b1 : decide ((((t110 ++ t112) ++ a0_2) ++ a0_3).size + a0_4.size ≤ 9223372036854775807) = true := decide_eq_true c40
                try have c40b2 : (9223372036854775807 < (((t110 ++ t112) ++ a0_2) ++ a0_3).size + a0_4.size) = False := eq_false (Nat.not_lt.2 c40)
                by_cases c41 : ((((t110 ++ t112) ++ a0_2) ++ a0_3) ++ a0_4).size + t114.size ≤ 9223372036854775807
                · rw [if_pos c41] at H
                  have c41b0 := eq_true c41
                  have c41b1 : decide (((((t110 ++ t112) ++ a0_2) ++ a0_3) ++ a0_4).size + t114.size ≤ 9223372036854775807) = true := decide_eq_true c41
                  try have c41b2 : (9223372036854775807 < ((((t110 ++ t112) ++ a0_2) ++ a0_3) ++ a0_4).size + t114.size) = False := eq_false (Nat.not_lt.2 c41)
                  simp only [Option.some.injEq, Prod.mk.injEq] at H
                  obtain ⟨rfl, rfl⟩ := H
                  have hcz42_0 := cl0 BK106.out
                  have hfz42_0 := blk_frozen BK106.out 0
                  go_wp2_with (first | ((with_reducible refine gate_callee (f := 43) rfl ?_); refine goesL_ (some 47) rfl rfl Try.func43 (by kernel_rfl) rfl #[.int .i64 a0_0, .int .i64 2] rfl gAr ?_; (with_reducible refine (octet_Put.calls kj1 a0_0 2 t110 t111 _ A34.out).mono ?_); rintro e w43 ⟨rfl, hb⟩; refine ⟨_, rfl, ?_⟩; have n0_ := Aside0.mk (blk_below (blk_below BK106.out bll) hb); have n1_ := Aside0.mk (below_step (bel) hb); clear BK106; clear HB; have BK106 := n0_; have HB := n1_; clear n0_ n1_; (try clear hb); have hcz44_1 := cl1 BK106.out; have hfz44_1 := blk_frozen BK106.out 1) | ((with_reducible refine gate_callee (f := 43) rfl ?_); refine goesL_ (some 53) rfl rfl Try.func43 (by kernel_rfl) rfl #[.int .i64 a0_1, .int .i64 2] rfl gAr ?_; (with_reducible refine (octet_Put.calls kj1 a0_1 2 t112 t113 _ A35.out).mono ?_); rintro e w45 ⟨rfl, hb⟩; refine ⟨_, rfl, ?_⟩; have n0_ := Aside0.mk (blk_below (blk_below BK106.out bll) hb); have n1_ := Aside0.mk (below_step (bel) hb); clear BK106; clear HB; have BK106 := n0_; have HB := n1_; clear n0_ n1_; (try clear hb); have hcz46_5 := cl5 BK106.out; have hfz46_5 := blk_frozen BK106.out 5) | ((with_reducible refine gate_callee (f := 43) rfl ?_); refine goesL_ (some 59) rfl rfl Try.func43 (by kernel_rfl) rfl #[.int .i64 a0_5, .int .i64 4] rfl gAr ?_; (with_reducible refine (octet_Put.calls kj1 a0_5 4 t114 t115 _ A36.out).mono ?_); rintro e w47 ⟨rfl, hb⟩; refine ⟨_, rfl, ?_⟩; have n0_ := Aside0.mk (blk_below (blk_below BK106.out bll) hb); have n1_ := Aside0.mk (below_step (bel) hb); clear BK106; clear HB; have BK106 := n0_; have HB := n1_; clear n0_ n1_; (try clear hb); have hcz48_2 := cl2 BK106.out; have hfz48_2 := blk_frozen BK106.out 2; have hcz49_3 := cl3 BK106.out; have hfz49_3 := blk_frozen BK106.out 3; have hcz50_4 := cl4 BK106.out; have hfz50_4 := blk_frozen BK106.out 4))
                  go_ret2
                  exact ⟨rtE, bel⟩
                · rw [if_neg c41] at H
                  exact absurd H (by simp)
              · rw [if_neg c40] at H
                exact absurd H (by simp)
            · rw [if_neg c39] at H
              exact absurd H (by simp)
          · rw [if_neg c38] at H
            exact absurd H (by simp)
        · rw [if_neg c37] at H
          exact absurd H (by simp)

end Go.Proofs.Ytjgnpggpgkkknaa.Pr
