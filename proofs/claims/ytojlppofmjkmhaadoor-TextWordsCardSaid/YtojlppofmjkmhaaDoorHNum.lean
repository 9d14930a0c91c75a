/- text.number; strings.Cut and number for the evaluator. -/
import Derived.Test.YtojlppofmjkmhaaDoorHLib
import Derived.BigGuard
set_option linter.unusedVariables false
set_option linter.unusedSimpArgs false
namespace Go.Proofs
open Go.RowKit Go.Sort Go.Lib
open Go.VI (cutC cut_c numE numRd envW rng)
theorem Tryd.cut_w (s : ByteArray) (c : UInt8) (w : World) (hs : s.size ≤ 1000000) :
    Calls Tryd.prog 28 #[.string s, .string ⟨#[c]⟩] w fun e w' => e = .returned (.tuple #[.string ⟨(cutC c s.data.toList).1.toArray⟩, .string ⟨(cutC c s.data.toList).2.1.toArray⟩, .bool (cutC c s.data.toList).2.2]) ∧ Below w.heap.size w w' := by
  go_enter Tryd.func28, Tryd.ntmps28
  go_wp2_with (go_at_call 46; refine (Tryd.slcut s c _ hs).mono ?_; rintro e w' ⟨rfl, hb⟩)
  go_ret3
  exact ⟨rfl, hb⟩
theorem atoi_below {s : ByteArray} {w w' : World} (h : w' = w ∨ ∃ t, w' = Lib.bytesWorld w 5 t) : Below w.heap.size w w' := by
  rcases h with rfl | ⟨t, rfl⟩
  · exact Below.refl _ _
  · exact bytesWorld_below w 5 t
theorem farB_rng {n : Int} : farB n = false ↔ rng n := by
  unfold farB rng
  rw [decide_eq_false_iff_not]; omega
set_option maxHeartbeats 4000000 in
set_option maxRecDepth 100000 in
theorem Tryd.number_w (s : ByteArray) (w : World) (hs : s.size ≤ 1000000) (henv : envW w) (hw : 4 ≤ w.heap.size) :
    Calls Tryd.prog 48 #[.string s] w fun e w' => e = .returned (.tuple #[.int .i64 (numE s.data.toList).1, .bool (numE s.data.toList).2]) ∧ Below w.heap.size w w' := by
  have bad : numRd s.data.toList = none → (numE s.data.toList) = (0, false) := fun h => by unfold numE; rw [h]
  cases ha : Lib.atoiAll s.data.toList with
  | range =>
    rw [bad (by cases h : numRd s.data.toList with | none => rfl | some v => rw [Go.VI.atoi_num h] at ha; cases ha)]
    obtain ⟨_, _, ⟨tp, p, h2⟩⟩ := henv
    have hc := Tryd.strconv_Atoi_range s (by omega) ha _ w h2 (.inr ⟨_, _, rfl⟩)
    clear h2
    go_enter Tryd.func48, Tryd.ntmps48
    go_wp2_with (go_at_call 61; refine hc.mono ?_; rintro e w' ⟨N, rfl, hN, hc2, hb⟩)
    go_ret2
    exact ⟨rfl, hb⟩
  | ok v =>
    have hc := Tryd.strconv_Atoi_ok s (by omega) v ha w
    obtain ⟨b0, b1⟩ := Lib.atoiAll_bounds ha
    cases hf : farB v with
    | true =>
      rw [bad (by
        cases h : numRd s.data.toList with
        | none => rfl
        | some x =>
          rw [Go.VI.atoi_num h] at ha
          injection ha with ha
          have := (Go.VP.dec_numRd h).2
          rw [farB_rng.2 ⟨by omega, by omega⟩] at hf; cases hf)]
      go_enter Tryd.func48, Tryd.ntmps48
      go_wp2_with (first | (go_at_call 61; refine hc.mono ?_; rintro e w' ⟨rfl, hw'⟩) | (go_at_call 39; refine (Tryd.far_w v _).mono ?_; rintro e w' ⟨rfl, rfl⟩; rw [hf]))
      go_ret2
      exact ⟨rfl, atoi_below (s := s) hw'⟩
    | false =>
      have hr := farB_rng.1 hf
      by_cases hi : Lib.itoa v = s.data.toList
      · have hn := Go.VI.num_atoi hr hi
        have hE : numE s.data.toList = (v, true) := by unfold numE; rw [hn]; show (((v.toNat : Nat) : Int), true) = _; rw [Int.toNat_of_nonneg hr.1]
        rw [hE]
        have hs' : (⟨(Lib.itoa v).toArray⟩ : ByteArray) = s := by rw [hi]
        clear hn hE hi
        have HS := Lib.hid hs'
        go_enter Tryd.func48, Tryd.ntmps48
        go_wp2_with (first | (go_at_call 61; refine hc.mono ?_; rintro e w1 ⟨rfl, hw'⟩; have hb1 := Lib.hid (atoi_below (s := s) hw'); clear hw' hc) | (go_at_call 39; refine (Tryd.far_w v _).mono ?_; rintro e w' ⟨rfl, rfl⟩; rw [hf]) | (go_at_call 38; refine (Tryd.itoa_w v b0 b1 _ (env_below henv hw hb1.out)).mono ?_; rintro e w' ⟨rfl, hb2⟩; rw [HS.out]))
        go_ret2
        exact ⟨rfl, hb1.out.trans (hb2.mono hb1.out.size)⟩
      · have hn : numRd s.data.toList = none := by
          cases h : numRd s.data.toList with
          | none => rfl
          | some x =>
            have h1 := Go.VP.dec_numRd h
            rw [Go.VI.atoi_num h] at ha
            injection ha with ha
            exfalso; apply hi
            rw [Go.VI.itoa_dec hr, ← h1.1, ← ha, Int.toNat_natCast]
        rw [bad hn]
        have hq : (Lib.itoa v == s.toList) = false := by rw [ByteArray.toList_eq]; simpa using hi
        clear hn hi
        go_enter Tryd.func48, Tryd.ntmps48
        go_wp2_with (first | (go_at_call 61; refine hc.mono ?_; rintro e w1 ⟨rfl, hw'⟩; have hb1 := Lib.hid (atoi_below (s := s) hw'); clear hw' hc) | (go_at_call 39; refine (Tryd.far_w v _).mono ?_; rintro e w' ⟨rfl, rfl⟩; rw [hf]) | (go_at_call 38; refine (Tryd.itoa_w v b0 b1 _ (env_below henv hw hb1.out)).mono ?_; rintro e w' ⟨rfl, hb2⟩))
        go_ret2
        exact ⟨rfl, hb1.out.trans (hb2.mono hb1.out.size)⟩
  | _ =>
    rw [bad (by cases h : numRd s.data.toList with | none => rfl | some v => rw [Go.VI.atoi_num h] at ha; cases ha)]
    obtain ⟨_, ⟨tp, p, h2⟩, _⟩ := henv
    have hc := Tryd.strconv_Atoi_synt s (by omega) (by rw [ha]; exact fun q => by cases q) (fun v => by rw [ha]; exact fun q => by cases q) _ w h2 (.inr ⟨_, _, rfl⟩)
    clear h2
    go_enter Tryd.func48, Tryd.ntmps48
    go_wp2_with (go_at_call 61; refine hc.mono ?_; rintro e w' ⟨N, rfl, hN, hc2, hb⟩)
    go_ret2
    exact ⟨rfl, hb⟩
end Go.Proofs
namespace Go.VI
open Go Go.Proofs Go.RowKit
theorem x_strings_Cut_ok : OkE e_strings_Cut := by
  have key : ∀ (s t : List UInt8) (r : (List UInt8 × List UInt8 × Bool × Unit) × Unit), x_strings_Cut (s, t, ()) = some r → CallOk Tryd.prog U 28 [.val false [.str s], .val false [.str t]] (sg_strings_Cut.out r) := by
    intro s t r h
    match t, h with
    | [c], h =>
      unfold x_strings_Cut at h
      dsimp only at h
      by_cases hl : s.length ≤ 1000000
      · rw [if_pos hl] at h
        injection h with h
        subst h
        refine ext_ok (callable Tryd.func28 (by kernel_rfl) (by kernel_rfl)) rfl (fun G0 w vs ha henv => ?_)
        obtain ⟨v, u, rfl, h1, h2⟩ := args2 ha
        rw [pc_str h1, pc_str h2]
        refine (Tryd.cut_w ⟨⟨s⟩⟩ c w hl).mono fun e w' ⟨he, hb⟩ => ?_
        have hc := Go.VP.cutC_len c s
        refine ⟨_, he, hb, fun _ _ => False, fun _ _ h => h.elim, ⟨_, rfl, rfl, fun j a cs hj => ?_⟩⟩
        match j, hj with
        | 0, hj => injection hj with hj; injection hj with h1 h2; subst h1; subst h2; exact ⟨_, rfl, _, rfl, PC.str _ (by show ((cutC c s).1.length : Int) ≤ 9223372036854775807; omega)⟩
        | 1, hj => injection hj with hj; injection hj with h1 h2; subst h1; subst h2; exact ⟨_, rfl, _, rfl, PC.str _ (by show ((cutC c s).2.1.length : Int) ≤ 9223372036854775807; omega)⟩
        | 2, hj => injection hj with hj; injection hj with h1 h2; subst h1; subst h2; exact ⟨_, rfl, _, rfl, PC.bool _⟩
        | j + 3, hj => cases hj
      · rw [if_neg hl] at h; cases h
    | [], h => cases h
    | _ :: _ :: _, h => cases h
  intro x r h
  exact key _ _ _ h
theorem x_text_number_ok : OkE e_text_number := by
  have key : ∀ (s : List UInt8) (r : (Int × Bool × Unit) × Unit), x_text_number (s, ()) = some r → CallOk Tryd.prog U 48 [.val false [.str s]] (sg_text_number.out r) := by
    intro s r h
    unfold x_text_number at h
    dsimp only at h
    by_cases hl : s.length ≤ 1000000
    · rw [if_pos hl] at h
      injection h with h
      subst h
      refine ext_ok (callable Tryd.func48 (by kernel_rfl) (by kernel_rfl)) rfl (fun G0 w vs ha henv => ?_)
      obtain ⟨v, rfl, h1⟩ := args1 ha
      rw [pc_str h1]
      refine (Tryd.number_w ⟨⟨s⟩⟩ w hl henv.env henv.size).mono fun e w' ⟨he, hb⟩ => ?_
      have hr := Go.VP.numE_rng s
      refine ⟨_, he, hb, fun _ _ => False, fun _ _ h => h.elim, ⟨_, rfl, rfl, fun j a cs hj => ?_⟩⟩
      match j, hj with
      | 0, hj => injection hj with hj; injection hj with h1 h2; subst h1; subst h2; exact ⟨_, rfl, _, rfl, PC.int _ _ (has64x (show -9223372036854775808 ≤ (numE s).1 ∧ (numE s).1 ≤ 9223372036854775807 by have := hr.1; have := hr.2; exact ⟨by omega, by omega⟩))⟩
      | 1, hj => injection hj with hj; injection hj with h1 h2; subst h1; subst h2; exact ⟨_, rfl, _, rfl, PC.bool _⟩
      | j + 2, hj => cases hj
    · rw [if_neg hl] at h; cases h
  intro x r h
  exact key _ _ h
end Go.VI
