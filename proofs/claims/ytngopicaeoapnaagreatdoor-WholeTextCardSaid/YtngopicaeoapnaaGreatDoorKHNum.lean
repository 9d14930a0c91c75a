import Derived.Test.YtngopicaeoapnaaGreatDoorKHLib
import Derived.BigGuard
set_option linter.unusedVariables false
set_option linter.unusedSimpArgs false
namespace Go.Proofs
open Go.RowKit Go.Sort Go.Lib
open Go.VI (ac4 dL3 ao8 al1 envW rng)
theorem Tryz.cut_w (s : ByteArray) (c : UInt8) (w : World) (hs : s.size ≤ 1000000) :
    Calls Tryz.prog 19 #[.string s, .string ⟨#[c]⟩] w fun e w' => e = .returned (.tuple #[.string ⟨(ac4 c s.data.toList).1.toArray⟩, .string ⟨(ac4 c s.data.toList).2.1.toArray⟩, .bool (ac4 c s.data.toList).2.2]) ∧ Below w.heap.size w w' := by
  go_enter Tryz.func19, Tryz.ntmps19
  go_wp2_with (go_at_call 43; refine (Tryz.slcut s c _ hs).mono ?_; rintro e w' ⟨rfl, hb⟩)
  go_ret3
  exact ⟨rfl, hb⟩
theorem cu7 {s : ByteArray} {w w' : World} (h : w' = w ∨ ∃ t, w' = Lib.bytesWorld w 5 t) : Below w.heap.size w w' := by
  rcases h with rfl | ⟨t, rfl⟩
  · exact Below.refl _ _
  · exact bytesWorld_below w 5 t
theorem aT2 {n : Int} : bn4 n = false ↔ rng n := by
  unfold bn4 rng
  rw [decide_eq_false_iff_not]; omega
set_option maxHeartbeats 4000000 in
set_option maxRecDepth 100000 in
theorem Tryz.number_w (s : ByteArray) (w : World) (hs : s.size ≤ 1000000) (henv : envW w) (hw : 4 ≤ w.heap.size) :
    Calls Tryz.prog 45 #[.string s] w fun e w' => e = .returned (.tuple #[.int .i64 (ao8 s.data.toList).1, .bool (ao8 s.data.toList).2]) ∧ Below w.heap.size w w' := by
  have bad : al1 s.data.toList = none → (ao8 s.data.toList) = (0, false) := fun h => by unfold ao8; rw [h]
  cases ha : Lib.atoiAll s.data.toList with
  | range =>
    rw [bad (by cases h : al1 s.data.toList with | none => rfl | some v => rw [Go.VI.atoi_num h] at ha; cases ha)]
    obtain ⟨_, _, ⟨tp, p, h2⟩⟩ := henv
    have hc := Tryz.strconv_Atoi_range s (by omega) ha _ w h2 (.inr ⟨_, _, rfl⟩)
    clear h2
    go_enter Tryz.func45, Tryz.ntmps45
    go_wp2_with (go_at_call 90; refine hc.mono ?_; rintro e w' ⟨N, rfl, hN, hc2, hb⟩)
    go_ret2
    exact ⟨rfl, hb⟩
  | ok v =>
    have hc := Tryz.strconv_Atoi_ok s (by omega) v ha w
    obtain ⟨b0, b1⟩ := Lib.atoiAll_bounds ha
    cases hf : bn4 v with
    | true =>
      rw [bad (by
        cases h : al1 s.data.toList with
        | none => rfl
        | some x =>
          rw [Go.VI.atoi_num h] at ha
          injection ha with ha
          have := (Go.VP.dec_numRd h).2
          rw [aT2.2 ⟨by omega, by omega⟩] at hf; cases hf)]
      go_enter Tryz.func45, Tryz.ntmps45
      go_wp2_with (first | (go_at_call 90; refine hc.mono ?_; rintro e w' ⟨rfl, hw'⟩) | (go_at_call 40; refine (Tryz.far_w v _).mono ?_; rintro e w' ⟨rfl, rfl⟩; rw [hf]))
      go_ret2
      exact ⟨rfl, cu7 (s := s) hw'⟩
    | false =>
      have hr := aT2.1 hf
      by_cases hi : Lib.itoa v = s.data.toList
      · have hn := Go.VI.num_atoi hr hi
        have hE : ao8 s.data.toList = (v, true) := by unfold ao8; rw [hn]; show (((v.toNat : Nat) : Int), true) = _; rw [Int.toNat_of_nonneg hr.1]
        rw [hE]
        have hs' : (⟨(Lib.itoa v).toArray⟩ : ByteArray) = s := by rw [hi]
        clear hn hE hi
        have HS := Lib.hid hs'
        go_enter Tryz.func45, Tryz.ntmps45
        go_wp2_with (first | (go_at_call 90; refine hc.mono ?_; rintro e w1 ⟨rfl, hw'⟩; have hb1 := Lib.hid (cu7 (s := s) hw'); clear hw' hc) | (go_at_call 40; refine (Tryz.far_w v _).mono ?_; rintro e w' ⟨rfl, rfl⟩; rw [hf]) | (go_at_call 39; refine (Tryz.itoa_w v b0 b1 _ (af9 henv hw hb1.out)).mono ?_; rintro e w' ⟨rfl, hb2⟩; rw [HS.out]))
        go_ret2
        exact ⟨rfl, hb1.out.trans (hb2.mono hb1.out.size)⟩
      · have hn : al1 s.data.toList = none := by
          cases h : al1 s.data.toList with
          | none => rfl
          | some x =>
            have h1 := Go.VP.dec_numRd h
            rw [Go.VI.atoi_num h] at ha
            injection ha with ha
            exfalso; apply hi
            rw [Go.VI.itoa_dec hr, ← h1.1, ← ha, Int.toNat_natCast]
        rw [bad hn]
        have hq : (Lib.itoa v == s.toList) = false := by rw [ByteArray.toList_eq]; simpa using hi
        clear hn hi
        go_enter Tryz.func45, Tryz.ntmps45
        go_wp2_with (first | (go_at_call 90; refine hc.mono ?_; rintro e w1 ⟨rfl, hw'⟩; have hb1 := Lib.hid (cu7 (s := s) hw'); clear hw' hc) | (go_at_call 40; refine (Tryz.far_w v _).mono ?_; rintro e w' ⟨rfl, rfl⟩; rw [hf]) | (go_at_call 39; refine (Tryz.itoa_w v b0 b1 _ (af9 henv hw hb1.out)).mono ?_; rintro e w' ⟨rfl, hb2⟩))
        go_ret2
        exact ⟨rfl, hb1.out.trans (hb2.mono hb1.out.size)⟩
  | _ =>
    rw [bad (by cases h : al1 s.data.toList with | none => rfl | some v => rw [Go.VI.atoi_num h] at ha; cases ha)]
    obtain ⟨_, ⟨tp, p, h2⟩, _⟩ := henv
    have hc := Tryz.strconv_Atoi_synt s (by omega) (by rw [ha]; exact fun q => by cases q) (fun v => by rw [ha]; exact fun q => by cases q) _ w h2 (.inr ⟨_, _, rfl⟩)
    clear h2
    go_enter Tryz.func45, Tryz.ntmps45
    go_wp2_with (go_at_call 90; refine hc.mono ?_; rintro e w' ⟨N, rfl, hN, hc2, hb⟩)
    go_ret2
    exact ⟨rfl, hb⟩
end Go.Proofs
namespace Go.VI
open Go Go.Proofs Go.RowKit
theorem de4 : OkE bb5 := by
  have key : ∀ (s t : List UInt8) (r : (List UInt8 × List UInt8 × Bool × Unit) × Unit), aL6 (s, t, ()) = some r → au8 Tryz.prog U 19 [.val false [.str s], .val false [.str t]] (co2.out r) := by
    intro s t r h
    match t, h with
    | [c], h =>
      unfold aL6 at h
      dsimp only at h
      by_cases hl : s.length ≤ 1000000
      · rw [if_pos hl] at h
        injection h with h
        subst h
        refine dO8 (aC7 Tryz.func19 (by kernel_rfl) (by kernel_rfl)) rfl (fun G0 w vs ha henv => ?_)
        obtain ⟨v, u, rfl, h1, h2⟩ := eJ6 ha
        rw [aq6 h1, aq6 h2]
        refine (Tryz.cut_w ⟨⟨s⟩⟩ c w hl).mono fun e w' ⟨he, hb⟩ => ?_
        have hc := Go.VP.cutC_len c s
        refine ⟨_, he, hb, fun _ _ => False, fun _ _ h => h.elim, ⟨_, rfl, rfl, fun j a cs hj => ?_⟩⟩
        match j, hj with
        | 0, hj => injection hj with hj; injection hj with h1 h2; subst h1; subst h2; exact ⟨_, rfl, _, rfl, PC.str _ (by show ((ac4 c s).1.length : Int) ≤ 9223372036854775807; omega)⟩
        | 1, hj => injection hj with hj; injection hj with h1 h2; subst h1; subst h2; exact ⟨_, rfl, _, rfl, PC.str _ (by show ((ac4 c s).2.1.length : Int) ≤ 9223372036854775807; omega)⟩
        | 2, hj => injection hj with hj; injection hj with h1 h2; subst h1; subst h2; exact ⟨_, rfl, _, rfl, PC.bool _⟩
        | j + 3, hj => cases hj
      · rw [if_neg hl] at h; cases h
    | [], h => cases h
    | _ :: _ :: _, h => cases h
  intro x r h
  exact key _ _ _ h
theorem de5 : OkE bb7 := by
  have key : ∀ (s : List UInt8) (r : (Int × Bool × Unit) × Unit), aL7 (s, ()) = some r → au8 Tryz.prog U 45 [.val false [.str s]] (co3.out r) := by
    intro s r h
    unfold aL7 at h
    dsimp only at h
    by_cases hl : s.length ≤ 1000000
    · rw [if_pos hl] at h
      injection h with h
      subst h
      refine dO8 (aC7 Tryz.func45 (by kernel_rfl) (by kernel_rfl)) rfl (fun G0 w vs ha henv => ?_)
      obtain ⟨v, rfl, h1⟩ := eJ5 ha
      rw [aq6 h1]
      refine (Tryz.number_w ⟨⟨s⟩⟩ w hl henv.env henv.size).mono fun e w' ⟨he, hb⟩ => ?_
      have hr := Go.VP.numE_rng s
      refine ⟨_, he, hb, fun _ _ => False, fun _ _ h => h.elim, ⟨_, rfl, rfl, fun j a cs hj => ?_⟩⟩
      match j, hj with
      | 0, hj => injection hj with hj; injection hj with h1 h2; subst h1; subst h2; exact ⟨_, rfl, _, rfl, PC.int _ _ (cM9 (show -9223372036854775808 ≤ (ao8 s).1 ∧ (ao8 s).1 ≤ 9223372036854775807 by have := hr.1; have := hr.2; exact ⟨by omega, by omega⟩))⟩
      | 1, hj => injection hj with hj; injection hj with h1 h2; subst h1; subst h2; exact ⟨_, rfl, _, rfl, PC.bool _⟩
      | j + 2, hj => cases hj
    · rw [if_neg hl] at h; cases h
  intro x r h
  exact key _ _ h
end Go.VI
