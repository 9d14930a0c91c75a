/- Padding, put ahead of any TLV, and whole TLVs in the trailer, change no message: for all arguments. -/
import Derived.Test.YtabekdfijifnfaaFQ12
import Derived.Test.YtabekdfijifnfaaPBase
import Derived.Test.YtabekdfijifnfaaPCur
import Derived.Test.YtabekdfijifnfaaPOct
import Derived.Test.YtabekdfijifnfaaPTlv
import Derived.Test.YtabekdfijifnfaaPSub
import Derived.Test.YtabekdfijifnfaaPMsg
import Derived.Test.YtabekdfijifnfaaPAll
import Derived.Test.YtabekdfijifnfaaPBody
import Derived.Test.YtabekdfijifnfaaPOk
import Derived.Test.YtabekdfijifnfaaPAddr
import Derived.Test.YtabekdfijifnfaaPBits
import Derived.Test.YtabekdfijifnfaaPField
import Derived.Test.YtabekdfijifnfaaPFieldG
import Derived.Test.YtabekdfijifnfaaPFieldB
import Derived.Test.YtabekdfijifnfaaPRoute
import Derived.Test.YtabekdfijifnfaaPRouteG
import Derived.Test.YtabekdfijifnfaaPTake
import Derived.Test.YtabekdfijifnfaaPRouteB
import Derived.Test.YtabekdfijifnfaaPCtx
import Derived.Test.YtabekdfijifnfaaPCtxU
import Derived.Test.YtabekdfijifnfaaPCtxV
import Derived.Test.YtabekdfijifnfaaPCtxW
import Derived.Test.YtabekdfijifnfaaPCtxX
import Derived.Test.YtabekdfijifnfaaPIntake
import Derived.Test.YtabekdfijifnfaaPFold
import Derived.Test.YtabekdfijifnfaaPParts
import Derived.Test.YtabekdfijifnfaaPUpd
import Derived.Test.YtabekdfijifnfaaPLeanR
import Derived.Test.YtabekdfijifnfaaPIntakeL
import Derived.Test.YtabekdfijifnfaaPWrap
import Derived.Test.YtabekdfijifnfaaFGood
set_option linter.unusedVariables false
set_option linter.unusedSimpArgs false
set_option maxRecDepth 100000
namespace Go.VP
open Go Go.VI
theorem pad_cases (y : UInt8) : ∃ v : Bs, ([([] : Bs), [0], [1, 0], [1, 2, 0, 0], [0, 0]])[((y.toNat : Int).tmod 5).toNat]? = some v ∧ v.length ≤ 4 ∧ ∀ p, ∃ l, spl p v = .ok l ∧ sigT l = [] := by
  have h : (y.toNat : Int).tmod 5 = ((y.toNat % 5 : Nat) : Int) := by rw [Int.tmod_eq_emod_of_nonneg (by omega)]; omega
  rw [h, Int.toNat_natCast]
  have hc : y.toNat % 5 = 0 ∨ y.toNat % 5 = 1 ∨ y.toNat % 5 = 2 ∨ y.toNat % 5 = 3 ∨ y.toNat % 5 = 4 := by omega
  rcases hc with e | e | e | e | e <;> rw [e]
  · exact ⟨[], rfl, by simp, fun p => ⟨[], spl_nil p, rfl⟩⟩
  · exact ⟨[0], rfl, by simp, fun p => ⟨[⟨0, p, []⟩], by rw [spl_zero, spl_nil]; rfl, rfl⟩⟩
  · exact ⟨[1, 0], rfl, by simp, fun p => ⟨[⟨1, p, []⟩], by rw [spl_all (by decide) (by decide), show List.drop (0 : UInt8).toNat ([] : Bs) = [] from rfl, spl_nil]; rfl, rfl⟩⟩
  · exact ⟨[1, 2, 0, 0], rfl, by simp, fun p => ⟨[⟨1, p, [0, 0]⟩], by rw [spl_all (by decide) (by decide), show List.drop (2 : UInt8).toNat ([0, 0] : Bs) = [] from rfl, spl_nil]; rfl, rfl⟩⟩
  · exact ⟨[0, 0], rfl, by simp, fun p => ⟨[⟨0, p, []⟩, ⟨0, p + 1, []⟩], by rw [spl_zero, spl_zero, spl_nil]; rfl, rfl⟩⟩
theorem sigT_one {a b : Tlv} (h : a.type_ = b.type_) (h2 : a.data = b.data) : sigT [a] = sigT [b] := by
  by_cases h1 : a.type_ = 0 ∨ a.type_ = 1
  · rw [sigT_pad h1, sigT_pad (by rw [← h]; exact h1)]
  · rw [sigT_real h1, sigT_real (by rw [← h]; exact h1), h, h2]
theorem spl_join {x y : Bs} {lx : List Tlv} {S : List (Int × Bs)} (h : spl 4 x = .ok lx) (hy : ∀ p, ∃ l, spl p y = .ok l ∧ sigT l = S) : ∃ l, spl 4 (x ++ y) = .ok l ∧ sigT l = sigT lx ++ S := by
  obtain ⟨l, h1, h2⟩ := hy (4 + x.length)
  exact ⟨lx ++ l, by rw [spl_append x 4 lx h, h1]; rfl, by rw [sigT_app, h2]⟩
theorem pads_go {pads behind : Bs} {t : List Tlv} {M : List Msg} {a1 a2 b1 b2 : Int} (hM : M = (foldR c0 t []).1) (h0 : (foldR c0 t []).2.2.2 = 0) (hq : ∀ x ∈ t, Tg x) (hs : ∀ m ∈ M, Small m) (hML : M.length ≤ 100000)
    (hpl : pads.length ≤ 60) (hbl : behind.length ≤ 200) (hbe : ∃ k, spl 0 behind = .ok k) (htl : elen t ≤ 2000) (hlt : t.length ≤ 2000) {n : Nat} :
    ∀ (d m i : Nat) (x : Bs) (lu : List Tlv), i + d = t.length + 1 → d < m → spl 4 x = .ok lu → sigT lu = sigT (t.take i) → x.length ≤ elen (t.take i) + 4 * min i 60 →
    L_law23_IntakePads_0 n m pads behind ((M, a1, a2, ()), ()) ((t, b1, b2, ()), ()) x i = some ((true, ()), ()) := by
  intro d
  induction d with
  | zero =>
    intro m i x lu hd hm hx hsig hlen
    obtain ⟨m, rfl⟩ : ∃ k, m = k + 1 := ⟨m - 1, by omega⟩
    rw [List.take_of_length_le (by omega)] at hsig hlen
    have hxl : x.length ≤ 3000 := by omega
    obtain ⟨w1, w2, w3, w4⟩ := body_wrap (s := x) (t := behind) (by omega) (by omega)
    obtain ⟨kb, hkb⟩ := hbe
    obtain ⟨_, kb', hkb', _⟩ := spl_more behind 0 (4 + (x.length : Int)) kb hkb
    obtain ⟨s1, s2, s3⟩ := foldR_sig (b := lu) hsig.symm h0
    have hp : parseI ((wrapF x).1 ++ behind) = (M, 0, 0) := by
      unfold parseI
      rw [w1, w2, if_neg (by simp)]
      dsimp only
      rw [hx]
      dsimp only
      rw [hkb']
      dsimp only
      rw [foldR_fine _ _ _ s1, s1, s2, hM]
    rw [L_law23_IntakePads_0_eq]
    dsimp only
    rw [ifn (by omega), rwrap_is (by omega), Option.bind_some]
    dsimp only
    rw [if_pos (maxB_of (by omega)), iparse_is, Option.bind_some, awb23, hp]
    dsimp only [trip]
    rw [ift, if_pos (show ((0 : Int) == 0) = true from rfl), sameA_is (by omega) hs]; rfl
  | succ d ih =>
    intro m i x lu hd hm hx hsig hlen
    obtain ⟨m, rfl⟩ : ∃ k, m = k + 1 := ⟨m - 1, by omega⟩
    have hp : 0 ≤ (i : Int) := by omega
    have ih' := fun x lu => ih m (i + 1) x lu (by omega) (by omega)
    rw [show ((i + 1 : Nat) : Int) = (i : Int) + 1 by omega] at ih'
    have hel : elen (t.take i) ≤ 2000 := by
      have := elen_app (t.take i) (t.drop i); rw [List.take_append_drop] at this; omega
    have hxl : x.length ≤ 3000 := by omega
    -- what comes behind the padding
    have tail : ∀ (z : Bs) (lz : List Tlv), spl 4 z = .ok lz → sigT lz = sigT (t.take i) → z.length ≤ elen (t.take i) + 4 * min (i + 1) 60 → z.length ≤ 4000 → ∀ (A : Option ((Bool × Unit) × Unit)),
        A = (if decide ((i : Int) < (t.length : Int)) = true then (if 0 ≤ (i : Int) then (t[(i : Int).toNat]?.bind fun (y14 : S_api_Tlv) => (if decide (0 < y14.type_) = true then (if 0 ≤ (i : Int) then (t[(i : Int).toNat]?.bind fun (y15 : S_api_Tlv) => (if 0 ≤ (i : Int) then (t[(i : Int).toNat]?.bind fun (y16 : S_api_Tlv) => ((g_ref18_Put (y15.type_, y16.data, ())).bind fun r17 => (if maxB (z.length + r17.1.1.length) = true then (L_law23_IntakePads_0 n m pads behind ((M, a1, a2, ()), ()) ((t, b1, b2, ()), ()) (z ++ r17.1.1) (IntKind.wrap .i64 ((i : Int) + 1))) else none))) else none)) else none) else (L_law23_IntakePads_0 n m pads behind ((M, a1, a2, ()), ()) ((t, b1, b2, ()), ()) z (IntKind.wrap .i64 ((i : Int) + 1))))) else none) else (L_law23_IntakePads_0 n m pads behind ((M, a1, a2, ()), ()) ((t, b1, b2, ()), ()) z (IntKind.wrap .i64 ((i : Int) + 1)))) →
        A = some ((true, ()), ()) := by
      intro z lz hz hsz hlz hz4 A hA
      rw [hA, w64 (by omega) (by omega)]
      by_cases hi : i < t.length
      · have et : elen (t.take (i + 1)) = elen (t.take i) + (if t[i].type_ = 0 then 1 else 2 + t[i].data.length) := by
          rw [List.take_succ_eq_append_getElem hi, elen_app]; simp [elen]
        have hT := hq _ (List.getElem_mem hi)
        rw [ifd (by omega)]
        simp only [if_pos hp, Int.toNat_natCast, List.getElem?_eq_getElem hi, Option.bind_some]
        by_cases ht : 0 < t[i].type_
        · have hpt : tput t[i].type_ t[i].data = (u8of t[i].type_ :: u8of t[i].data.length :: t[i].data, true) := by
            unfold tput; rw [if_pos ⟨by omega, hT.1.2, hT.2⟩]
          have hlp : (u8of t[i].type_ :: u8of t[i].data.length :: t[i].data).length = 2 + t[i].data.length := by simp; omega
          rw [ifd ht, rtput_is, Option.bind_some, hpt]
          dsimp only
          rw [if_pos (maxB_of (by rw [hlp]; have := hT.2; omega))]
          obtain ⟨l2, k1, k2⟩ := spl_join (S := sigT [⟨t[i].type_, 0, t[i].data⟩]) hz (y := u8of t[i].type_ :: u8of t[i].data.length :: t[i].data) (fun p => ⟨_, spl_tput ⟨by omega, hT.1.2⟩ hT.2, sigT_one rfl rfl⟩)
          refine ih' _ l2 k1 ?_ ?_
          · rw [k2, hsz, List.take_succ_eq_append_getElem hi, sigT_app]
            congr 1
            exact sigT_one rfl rfl
          · rw [List.length_append, hlp, et, if_neg (by omega)]; omega
        · rw [ifn ht]
          refine ih' z lz hz ?_ ?_
          · rw [hsz, List.take_succ_eq_append_getElem hi, sigT_app, sigT_pad (r := []) (.inl (by have := hT.1.1; omega))]
            exact (List.append_nil _).symm
          · rw [et]; split <;> omega
      · rw [ifn (by omega)]
        refine ih' z lz hz ?_ ?_
        · rw [hsz, List.take_of_length_le (by omega), List.take_of_length_le (by omega)]
        · rw [List.take_of_length_le (l := t) (i := i + 1) (by omega)]
          rw [List.take_of_length_le (by omega)] at hlz
          exact hlz
    rw [L_law23_IntakePads_0_eq]
    dsimp only
    rw [ifd (by omega)]
    by_cases hip : i < pads.length
    · rw [ifd (by omega), if_pos hp, Int.toNat_natCast, bind_at hip]
      obtain ⟨v, v1, v2, v3⟩ := pad_cases pads[i]
      have hge : 0 ≤ ((pads[i].toNat : Int).tmod 5) := by rw [Int.tmod_eq_emod_of_nonneg (by omega)]; omega
      rw [if_pos hge, v1, Option.bind_some, if_pos (maxB_of (by omega))]
      obtain ⟨l2, k1, k2⟩ := spl_join hx v3
      exact tail (x ++ v) l2 k1 (by rw [k2, hsig, List.append_nil]) (by rw [List.length_append]; omega) (by rw [List.length_append]; omega) _ rfl
    · rw [ifn (by omega)]
      exact tail x lu hx hsig (by omega) (by omega) _ rfl
theorem intakePads_pure (x0 : List UInt8) (g0 : Good_string x0) (x1 : List UInt8) (g1 : Good_list_uint8 x1) (x2 : List UInt8) (g2 : Good_string x2) : g_law23_IntakePads (x0, x1, x2, ()) = some ((true, ()), ()) := by
  show h_law23_IntakePads fuel (x0, x1, x2, ()) = _
  rw [h_law23_IntakePads_eq]
  refine dq_body (fun h => awb23 _) (fun h => ?_)
  refine dq_body (fun h => awb23 _) (fun h2 => ?_)
  refine dq_body (fun h => awb23 _) (fun h3 => ?_)
  have hbl : (bodyF x0).1.length ≤ 2000 := by
    by_cases hb : (bodyF x0).2.2 = 0
    · have := bodyF_ok hb; omega
    · rw [(bodyF_bad hb).1]; simp
  rw [iparse_is, Option.bind_some, rbody_is, Option.bind_some]
  dsimp only [trip]
  rw [rsplit_is (by omega) (by omega), Option.bind_some, rsplit_is (by omega) (by omega), Option.bind_some]
  have hpc := parseI_cases x0
  have hsm := parseI_small x0
  have hr := parseI_right x0
  have he0 : ∀ {x : Int}, x ≠ 0 → (x != 0) = true := fun h => by simpa using h
  -- what the guards say of it
  have out : ∀ E : Int, E = (parseI x0).2.2 → (E ≠ 0 ∨ ((bodyF x0).2.2 = 0 ∧ (splOut [] (spl 4 (bodyF x0).1)).2.2 = 0)) → ((g_law23_awake ()).bind fun r8 => (if r8.1.1 = true then (if (E != 0) = true then (some ((true, ()), ()) : Option ((Bool × Unit) × Unit)) else (if ((bodyF x0).2.2 == 0) = true then some ((((splOut [] (spl 4 (bodyF x0).1)).2.2 == 0), ()), ()) else some ((false, ()), ()))) else some ((false, ()), ()))) = some ((true, ()), ()) := by
    intro E hE h
    rw [awb23]
    dsimp only
    rw [ift]
    refine ne_step (fun _ => rfl) (fun e => ?_)
    rcases h with h | ⟨h1, h2⟩
    · exact absurd e h
    · rw [h1, h2]; rfl
  rcases hpc with ⟨e1, e2⟩ | ⟨l, e1, e2, ⟨k, e3⟩, e4, e5⟩
  · refine ne_step (fun q => out _ rfl (.inl e1)) (fun q1 => ?_)
    refine ne_step (fun q => out _ rfl (.inl e1)) (fun q2 => ?_)
    refine ne_step (fun q => out _ rfl (.inl e1)) (fun q3 => ?_)
    exact ne_step (fun q => out _ rfl (.inl e1)) (fun q => absurd q e1)
  · rw [e2] at out ⊢
    refine ne_step (fun q => absurd e1 q) (fun q1 => ?_)
    refine ne_step (fun q => absurd rfl q) (fun q2 => ?_)
    refine ne_step (fun q => out _ rfl (.inr ⟨e1, rfl⟩)) (fun q3 => ?_)
    rw [e5] at hsm hr ⊢
    refine ne_step (fun q => absurd rfl q) (fun q4 => ?_)
    have hb0 := spl_more _ 4 4 l e2
    have hr2 : (foldR c0 l []).1.length ≤ 65535 := hr.2
    have hlk := (spl_ok _ _ _ e2).2
    have hbe : ∃ k, spl 0 x2 = .ok k := by
      cases hh : spl 0 x2 with
      | ok k => exact ⟨k, rfl⟩
      | error q => rw [hh] at q3; cases q3
    have := pads_go (pads := x1) (behind := x2) (t := l) (M := (foldR c0 l []).1) (a1 := 0) (a2 := 0) (b1 := 0) (b2 := 0) rfl e4 (spl_tg _ _ _ e2) hsm (by omega) (by omega) (by omega) hbe (by omega) (by omega) (n := fuel) (l.length + 1) fuel 0 [] [] (by omega) (fuel_ge (by omega)) (spl_nil 4) rfl (by simp)
    exact this
end Go.VP
