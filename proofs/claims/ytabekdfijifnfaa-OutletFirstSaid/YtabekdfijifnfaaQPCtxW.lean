/- What a parser of Babel knows: the reference's Update, and the step of both. -/
import Derived.Test.YtabekdfijifnfaaQFH
import Derived.Test.YtabekdfijifnfaaQFQ5
import Derived.Test.YtabekdfijifnfaaQFQ6
import Derived.Test.YtabekdfijifnfaaQPBase
import Derived.Test.YtabekdfijifnfaaQPCur
import Derived.Test.YtabekdfijifnfaaQPOct
import Derived.Test.YtabekdfijifnfaaQPTlv
import Derived.Test.YtabekdfijifnfaaQPSub
import Derived.Test.YtabekdfijifnfaaQPMsg
import Derived.Test.YtabekdfijifnfaaQPAddr
import Derived.Test.YtabekdfijifnfaaQPBits
import Derived.Test.YtabekdfijifnfaaQPField
import Derived.Test.YtabekdfijifnfaaQPFieldG
import Derived.Test.YtabekdfijifnfaaQPRoute
import Derived.Test.YtabekdfijifnfaaQPRouteG
import Derived.Test.YtabekdfijifnfaaQPTake
import Derived.Test.YtabekdfijifnfaaQPRouteB
import Derived.Test.YtabekdfijifnfaaQPCtx
import Derived.Test.YtabekdfijifnfaaQPCtxU
import Derived.Test.YtabekdfijifnfaaQPCtxV
set_option linter.unusedVariables false
set_option linter.unusedSimpArgs false
set_option maxRecDepth 100000
namespace Go.VP
open Go Go.VI
theorem rtold_tail {c : Ctx} {r : Raw} {a : Bs} (hr : RawOk r) : ((g_ref22_told (c, r, a, ())).bind fun r4 => (if (!r4.1.2.1) = true then (some ((c, [], 0, ()), ()) : Option ((Ctx × List Msg × Int × Unit) × Unit)) else some ((c, [r4.1.1], 0, ()), ()))) = some ((c, (if toldB c r = true then [updM c r a] else []), 0, ()), ()) := by
  have hae := hr.ae
  have hh := hr.have_
  rw [g_ref22_told_eq]
  unfold toldB updM
  by_cases h0 : r.have_ = 0
  · rw [if_pos (by simp [h0]), Option.bind_some]
    dsimp only
    rw [ifnf, if_neg (by simp [h0])]
  have h1 : r.have_ = 1 := by omega
  rw [if_neg (by simp [h0])]
  by_cases hm : r.metric = 65535
  · rw [if_pos (by simp [hm]), Option.bind_some]
    dsimp only
    rw [ifnt, if_pos (by simp [h1, hm]), if_pos hm, if_pos hm]
  rw [if_neg (by simp [hm])]
  by_cases ha : r.ae = 0
  · rw [if_pos (by simp [ha]), Option.bind_some]
    dsimp only
    rw [ifnf, if_neg (by simp [hm, ha])]
  rw [if_neg (by simp [ha])]
  by_cases hi : c.id = []
  · rw [if_pos (by simp [hi]), Option.bind_some]
    dsimp only
    rw [ifnf, if_neg (by simp [hm, hi])]
  rw [if_neg (by simpa using hi), rcfam_is, Option.bind_some]
  dsimp only
  have hpos : 0 < r.ae := by omega
  rw [if_pos (famE_rng (ae := r.ae) (by omega)), Option.bind_some]
  dsimp only
  have hb : (decide (r.have_ = 1) && (decide (r.metric = 65535) || decide (0 < r.ae) && !(c.id == []))) = true := by simp [h1, hpos, hi]
  rw [ifnt, hb, ift, if_neg hm, if_neg hm]
theorem updF_eq {c : Ctx} {d : Bs} (h : (takeG d).2.1 = true) (h2 : (addrF c (takeG d).1).2 = true) : updF c d = (flagsF c (takeG d).1 (addrF c (takeG d).1).1, (if toldB (flagsF c (takeG d).1 (addrF c (takeG d).1).1) (takeG d).1 = true then [updM (flagsF c (takeG d).1 (addrF c (takeG d).1).1) (takeG d).1 (addrF c (takeG d).1).1] else []), 0) := by
  unfold updF
  rw [if_pos h, if_pos h2]
  split <;> rfl
theorem rupdate_is {c : Ctx} {ty at_ : Int} {d : Bs} (hc : okC c) (hd : d.length ≤ 1000) : g_ref22_update (c, ⟨ty, at_, d⟩, ()) = some (((updF c d).1, (updF c d).2.1, (updF c d).2.2, ()), ()) := by
  rw [g_ref22_update_eq, rtake_is hd, Option.bind_some]
  dsimp only [trip]
  cases h : (takeG d).2.1 with
  | false =>
    have : updF c d = (c, [], (takeG d).2.2) := by unfold updF; rw [if_neg (by rw [h]; simp)]
    rw [ifnf, ite_self, this]
  | true =>
    obtain ⟨hr, h0⟩ := takeG_raw h
    refine ne_step (fun e => absurd h0 e) (fun _ => ?_)
    rw [ifnt]
    have hu := @updF_eq c d h
    have hn : (addrF c (takeG d).1).2 = false → updF c d = (c, [], 9) := fun e => by unfold updF; rw [if_pos h, if_neg (by rw [e]; simp)]
    have hal := @addrF_len c (takeG d).1 hc hr
    generalize updF c d = V at *
    generalize (takeG d).1 = r at *
    have hae := hr.ae; have hl := hr.len; have ho := hr.om; have hp := hr.plen
    have hsz : (r.ae ≠ 0 → 4 ≤ szA r.ae) ∧ szA r.ae ≤ 16 := by unfold szA; refine ⟨fun h => ?_, ?_⟩ <;> (split <;> (try split) <;> (try split) <;> omega)
    have hbs := baseA_rng r.ae
    have hpre : (if r.ae = 0 then c.prefix_c0 else (if r.ae = 1 then c.prefix_c1 else (if r.ae = 2 then c.prefix_c2 else c.prefix_c3))) = preC c r.ae := rfl
    rw [hpre]
    by_cases hom : r.omitted = 0
    · have e : addrF c r = (wholeF r.ae r.bytes r.plen, true) := by unfold addrF; rw [if_pos hom]
      have hu := hu (by rw [e])
      have hal := hal (by rw [e])
      rw [e] at hu hal
      dsimp only at hu hal
      rw [ifn (by omega), if_pos (maxB_of (by omega)), List.nil_append]
      rw [rwhole_is hae (by omega) (fun h => by rw [h] at hl; have : szA 0 - baseA 0 = 0 := rfl; exact List.eq_nil_of_length_eq_zero (by omega)) (fun h => by rw [h] at hl; have : szA 3 - baseA 3 = 8 := rfl; omega), Option.bind_some]
      generalize wholeF r.ae r.bytes r.plen = a at *
      dsimp only
      rw [hu]
      have ha4 : r.ae ≠ 0 → 4 ≤ a.length := fun h => by have := hsz.1 h; omega
      have hfl := hr.flags
      have e64 : (IntKind.wrap .i64 (r.flags.tdiv 64)).tmod 2 = r.flags / 64 % 2 := by
        rw [Int.tdiv_eq_ediv_of_nonneg hfl.1, w64 (by omega) (by omega), Int.tmod_eq_emod_of_nonneg (by omega)]
      rw [e64]
      by_cases a0 : r.ae = 0
      · have ef : flagsF c r a = c := by unfold flagsF; rw [if_pos a0]
        have an : ¬ (r.ae != 0) = true := by simp [a0]
        rw [if_neg an, if_neg an, rtold_tail hr, ef]
      have h4 := ha4 a0
      have ap : (r.ae != 0) = true := by simp [a0]
      have al16 : r.ae ≠ 1 → (a.length : Int) = 16 := fun h1 => by
        rcases ae_cases hae with h | h | h | h
        · exact absurd h a0
        · exact absurd h h1
        · rw [hal, h]; rfl
        · rw [hal, h]; rfl
      have al4 : r.ae = 1 → (a.length : Int) = 4 := fun h1 => by rw [hal, h1]; rfl
      have w1 : r.ae = 1 → IntKind.wrap .i64 (((([0, 0, 0, 0] : Bs) ++ a).length : Int) - 8) = 0 := fun h1 => by
        have := al4 h1
        have hl0 : ((([0, 0, 0, 0] : Bs) ++ a).length : Int) - 8 = 0 := by rw [List.length_append]; simp; omega
        rw [hl0]; rfl
      have w2 : r.ae ≠ 1 → IntKind.wrap .i64 ((a.length : Int) - 8) = 8 := fun h1 => by rw [al16 h1]; rfl
      have id1 : r.ae = 1 → (flagsF.z4' ++ a).drop (a.length - 4) = ([0, 0, 0, 0] : Bs) ++ a := fun h1 => by
        have := al4 h1
        rw [show a.length - 4 = 0 by omega]; rfl
      have id2 : r.ae ≠ 1 → (flagsF.z4' ++ a).drop (a.length - 4) = a.drop 8 := fun h1 => by
        have := al16 h1
        rw [show a.length - 4 = flagsF.z4'.length + 8 by show _ = 4 + 8; omega, List.drop_append, List.drop_eq_nil_of_le (by omega), List.nil_append, Nat.add_sub_cancel_left]
      have dz : ∀ x : Bs, x.drop (0 : Int).toNat = x := fun x => rfl
      have d8 : ∀ x : Bs, x.drop (8 : Int).toNat = x.drop 8 := fun x => rfl
      rw [if_pos ap]
      by_cases g : 128 ≤ r.flags
      · rw [ifd g, if_pos hae, if_pos ap]
        by_cases k : r.flags / 64 % 2 = 1
        · rw [if_pos (show (r.flags / 64 % 2 == 1) = true by simp [k])]
          by_cases a1 : r.ae = 1
          · have ef : flagsF c r a = ⟨(if r.ae = 0 then a else c.prefix_c0), (if r.ae = 1 then a else c.prefix_c1), (if r.ae = 2 then a else c.prefix_c2), (if r.ae = 3 then a else c.prefix_c3), c.next_c0, c.next_c1, ([0, 0, 0, 0] : Bs) ++ a⟩ := by
              unfold flagsF; rw [if_neg a0, if_pos k, if_pos g, id1 a1]
            rw [if_pos (show (r.ae == 1) = true by simp [a1]), if_pos (maxB_of (by omega)), w1 a1, if_pos (show 0 ≤ (0 : Int) ∧ (0 : Int) ≤ ((([0, 0, 0, 0] : Bs) ++ a).length : Int) by omega), dz, rtold_tail hr, ← ef]
          · have ef : flagsF c r a = ⟨(if r.ae = 0 then a else c.prefix_c0), (if r.ae = 1 then a else c.prefix_c1), (if r.ae = 2 then a else c.prefix_c2), (if r.ae = 3 then a else c.prefix_c3), c.next_c0, c.next_c1, a.drop 8⟩ := by
              unfold flagsF; rw [if_neg a0, if_pos k, if_pos g, id2 a1]
            have := al16 a1
            rw [if_neg (show ¬ (r.ae == 1) = true by simp [a1]), w2 a1, if_pos (show 0 ≤ (8 : Int) ∧ (8 : Int) ≤ (a.length : Int) by omega), d8, rtold_tail hr, ← ef]
        · have ef : flagsF c r a = ⟨(if r.ae = 0 then a else c.prefix_c0), (if r.ae = 1 then a else c.prefix_c1), (if r.ae = 2 then a else c.prefix_c2), (if r.ae = 3 then a else c.prefix_c3), c.next_c0, c.next_c1, c.id⟩ := by
            unfold flagsF; rw [if_neg a0, if_neg k, if_pos g]
          rw [if_neg (show ¬ (r.flags / 64 % 2 == 1) = true by simp [k]), rtold_tail hr, ← ef]
      · rw [ifn g, if_pos ap]
        by_cases k : r.flags / 64 % 2 = 1
        · rw [if_pos (show (r.flags / 64 % 2 == 1) = true by simp [k])]
          by_cases a1 : r.ae = 1
          · have ef : flagsF c r a = ⟨c.prefix_c0, c.prefix_c1, c.prefix_c2, c.prefix_c3, c.next_c0, c.next_c1, ([0, 0, 0, 0] : Bs) ++ a⟩ := by
              unfold flagsF; rw [if_neg a0, if_pos k, if_neg g, id1 a1]; rfl
            rw [if_pos (show (r.ae == 1) = true by simp [a1]), if_pos (maxB_of (by omega)), w1 a1, if_pos (show 0 ≤ (0 : Int) ∧ (0 : Int) ≤ ((([0, 0, 0, 0] : Bs) ++ a).length : Int) by omega), dz, rtold_tail hr, ← ef]
          · have ef : flagsF c r a = ⟨c.prefix_c0, c.prefix_c1, c.prefix_c2, c.prefix_c3, c.next_c0, c.next_c1, a.drop 8⟩ := by
              unfold flagsF; rw [if_neg a0, if_pos k, if_neg g, id2 a1]; rfl
            have := al16 a1
            rw [if_neg (show ¬ (r.ae == 1) = true by simp [a1]), w2 a1, if_pos (show 0 ≤ (8 : Int) ∧ (8 : Int) ≤ (a.length : Int) by omega), d8, rtold_tail hr, ← ef]
        · have ef : flagsF c r a = c := by
            unfold flagsF; rw [if_neg a0, if_neg k, if_neg g]; rfl
          rw [if_neg (show ¬ (r.flags / 64 % 2 == 1) = true by simp [k]), rtold_tail hr, ef]
    · rw [ifd (by omega), if_pos hae]
      refine be_step (fun he => ?_) (fun he => ?_)
      · rw [hn (by unfold addrF; rw [if_neg hom, if_pos he])]
      have hpl := preC_len hc hae he
      have hcl : ((cut_ (preC c r.ae) (baseA r.ae) r.omitted).length : Int) = r.omitted := cut_length (by omega) ho (by omega)
      have e : addrF c r = (wholeF r.ae (cut_ (preC c r.ae) (baseA r.ae) r.omitted ++ r.bytes) r.plen, true) := by unfold addrF; rw [if_neg hom, if_neg he]
      have hu := hu (by rw [e])
      have hal := hal (by rw [e])
      rw [e] at hu hal
      dsimp only at hu hal
      have hcut : ((preC c r.ae).drop (baseA r.ae).toNat).take r.omitted.toNat = cut_ (preC c r.ae) (baseA r.ae) r.omitted := by
        unfold cut_
        rw [List.drop_take, show (baseA r.ae + r.omitted).toNat - (baseA r.ae).toNat = r.omitted.toNat by omega]
      rw [rbase_is hae, Option.bind_some]
      dsimp only
      rw [if_pos (show 0 ≤ baseA r.ae ∧ baseA r.ae ≤ ((preC c r.ae).length : Int) by omega), if_pos (show 0 ≤ r.omitted ∧ r.omitted ≤ (((preC c r.ae).drop (baseA r.ae).toNat).length : Int) by rw [List.length_drop]; omega), hcut, if_pos (maxB_of (by omega))]
      rw [rwhole_is hae (by rw [List.length_append]; omega) (fun h => by rw [h] at hl; have : szA 0 - baseA 0 = 0 := rfl; omega) (fun h => by rw [h] at hl hcl; have : szA 3 - baseA 3 = 8 := rfl; rw [List.length_append]; rw [h]; omega), Option.bind_some]
      generalize wholeF r.ae (cut_ (preC c r.ae) (baseA r.ae) r.omitted ++ r.bytes) r.plen = a at *
      dsimp only
      rw [hu]
      have ha4 : r.ae ≠ 0 → 4 ≤ a.length := fun h => by have := hsz.1 h; omega
      have hfl := hr.flags
      have e64 : (IntKind.wrap .i64 (r.flags.tdiv 64)).tmod 2 = r.flags / 64 % 2 := by
        rw [Int.tdiv_eq_ediv_of_nonneg hfl.1, w64 (by omega) (by omega), Int.tmod_eq_emod_of_nonneg (by omega)]
      rw [e64]
      by_cases a0 : r.ae = 0
      · have ef : flagsF c r a = c := by unfold flagsF; rw [if_pos a0]
        have an : ¬ (r.ae != 0) = true := by simp [a0]
        rw [if_neg an, if_neg an, rtold_tail hr, ef]
      have h4 := ha4 a0
      have ap : (r.ae != 0) = true := by simp [a0]
      have al16 : r.ae ≠ 1 → (a.length : Int) = 16 := fun h1 => by
        rcases ae_cases hae with h | h | h | h
        · exact absurd h a0
        · exact absurd h h1
        · rw [hal, h]; rfl
        · rw [hal, h]; rfl
      have al4 : r.ae = 1 → (a.length : Int) = 4 := fun h1 => by rw [hal, h1]; rfl
      have w1 : r.ae = 1 → IntKind.wrap .i64 (((([0, 0, 0, 0] : Bs) ++ a).length : Int) - 8) = 0 := fun h1 => by
        have := al4 h1
        have hl0 : ((([0, 0, 0, 0] : Bs) ++ a).length : Int) - 8 = 0 := by rw [List.length_append]; simp; omega
        rw [hl0]; rfl
      have w2 : r.ae ≠ 1 → IntKind.wrap .i64 ((a.length : Int) - 8) = 8 := fun h1 => by rw [al16 h1]; rfl
      have id1 : r.ae = 1 → (flagsF.z4' ++ a).drop (a.length - 4) = ([0, 0, 0, 0] : Bs) ++ a := fun h1 => by
        have := al4 h1
        rw [show a.length - 4 = 0 by omega]; rfl
      have id2 : r.ae ≠ 1 → (flagsF.z4' ++ a).drop (a.length - 4) = a.drop 8 := fun h1 => by
        have := al16 h1
        rw [show a.length - 4 = flagsF.z4'.length + 8 by show _ = 4 + 8; omega, List.drop_append, List.drop_eq_nil_of_le (by omega), List.nil_append, Nat.add_sub_cancel_left]
      have dz : ∀ x : Bs, x.drop (0 : Int).toNat = x := fun x => rfl
      have d8 : ∀ x : Bs, x.drop (8 : Int).toNat = x.drop 8 := fun x => rfl
      rw [if_pos ap]
      by_cases g : 128 ≤ r.flags
      · rw [ifd g, if_pos hae, if_pos ap]
        by_cases k : r.flags / 64 % 2 = 1
        · rw [if_pos (show (r.flags / 64 % 2 == 1) = true by simp [k])]
          by_cases a1 : r.ae = 1
          · have ef : flagsF c r a = ⟨(if r.ae = 0 then a else c.prefix_c0), (if r.ae = 1 then a else c.prefix_c1), (if r.ae = 2 then a else c.prefix_c2), (if r.ae = 3 then a else c.prefix_c3), c.next_c0, c.next_c1, ([0, 0, 0, 0] : Bs) ++ a⟩ := by
              unfold flagsF; rw [if_neg a0, if_pos k, if_pos g, id1 a1]
            rw [if_pos (show (r.ae == 1) = true by simp [a1]), if_pos (maxB_of (by omega)), w1 a1, if_pos (show 0 ≤ (0 : Int) ∧ (0 : Int) ≤ ((([0, 0, 0, 0] : Bs) ++ a).length : Int) by omega), dz, rtold_tail hr, ← ef]
          · have ef : flagsF c r a = ⟨(if r.ae = 0 then a else c.prefix_c0), (if r.ae = 1 then a else c.prefix_c1), (if r.ae = 2 then a else c.prefix_c2), (if r.ae = 3 then a else c.prefix_c3), c.next_c0, c.next_c1, a.drop 8⟩ := by
              unfold flagsF; rw [if_neg a0, if_pos k, if_pos g, id2 a1]
            have := al16 a1
            rw [if_neg (show ¬ (r.ae == 1) = true by simp [a1]), w2 a1, if_pos (show 0 ≤ (8 : Int) ∧ (8 : Int) ≤ (a.length : Int) by omega), d8, rtold_tail hr, ← ef]
        · have ef : flagsF c r a = ⟨(if r.ae = 0 then a else c.prefix_c0), (if r.ae = 1 then a else c.prefix_c1), (if r.ae = 2 then a else c.prefix_c2), (if r.ae = 3 then a else c.prefix_c3), c.next_c0, c.next_c1, c.id⟩ := by
            unfold flagsF; rw [if_neg a0, if_neg k, if_pos g]
          rw [if_neg (show ¬ (r.flags / 64 % 2 == 1) = true by simp [k]), rtold_tail hr, ← ef]
      · rw [ifn g, if_pos ap]
        by_cases k : r.flags / 64 % 2 = 1
        · rw [if_pos (show (r.flags / 64 % 2 == 1) = true by simp [k])]
          by_cases a1 : r.ae = 1
          · have ef : flagsF c r a = ⟨c.prefix_c0, c.prefix_c1, c.prefix_c2, c.prefix_c3, c.next_c0, c.next_c1, ([0, 0, 0, 0] : Bs) ++ a⟩ := by
              unfold flagsF; rw [if_neg a0, if_pos k, if_neg g, id1 a1]; rfl
            rw [if_pos (show (r.ae == 1) = true by simp [a1]), if_pos (maxB_of (by omega)), w1 a1, if_pos (show 0 ≤ (0 : Int) ∧ (0 : Int) ≤ ((([0, 0, 0, 0] : Bs) ++ a).length : Int) by omega), dz, rtold_tail hr, ← ef]
          · have ef : flagsF c r a = ⟨c.prefix_c0, c.prefix_c1, c.prefix_c2, c.prefix_c3, c.next_c0, c.next_c1, a.drop 8⟩ := by
              unfold flagsF; rw [if_neg a0, if_pos k, if_neg g, id2 a1]; rfl
            have := al16 a1
            rw [if_neg (show ¬ (r.ae == 1) = true by simp [a1]), w2 a1, if_pos (show 0 ≤ (8 : Int) ∧ (8 : Int) ≤ (a.length : Int) by omega), d8, rtold_tail hr, ← ef]
        · have ef : flagsF c r a = c := by
            unfold flagsF; rw [if_neg a0, if_neg k, if_neg g]; rfl
          rw [if_neg (show ¬ (r.flags / 64 % 2 == 1) = true by simp [k]), rtold_tail hr, ef]
def stepC (c : Ctx) (ty : Int) (d : Bs) : Ctx × List Msg × Int :=
  if ty = 6 then ((idF c d).1, [], (idF c d).2) else if ty = 7 then ((hopF c d).1, [], (hopF c d).2) else if ty = 8 then updF c d else (c, [], 0)
theorem rcstep_is {c : Ctx} {ty at_ : Int} {d : Bs} (hc : okC c) (hd : d.length ≤ 1000) (ht : ty = 6 ∨ ty = 7 ∨ ty = 8) : g_ref22_Step (c, ⟨ty, at_, d⟩, ()) = some (((stepC c ty d).1, (stepC c ty d).2.1, (stepC c ty d).2.2, ()), ()) := by
  rw [g_ref22_Step_eq]
  unfold stepC
  dsimp only
  refine bq_step (fun h => ?_) (fun h => ?_)
  · rw [rfixed_is (by omega) (by omega), Option.bind_some, if_pos h]
    unfold idF
    dsimp only
    cases hk : (countF d 10).1 with
    | false => rw [iff_, ite_self, if_neg (by simp)]
    | true =>
      have := countF_known hk
      rw [this.1, if_pos (by decide), ift, if_pos (by omega), if_pos rfl]; rfl
  rw [if_neg h]
  refine bq_step (fun h => ?_) (fun h => ?_)
  · rw [rhop_is (by omega), Option.bind_some, if_pos h]
  · rw [if_neg h, rupdate_is hc hd, Option.bind_some, if_pos (by omega)]
end Go.VP
