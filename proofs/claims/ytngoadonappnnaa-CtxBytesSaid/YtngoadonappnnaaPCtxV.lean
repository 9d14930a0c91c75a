/- What a parser of Babel knows: an Update, and a TLV's step. -/
import Derived.Test.YtngoadonappnnaaFQ8
import Derived.Test.YtngoadonappnnaaFQ9
import Derived.Test.YtngoadonappnnaaPBase
import Derived.Test.YtngoadonappnnaaPCur
import Derived.Test.YtngoadonappnnaaPOct
import Derived.Test.YtngoadonappnnaaPTlv
import Derived.Test.YtngoadonappnnaaPSub
import Derived.Test.YtngoadonappnnaaPMsg
import Derived.Test.YtngoadonappnnaaPAddr
import Derived.Test.YtngoadonappnnaaPBits
import Derived.Test.YtngoadonappnnaaPField
import Derived.Test.YtngoadonappnnaaPFieldG
import Derived.Test.YtngoadonappnnaaPRoute
import Derived.Test.YtngoadonappnnaaPRouteG
import Derived.Test.YtngoadonappnnaaPTake
import Derived.Test.YtngoadonappnnaaPRouteB
import Derived.Test.YtngoadonappnnaaPCtx
import Derived.Test.YtngoadonappnnaaPCtxU
set_option linter.unusedVariables false
set_option linter.unusedSimpArgs false
set_option maxRecDepth 100000
namespace Go.VP
open Go Go.VI
theorem czeros4 : g_octet_Zeros (4, ()) = some (((([0, 0, 0, 0] : Bs)), ()), ()) := by
  rw [g_octet_Zeros_eq, if_pos (by unfold roomI; decide)]; rfl
theorem flags_is {c : Ctx} {r : Raw} {a : Bs} (hr : RawOk r) (ha : r.ae ≠ 0 → 4 ≤ a.length) (hb : a.length ≤ 100000) : g_ctx_stepper_flags (stp c, r, a, ()) = some ((), (stp (flagsF c r a), ())) := by
  have hae := hr.ae
  obtain ⟨f, hf⟩ : ∃ f : Fin 256, r.flags = (f.val : Int) := ⟨⟨r.flags.toNat, by have := hr.flags; omega⟩, by have := hr.flags; simp; omega⟩
  obtain ⟨f1, f2⟩ := flag_bits f
  rw [g_ctx_stepper_flags_eq]
  unfold flagsF
  refine bq_step (fun h => ?_) (fun h => ?_)
  · rw [if_pos h]
  have h4 := ha h
  rw [if_neg h, if_neg h, hf, f1, f2, if_pos hae, czeros4, Option.bind_some]
  dsimp only
  have hl : ((([0, 0, 0, 0] : Bs) ++ a).length : Int) - 8 = ((a.length - 4 : Nat) : Int) := by simp; omega
  rw [if_pos (maxB_of (by simp; omega)), hl, w64 (by omega) (by omega), if_pos (show 0 ≤ ((a.length - 4 : Nat) : Int) ∧ ((a.length - 4 : Nat) : Int) ≤ ((([0, 0, 0, 0] : Bs) ++ a).length : Int) by simp; omega), Int.toNat_natCast]
  have e1 : (128 ≤ (f.val : Int)) ↔ 128 ≤ f.val := by omega
  have e2 : ((f.val : Int) / 64 % 2 = 1) ↔ f.val / 64 % 2 = 1 := by omega
  refine dq_step' (fun g => ?_) (fun g => ?_)
  · refine dq_step' (fun k => ?_) (fun k => ?_)
    · rw [if_pos (e2.2 k), if_pos (e1.2 g)]; rfl
    · rw [if_neg (fun x => k (e2.1 x)), if_pos (e1.2 g)]
  · refine dq_step' (fun k => ?_) (fun k => ?_)
    · rw [Option.bind_some]
      dsimp only
      rw [if_pos (maxB_of (by simp; omega)), hl, w64 (by omega) (by omega), if_pos (show 0 ≤ ((a.length - 4 : Nat) : Int) ∧ ((a.length - 4 : Nat) : Int) ≤ ((([0, 0, 0, 0] : Bs) ++ a).length : Int) by simp; omega), Int.toNat_natCast, if_pos (e2.2 k), if_neg (fun x => g (e1.1 x))]; rfl
    · rw [if_neg (fun x => k (e2.1 x)), if_neg (fun x => g (e1.1 x))]; rfl
theorem takeG_raw {d : Bs} (h : (takeG d).2.1 = true) : RawOk (takeG d).1 ∧ (takeG d).2.2 = 0 := by
  have b0 := bt_rng d 0
  have b1 := bt_rng d 1
  have b2 := bt_rng d 2
  have b3 := bt_rng d 3
  unfold takeG at h ⊢
  split at h
  · cases h
  rename_i h1
  split at h
  · cases h
  rename_i h2
  rw [if_neg h1, if_neg h2]
  dsimp only at h ⊢
  split at h
  · cases h
  rename_i h3
  split at h
  · cases h
  rename_i h4
  rw [if_neg h3, if_neg h4]
  have h3 : (preF d 10 (bt d 0) (bt d 2) (bt d 3)).2 = 0 := by simpa using h3
  have n8 := num_rng (cut_ d 8 2)
  have l8 : ((cut_ d 8 2).length : Int) = 2 := cut_length (by omega) (by omega) (by omega)
  have l8' : (cut_ d 8 2).length = 2 := by omega
  rw [l8'] at n8
  unfold preF at h3 ⊢
  split at h3
  · cases h3
  rename_i hg
  split at h3
  · cases h3
  rename_i hl
  rw [if_neg hg, if_neg hl]
  have hg1 : greatB (bt d 0) (bt d 2) = false := by
    cases e : greatB (bt d 0) (bt d 2) with
    | false => rfl
    | true => exact absurd (.inl e) hg
  have hg2 : 0 ≤ restN (bt d 0) (bt d 2) (bt d 3) := by omega
  obtain ⟨q1, q2, q3, q4, q5⟩ := restN_len (ae := bt d 0) (by omega) hg1
  have hcl := cut_length (s := d) (p := 10) (n := restN (bt d 0) (bt d 2) (bt d 3)) (by omega) hg2 (by omega)
  have hp : lowA (bt d 0) ≤ bt d 2 ∧ bt d 2 ≤ highA (bt d 0) := by unfold greatB at hg1; simpa using hg1
  obtain ⟨r1, r2, r3, r4, r5, r6⟩ := least_base (ae := bt d 0) (by omega) hp
  refine ⟨⟨by show 0 ≤ bt d 0 ∧ bt d 0 < 4; omega, b3.1, q5, ?_, by show 0 ≤ bt d 1 ∧ bt d 1 ≤ 255; omega, by show 0 ≤ num (cut_ d 8 2) ∧ num (cut_ d 8 2) ≤ 65535; omega, ?_, hp.1⟩, rfl⟩
  · show bt d 3 + ((cut_ d 10 (restN (bt d 0) (bt d 2) (bt d 3))).length : Int) ≤ szA (bt d 0) - baseA (bt d 0)
    rw [hcl]
    unfold restN
    omega
  · show (if _ = true then (1 : Int) else 0) = 0 ∨ (if _ = true then (1 : Int) else 0) = 1
    split
    · exact .inr rfl
    · exact .inl rfl
def updM (c : Ctx) (r : Raw) (a : Bs) : Msg := ⟨11, 0, 0, [], 0, r.ae, a, r.plen, 0, (if r.metric = 65535 then [] else (if famE r.ae = 0 then c.next_c0 else c.next_c1)), r.metric, (if r.metric = 65535 then [] else c.id), r.seq, 0, r.interval, 0, 0, 0, 0, [], [], [], 0, [], r.subs⟩
def updF (c : Ctx) (d : Bs) : Ctx × List Msg × Int :=
  if (takeG d).2.1 = true then
    (if (addrF c (takeG d).1).2 = true then
      (if toldB (flagsF c (takeG d).1 (addrF c (takeG d).1).1) (takeG d).1 = true then (flagsF c (takeG d).1 (addrF c (takeG d).1).1, [updM (flagsF c (takeG d).1 (addrF c (takeG d).1).1) (takeG d).1 (addrF c (takeG d).1).1], 0)
      else (flagsF c (takeG d).1 (addrF c (takeG d).1).1, [], 0))
    else (c, [], 9))
  else (c, [], (takeG d).2.2)
theorem addrF_len {c : Ctx} {r : Raw} (hc : okC c) (hr : RawOk r) (h : (addrF c r).2 = true) : ((addrF c r).1.length : Int) = szA r.ae := by
  have hl := hr.len
  have ho := hr.om
  have hbs := baseA_rng r.ae
  unfold addrF at h ⊢
  by_cases h0 : r.omitted = 0
  · rw [if_pos h0]; exact wholeF_len hr.ae (by omega)
  · rw [if_neg h0] at h ⊢
    by_cases he : preC c r.ae = []
    · rw [if_pos he] at h; cases h
    · rw [if_neg he]
      have hpl := preC_len hc hr.ae he
      have hcl : ((cut_ (preC c r.ae) (baseA r.ae) r.omitted).length : Int) = r.omitted := cut_length (by omega) ho (by omega)
      exact wholeF_len hr.ae (by rw [List.length_append]; omega)
theorem update_is {c : Ctx} {ty at_ : Int} {d : Bs} (hc : okC c) (hd : d.length ≤ 1000) : g_ctx_stepper_update (stp c, ⟨ty, at_, d⟩, ()) = some (((updF c d).2.1, (updF c d).2.2, ()), (stp (updF c d).1, ())) := by
  rw [g_ctx_stepper_update_eq, take_is hd, Option.bind_some]
  unfold updF
  dsimp only [trip]
  cases h : (takeG d).2.1 with
  | false => rw [ifnf, if_neg (by simp)]
  | true =>
    obtain ⟨hr, h0⟩ := takeG_raw h
    generalize (takeG d).1 = r at *
    rw [ifnt, if_pos rfl, address_is hc hr, Option.bind_some]
    dsimp only
    cases h2 : (addrF c r).2 with
    | false => rw [ifnf, if_neg (by simp)]
    | true =>
      have hl := addrF_len hc hr h2
      have hsz : (r.ae ≠ 0 → 4 ≤ szA r.ae) ∧ szA r.ae ≤ 16 := by unfold szA; refine ⟨fun h => ?_, ?_⟩ <;> (split <;> (try split) <;> (try split) <;> omega)
      generalize (addrF c r).1 = a at *
      rw [ifnt, if_pos rfl, flags_is hr (fun h => by have := hsz.1 h; omega) (by omega), Option.bind_some]
      dsimp only
      rw [told_is, Option.bind_some]
      dsimp only
      cases h3 : toldB (flagsF c r a) r with
      | false => rw [ifnf, if_neg (by simp)]
      | true =>
        rw [ifnt, if_pos rfl]
        unfold updM
        refine ne_step (fun hm => ?_) (fun hm => ?_)
        · rw [if_neg hm, if_neg hm, cfam_is, Option.bind_some]
          dsimp only
          have hae : 1 ≤ r.ae ∧ r.ae ≤ 3 := by
            have := hr.ae
            unfold toldB at h3
            simp [hm] at h3
            omega
          rw [if_pos (famE_rng hae)]
        · rw [if_pos hm, if_pos hm]
end Go.VP
