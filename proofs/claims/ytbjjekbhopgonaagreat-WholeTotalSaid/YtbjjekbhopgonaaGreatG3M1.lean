import Derived.Test.YtbjjekbhopgonaaGreatG3FQ4
import Derived.Test.YtbjjekbhopgonaaGreatG3M0
import Derived.Test.YtbjjekbhopgonaaGreatG3FQ2
import Derived.Test.YtbjjekbhopgonaaGreatG3FH
import Derived.Test.YtbjjekbhopgonaaGreatG3FQ3
import Derived.Test.YtbjjekbhopgonaaGreatG3FQ7
import Derived.Test.YtbjjekbhopgonaaGreatG3FQ8
import Derived.Test.YtbjjekbhopgonaaGreatG3FQ15
import Derived.Test.YtbjjekbhopgonaaGreatG3FQ0
import Derived.Test.YtbjjekbhopgonaaGreatG3FQ1
import Derived.Test.YtbjjekbhopgonaaGreatG3FGood
set_option linter.unusedVariables false
set_option linter.unusedSimpArgs false
set_option maxRecDepth 100000
namespace Go.VP
open Go Go.VI
theorem dq_step' {R : Type} {p : Prop} [Decidable p] {t f r : R} (h : p → t = r) (h' : ¬ p → f = r) : (if decide p = true then t else f) = r := by
  by_cases hp : p
  · rw [ifd hp]; exact h hp
  · rw [ifn hp]; exact h' hp
theorem be_step {R : Type} {x y : Bs} {f t r : R} (heq : x = y → t = r) (hne : x ≠ y → f = r) : (if (x == y) = true then t else f) = r := by
  by_cases h : x = y
  · rw [if_pos (by simp [h])]; exact heq h
  · rw [if_neg (by simpa using h)]; exact hne h
def okC (c : Ctx) : Prop := c.prefix_c0 = [] ∧ (c.prefix_c1 = [] ∨ c.prefix_c1.length = 4) ∧ (c.prefix_c2 = [] ∨ c.prefix_c2.length = 16) ∧ (c.prefix_c3 = [] ∨ linkB c.prefix_c3 = true) ∧ (c.next_c0 = [] ∨ c.next_c0.length = 4) ∧ (c.next_c1 = [] ∨ c.next_c1.length = 16) ∧ (c.id = [] ∨ c.id.length = 8)
structure RawOk (r : Raw) : Prop where
  ae : 0 ≤ r.ae ∧ r.ae < 4
  om : 0 ≤ r.omitted
  plen : 0 ≤ r.plen ∧ r.plen ≤ 128
  len : r.omitted + r.bytes.length ≤ szA r.ae - baseA r.ae
  flags : 0 ≤ r.flags ∧ r.flags ≤ 255
  metric : 0 ≤ r.metric ∧ r.metric ≤ 65535
  have_ : r.have_ = 0 ∨ r.have_ = 1
  low : lowA r.ae ≤ r.plen
def preC (c : Ctx) (ae : Int) : Bs := if ae = 0 then c.prefix_c0 else (if ae = 1 then c.prefix_c1 else (if ae = 2 then c.prefix_c2 else c.prefix_c3))
theorem preC_len {c : Ctx} (h : okC c) {ae : Int} (ha : 0 ≤ ae ∧ ae < 4) (hn : preC c ae ≠ []) : ((preC c ae).length : Int) = szA ae := by
  obtain ⟨h0, h1, h2, h3, _⟩ := h
  rcases ae_cases ha with rfl | rfl | rfl | rfl
  · exact absurd h0 hn
  · rcases h1 with e | e
    · exact absurd e hn
    · show (c.prefix_c1.length : Int) = 4; omega
  · rcases h2 with e | e
    · exact absurd e hn
    · show (c.prefix_c2.length : Int) = 16; omega
  · rcases h3 with e | e
    · exact absurd e hn
    · have := (linkB_len e).1; show (c.prefix_c3.length : Int) = 16; omega
def addrF (c : Ctx) (r : Raw) : Bs × Bool :=
  if r.omitted = 0 then (wholeF r.ae r.bytes r.plen, true)
  else if preC c r.ae = [] then ([], false)
  else (wholeF r.ae (cut_ (preC c r.ae) (baseA r.ae) r.omitted ++ r.bytes) r.plen, true)
theorem address_is {c : Ctx} {r : Raw} (hc : okC c) (hr : RawOk r) : g_ctx_stepper_address (stp c, r, ()) = some (((addrF c r).1, (addrF c r).2, ()), (stp c, ())) := by
  have ha := hr.ae; have hl := hr.len; have ho := hr.om; have hp := hr.plen
  have hsz : 0 ≤ szA r.ae ∧ szA r.ae ≤ 16 := by unfold szA; split <;> (try split) <;> (try split) <;> omega
  have hbs := baseA_rng r.ae
  have hpre : (if r.ae = 0 then c.prefix_c0 else (if r.ae = 1 then c.prefix_c1 else (if r.ae = 2 then c.prefix_c2 else c.prefix_c3))) = preC c r.ae := rfl
  have hsz' : (if r.ae = 0 then (0 : Int) else (if r.ae = 1 then (4 : Int) else (if r.ae = 2 then (16 : Int) else (16 : Int)))) = szA r.ae := rfl
  rw [g_ctx_stepper_address_eq]
  dsimp only
  rw [hpre, hsz', if_pos ha]
  unfold addrF
  refine bq_step (fun h3 => ?_) (fun h3 => ?_)
  · have s3 : szA r.ae = 16 := by rw [h3]; rfl
    have b3 : baseA r.ae = 8 := by rw [h3]; rfl
    rw [if_pos ha, s3, w64 (x := 16 - 8) (by omega) (by omega), show (16 : Int) - 8 = 8 by decide]
    refine bq_step (fun h0 => ?_) (fun h0 => ?_)
    · rw [if_pos h0, if_pos (maxB_of (by omega)), List.nil_append, fill_is (by omega), Option.bind_some, long_is, Option.bind_some]
      have hl8 : longF (fillF r.bytes 8) = (linkP ++ fillF r.bytes 8, true) := by unfold longF; rw [if_pos (by rw [fillF_length]; omega)]
      rw [hl8, keep_is (by simp [fillF_length, linkP]; omega) (has64.2 (by omega)), Option.bind_some]
      unfold wholeF; rw [if_pos h3]
    · rw [if_neg h0]
      refine be_step (fun he => ?_) (fun he => ?_)
      · rw [if_pos he]
      · have hpl := preC_len hc ha he
        have hcl : ((cut_ (preC c r.ae) 8 r.omitted).length : Int) = r.omitted := cut_length (by omega) ho (by omega)
        have hcut : (List.take (8 + r.omitted).toNat (preC c r.ae)).drop 8 = cut_ (preC c r.ae) 8 r.omitted := rfl
        rw [if_neg he, w64 (x := 8 + r.omitted) (by omega) (by omega), if_pos (by omega), hcut, if_pos (maxB_of (by omega)), fill_is (by omega), Option.bind_some, long_is, Option.bind_some]
        have hl8 : longF (fillF (cut_ (preC c r.ae) 8 r.omitted ++ r.bytes) 8) = (linkP ++ fillF (cut_ (preC c r.ae) 8 r.omitted ++ r.bytes) 8, true) := by unfold longF; rw [if_pos (by rw [fillF_length, List.length_append]; omega)]
        rw [hl8, keep_is (by simp [fillF_length, linkP]; omega) (has64.2 (by omega)), Option.bind_some]
        unfold wholeF; rw [if_pos h3, b3]
  · have b0 : baseA r.ae = 0 := by
      rcases ae_cases ha with h | h | h | h
      · rw [h]; rfl
      · rw [h]; rfl
      · rw [h]; rfl
      · exact absurd h h3
    rw [if_pos ha, w64 (x := szA r.ae - 0) (by omega) (by omega), show szA r.ae - 0 = szA r.ae by omega]
    refine bq_step (fun h0 => ?_) (fun h0 => ?_)
    · rw [if_pos h0, if_pos (maxB_of (by omega)), List.nil_append, fill_is (by omega), Option.bind_some, keep_is (by rw [fillF_length]; omega) (has64.2 (by omega)), Option.bind_some]
      unfold wholeF; rw [if_neg h3]
    · rw [if_neg h0]
      refine be_step (fun he => ?_) (fun he => ?_)
      · rw [if_pos he]
      · have hpl := preC_len hc ha he
        have hcl : ((cut_ (preC c r.ae) 0 r.omitted).length : Int) = r.omitted := cut_length (by omega) ho (by omega)
        have hcut : (List.take (0 + r.omitted).toNat (preC c r.ae)).drop 0 = cut_ (preC c r.ae) 0 r.omitted := rfl
        rw [if_neg he, w64 (x := 0 + r.omitted) (by omega) (by omega), if_pos (by omega), hcut, if_pos (maxB_of (by omega)), fill_is (by omega), Option.bind_some, keep_is (by rw [fillF_length, List.length_append]; omega) (has64.2 (by omega)), Option.bind_some]
        unfold wholeF; rw [if_neg h3, b0]
def flagsF (c : Ctx) (r : Raw) (a : Bs) : Ctx :=
  if r.ae = 0 then c else
    let i := if r.flags / 64 % 2 = 1 then (z4' ++ a).drop (a.length - 4) else c.id
    if 128 ≤ r.flags then ⟨(if r.ae = 0 then a else c.prefix_c0), (if r.ae = 1 then a else c.prefix_c1), (if r.ae = 2 then a else c.prefix_c2), (if r.ae = 3 then a else c.prefix_c3), c.next_c0, c.next_c1, i⟩ else setId c i
  where z4' : Bs := [0, 0, 0, 0]
theorem flag_bits : ∀ f : Fin 256, ((ibits .and .i64 (f.val : Int) 128 != 0) = decide (128 ≤ f.val)) ∧ ((ibits .and .i64 (f.val : Int) 64 != 0) = decide (f.val / 64 % 2 = 1)) := by decide +kernel
def toldB (c : Ctx) (r : Raw) : Bool := decide (r.have_ = 1) && (decide (r.metric = 65535) || (decide (0 < r.ae) && !(c.id == [])))
theorem told_is {c : Ctx} {r : Raw} : g_ctx_stepper_told (stp c, r, ()) = some ((toldB c r, ()), (stp c, ())) := by
  rw [g_ctx_stepper_told_eq]; unfold toldB
  refine bq_step (fun h => ?_) (fun h => ?_)
  · refine bq_step (fun h1 => ?_) (fun h1 => ?_)
    · simp [h, h1]
    · refine dq_step' (fun h2 => ?_) (fun h2 => ?_)
      · simp [h, h1, h2]
      · simp [h1, h2]
  · simp [h]
end Go.VP
set_option linter.unusedVariables false
set_option linter.unusedSimpArgs false
set_option maxRecDepth 100000
namespace Go.VP
open Go Go.VI
theorem czeros4 : g_octet_Zeros (4, ()) = some (((([0, 0, 0, 0] : Bs)), ()), ()) := by
  rw [g_octet_Zeros_eq, if_pos (by unfold roomI; decide)]; rfl
theorem flags_is {c : Ctx} {r : Raw} {a : Bs} (hr : RawOk r) (ha : r.ae ≠ 0 → 4 ≤ a.length) (hb : a.length ≤ 100000) : g_ctx_stepper_flags (stp c, r, a, ()) = some ((), (stp (flagsF c r a), ())) := by
  have hae := hr.ae
  obtain ⟨f, hf⟩ : ∃ f : Fin 256, r.flags = (f.val : Int) := ⟨⟨r.flags.toNat, by have := hr.flags; omega⟩, by have := hr.flags; simp; omega⟩
  obtain ⟨f1, f2⟩ := flag_bits f
  rw [g_ctx_stepper_flags_eq]
  unfold flagsF
  refine bq_step (fun h => ?_) (fun h => ?_)
  · rw [if_pos h]
  have h4 := ha h
  rw [if_neg h, if_neg h, hf, f1, f2, if_pos hae, czeros4, Option.bind_some]
  dsimp only
  have hl : ((([0, 0, 0, 0] : Bs) ++ a).length : Int) - 8 = ((a.length - 4 : Nat) : Int) := by simp; omega
  rw [if_pos (maxB_of (by simp; omega)), hl, w64 (by omega) (by omega), if_pos (show 0 ≤ ((a.length - 4 : Nat) : Int) ∧ ((a.length - 4 : Nat) : Int) ≤ ((([0, 0, 0, 0] : Bs) ++ a).length : Int) by simp; omega), Int.toNat_natCast]
  have e1 : (128 ≤ (f.val : Int)) ↔ 128 ≤ f.val := by omega
  have e2 : ((f.val : Int) / 64 % 2 = 1) ↔ f.val / 64 % 2 = 1 := by omega
  refine dq_step' (fun g => ?_) (fun g => ?_)
  · refine dq_step' (fun k => ?_) (fun k => ?_)
    · rw [if_pos (e2.2 k), if_pos (e1.2 g)]; rfl
    · rw [if_neg (fun x => k (e2.1 x)), if_pos (e1.2 g)]
  · refine dq_step' (fun k => ?_) (fun k => ?_)
    · rw [Option.bind_some]
      dsimp only
      rw [if_pos (maxB_of (by simp; omega)), hl, w64 (by omega) (by omega), if_pos (show 0 ≤ ((a.length - 4 : Nat) : Int) ∧ ((a.length - 4 : Nat) : Int) ≤ ((([0, 0, 0, 0] : Bs) ++ a).length : Int) by simp; omega), Int.toNat_natCast, if_pos (e2.2 k), if_neg (fun x => g (e1.1 x))]; rfl
    · rw [if_neg (fun x => k (e2.1 x)), if_neg (fun x => g (e1.1 x))]; rfl
theorem takeG_raw {d : Bs} (h : (takeG d).2.1 = true) : RawOk (takeG d).1 ∧ (takeG d).2.2 = 0 := by
  have b0 := bt_rng d 0
  have b1 := bt_rng d 1
  have b2 := bt_rng d 2
  have b3 := bt_rng d 3
  unfold takeG at h ⊢
  split at h
  · cases h
  rename_i h1
  split at h
  · cases h
  rename_i h2
  rw [if_neg h1, if_neg h2]
  dsimp only at h ⊢
  split at h
  · cases h
  rename_i h3
  split at h
  · cases h
  rename_i h4
  rw [if_neg h3, if_neg h4]
  have h3 : (preF d 10 (bt d 0) (bt d 2) (bt d 3)).2 = 0 := by simpa using h3
  have n8 := num_rng (cut_ d 8 2)
  have l8 : ((cut_ d 8 2).length : Int) = 2 := cut_length (by omega) (by omega) (by omega)
  have l8' : (cut_ d 8 2).length = 2 := by omega
  rw [l8'] at n8
  unfold preF at h3 ⊢
  split at h3
  · cases h3
  rename_i hg
  split at h3
  · cases h3
  rename_i hl
  rw [if_neg hg, if_neg hl]
  have hg1 : greatB (bt d 0) (bt d 2) = false := by
    cases e : greatB (bt d 0) (bt d 2) with
    | false => rfl
    | true => exact absurd (.inl e) hg
  have hg2 : 0 ≤ restN (bt d 0) (bt d 2) (bt d 3) := by omega
  obtain ⟨q1, q2, q3, q4, q5⟩ := restN_len (ae := bt d 0) (by omega) hg1
  have hcl := cut_length (s := d) (p := 10) (n := restN (bt d 0) (bt d 2) (bt d 3)) (by omega) hg2 (by omega)
  have hp : lowA (bt d 0) ≤ bt d 2 ∧ bt d 2 ≤ highA (bt d 0) := by unfold greatB at hg1; simpa using hg1
  obtain ⟨r1, r2, r3, r4, r5, r6⟩ := least_base (ae := bt d 0) (by omega) hp
  refine ⟨⟨by show 0 ≤ bt d 0 ∧ bt d 0 < 4; omega, b3.1, q5, ?_, by show 0 ≤ bt d 1 ∧ bt d 1 ≤ 255; omega, by show 0 ≤ num (cut_ d 8 2) ∧ num (cut_ d 8 2) ≤ 65535; omega, ?_, hp.1⟩, rfl⟩
  · show bt d 3 + ((cut_ d 10 (restN (bt d 0) (bt d 2) (bt d 3))).length : Int) ≤ szA (bt d 0) - baseA (bt d 0)
    rw [hcl]
    unfold restN
    omega
  · show (if _ = true then (1 : Int) else 0) = 0 ∨ (if _ = true then (1 : Int) else 0) = 1
    split
    · exact .inr rfl
    · exact .inl rfl
def updM (c : Ctx) (r : Raw) (a : Bs) : Msg := ⟨11, 0, 0, [], 0, r.ae, a, r.plen, 0, (if r.metric = 65535 then [] else (if famE r.ae = 0 then c.next_c0 else c.next_c1)), r.metric, (if r.metric = 65535 then [] else c.id), r.seq, 0, r.interval, 0, 0, 0, 0, [], [], [], 0, [], r.subs⟩
def updF (c : Ctx) (d : Bs) : Ctx × List Msg × Int :=
  if (takeG d).2.1 = true then
    (if (addrF c (takeG d).1).2 = true then
      (if toldB (flagsF c (takeG d).1 (addrF c (takeG d).1).1) (takeG d).1 = true then (flagsF c (takeG d).1 (addrF c (takeG d).1).1, [updM (flagsF c (takeG d).1 (addrF c (takeG d).1).1) (takeG d).1 (addrF c (takeG d).1).1], 0)
      else (flagsF c (takeG d).1 (addrF c (takeG d).1).1, [], 0))
    else (c, [], 9))
  else (c, [], (takeG d).2.2)
theorem addrF_len {c : Ctx} {r : Raw} (hc : okC c) (hr : RawOk r) (h : (addrF c r).2 = true) : ((addrF c r).1.length : Int) = szA r.ae := by
  have hl := hr.len
  have ho := hr.om
  have hbs := baseA_rng r.ae
  unfold addrF at h ⊢
  by_cases h0 : r.omitted = 0
  · rw [if_pos h0]; exact wholeF_len hr.ae (by omega)
  · rw [if_neg h0] at h ⊢
    by_cases he : preC c r.ae = []
    · rw [if_pos he] at h; cases h
    · rw [if_neg he]
      have hpl := preC_len hc hr.ae he
      have hcl : ((cut_ (preC c r.ae) (baseA r.ae) r.omitted).length : Int) = r.omitted := cut_length (by omega) ho (by omega)
      exact wholeF_len hr.ae (by rw [List.length_append]; omega)
theorem update_is {c : Ctx} {ty at_ : Int} {d : Bs} (hc : okC c) (hd : d.length ≤ 1000) : g_ctx_stepper_update (stp c, ⟨ty, at_, d⟩, ()) = some (((updF c d).2.1, (updF c d).2.2, ()), (stp (updF c d).1, ())) := by
  rw [g_ctx_stepper_update_eq, take_is hd, Option.bind_some]
  unfold updF
  dsimp only [trip]
  cases h : (takeG d).2.1 with
  | false => rw [ifnf, if_neg (by simp)]
  | true =>
    obtain ⟨hr, h0⟩ := takeG_raw h
    generalize (takeG d).1 = r at *
    rw [ifnt, if_pos rfl, address_is hc hr, Option.bind_some]
    dsimp only
    cases h2 : (addrF c r).2 with
    | false => rw [ifnf, if_neg (by simp)]
    | true =>
      have hl := addrF_len hc hr h2
      have hsz : (r.ae ≠ 0 → 4 ≤ szA r.ae) ∧ szA r.ae ≤ 16 := by unfold szA; refine ⟨fun h => ?_, ?_⟩ <;> (split <;> (try split) <;> (try split) <;> omega)
      generalize (addrF c r).1 = a at *
      rw [ifnt, if_pos rfl, flags_is hr (fun h => by have := hsz.1 h; omega) (by omega), Option.bind_some]
      dsimp only
      rw [told_is, Option.bind_some]
      dsimp only
      cases h3 : toldB (flagsF c r a) r with
      | false => rw [ifnf, if_neg (by simp)]
      | true =>
        rw [ifnt, if_pos rfl]
        unfold updM
        refine ne_step (fun hm => ?_) (fun hm => ?_)
        · rw [if_neg hm, if_neg hm, cfam_is, Option.bind_some]
          dsimp only
          have hae : 1 ≤ r.ae ∧ r.ae ≤ 3 := by
            have := hr.ae
            unfold toldB at h3
            simp [hm] at h3
            omega
          rw [if_pos (famE_rng hae)]
        · rw [if_pos hm, if_pos hm]
end Go.VP
set_option linter.unusedVariables false
set_option linter.unusedSimpArgs false
set_option maxRecDepth 100000
namespace Go.VP
open Go Go.VI
def stepC (c : Ctx) (ty : Int) (d : Bs) : Ctx × List Msg × Int :=
  if ty = 6 then ((idF c d).1, [], (idF c d).2) else if ty = 7 then ((hopF c d).1, [], (hopF c d).2) else if ty = 8 then updF c d else (c, [], 0)
theorem cstep_is {c : Ctx} {ty at_ : Int} {d : Bs} (hc : okC c) (hd : d.length ≤ 1000) : g_ctx_Step (c, ⟨ty, at_, d⟩, ()) = some (((stepC c ty d).1, (stepC c ty d).2.1, (stepC c ty d).2.2, ()), ()) := by
  rw [g_ctx_Step_eq]
  unfold stepC
  refine bq_step (fun h => ?_) (fun h => ?_)
  · have := id_is (c := c) (d := d) (by omega)
    unfold stp at this
    dsimp only
    rw [this, if_pos h]; rfl
  rw [if_neg h]
  refine bq_step (fun h => ?_) (fun h => ?_)
  · have := hop_is (c := c) (d := d) (by omega)
    unfold stp at this
    dsimp only
    rw [this, if_pos h]; rfl
  rw [if_neg h]
  refine bq_step (fun h => ?_) (fun h => ?_)
  · have := update_is (c := c) (ty := ty) (at_ := at_) (d := d) hc hd
    unfold stp at this
    rw [this, if_pos h]; rfl
  · rw [if_neg h]
end Go.VP
set_option linter.unusedVariables false
set_option linter.unusedSimpArgs false
set_option maxRecDepth 100000
namespace Go.VP
open Go Go.VI
theorem okC_none : okC ⟨[], [], [], [], [], [], []⟩ := ⟨rfl, .inl rfl, .inl rfl, .inl rfl, .inl rfl, .inl rfl, .inl rfl⟩
theorem okC_id {c : Ctx} {d : Bs} (h : okC c) : okC (idF c d).1 := by
  unfold idF
  cases hk : (countF d 10).1 with
  | false => rw [if_neg (by simp)]; exact h
  | true =>
    have := countF_known hk
    rw [if_pos rfl]
    obtain ⟨h0, h1, h2, h3, h4, h5, h6⟩ := h
    refine ⟨h0, h1, h2, h3, h4, h5, .inr ?_⟩
    have hl := cut_length (s := d) (p := 2) (n := 8) (by omega) (by omega) (by omega)
    show (cut_ d 2 8).length = 8
    omega
theorem okC_hop {c : Ctx} {d : Bs} (h : okC c) : okC (hopF c d).1 := by
  unfold hopF
  split
  · exact h
  split
  · exact h
  rename_i h2 hr
  cases hk : (countF d (2 + hopN (bt d 0))).1 with
  | false => rw [if_neg (by simp)]; exact h
  | true =>
    have hl := countF_known hk
    rw [if_pos rfl]
    obtain ⟨h0, h1, h2, h3, h4, h5, h6⟩ := h
    have hn := hopN_rng (bt d 0)
    have hc := cut_length (s := d) (p := 2) (n := hopN (bt d 0)) (by omega) (by omega) (by omega)
    have hv : bt d 0 = 1 ∨ bt d 0 = 2 ∨ bt d 0 = 3 := by omega
    have hlong : bt d 0 = 3 → (longF (cut_ d 2 (hopN (bt d 0)))).1.length = 16 := fun e => by
      have h8 : hopN (bt d 0) = 8 := by rw [e]; rfl
      rw [h8] at hc ⊢
      unfold longF
      rw [if_pos (by omega), List.length_append]
      show 8 + (cut_ d 2 8).length = 16
      omega
    refine ⟨h0, h1, h2, h3, ?_, ?_, h6⟩
    · show (if famE (bt d 0) = 0 then hopA d else c.next_c0) = [] ∨ (if famE (bt d 0) = 0 then hopA d else c.next_c0).length = 4
      rcases hv with e | e | e
      · rw [if_pos (by rw [e]; rfl)]
        right
        unfold hopA
        rw [if_neg (by omega)]
        have : hopN (bt d 0) = 4 := by rw [e]; rfl
        omega
      · rw [if_neg (by rw [e]; decide)]; exact h4
      · rw [if_neg (by rw [e]; decide)]; exact h4
    · show (if famE (bt d 0) = 1 then hopA d else c.next_c1) = [] ∨ (if famE (bt d 0) = 1 then hopA d else c.next_c1).length = 16
      rcases hv with e | e | e
      · rw [if_neg (by rw [e]; decide)]; exact h5
      · rw [if_pos (by rw [e]; rfl)]
        right
        unfold hopA
        rw [if_neg (by omega)]
        have : hopN (bt d 0) = 16 := by rw [e]; rfl
        omega
      · rw [if_pos (by rw [e]; rfl)]
        right
        unfold hopA
        rw [if_pos e]
        exact hlong e
theorem addrF_link {c : Ctx} {r : Raw} (hc : okC c) (hr : RawOk r) (h : (addrF c r).2 = true) (h3 : r.ae = 3) : linkB (addrF c r).1 = true := by
  have hl := hr.len
  have ho := hr.om
  have hlow := hr.low
  have hbs := baseA_rng r.ae
  have s3 : szA r.ae - baseA r.ae = 8 := by rw [h3]; rfl
  have hp : 64 ≤ r.plen := by rw [h3] at hlow; exact hlow
  unfold addrF at h ⊢
  by_cases h0 : r.omitted = 0
  · rw [if_pos h0, h3]; exact wholeF_link hp (by omega)
  · rw [if_neg h0] at h ⊢
    by_cases he : preC c r.ae = []
    · rw [if_pos he] at h; cases h
    · rw [if_neg he]
      have hpl := preC_len hc hr.ae he
      have hcl : ((cut_ (preC c r.ae) (baseA r.ae) r.omitted).length : Int) = r.omitted := cut_length (by omega) ho (by omega)
      rw [h3] at hcl ⊢
      exact wholeF_link hp (by rw [List.length_append]; omega)
theorem okC_flags {c : Ctx} {r : Raw} {a : Bs} (h : okC c) (hr : RawOk r) (hl : (a.length : Int) = szA r.ae) (h3 : r.ae = 3 → linkB a = true) : okC (flagsF c r a) := by
  unfold flagsF
  split
  · exact h
  rename_i a0
  have hae := hr.ae
  have hid : okC (setId c (if r.flags / 64 % 2 = 1 then (flagsF.z4' ++ a).drop (a.length - 4) else c.id)) ∧ ((if r.flags / 64 % 2 = 1 then (flagsF.z4' ++ a).drop (a.length - 4) else c.id) = [] ∨ (if r.flags / 64 % 2 = 1 then (flagsF.z4' ++ a).drop (a.length - 4) else c.id).length = 8) := by
    have h4 : 4 ≤ a.length := by
      rcases ae_cases hae with e | e | e | e
      · exact absurd e a0
      · rw [e] at hl; have : szA 1 = 4 := rfl; omega
      · rw [e] at hl; have : szA 2 = 16 := rfl; omega
      · rw [e] at hl; have : szA 3 = 16 := rfl; omega
    have h8 : (if r.flags / 64 % 2 = 1 then (flagsF.z4' ++ a).drop (a.length - 4) else c.id) = [] ∨ (if r.flags / 64 % 2 = 1 then (flagsF.z4' ++ a).drop (a.length - 4) else c.id).length = 8 := by
      split
      · right; rw [List.length_drop, List.length_append]; show 4 + a.length - (a.length - 4) = 8; omega
      · exact h.2.2.2.2.2.2
    obtain ⟨h0, h1, h2, h3, h4, h5, h6⟩ := h
    exact ⟨⟨h0, h1, h2, h3, h4, h5, h8⟩, h8⟩
  obtain ⟨h0, h1, h2, h3', h4, h5, h6⟩ := h
  dsimp only
  split
  · refine ⟨?_, ?_, ?_, ?_, h4, h5, hid.2⟩
    · exact h0
    · show (if r.ae = 1 then a else c.prefix_c1) = [] ∨ (if r.ae = 1 then a else c.prefix_c1).length = 4
      split
      · rename_i e; rw [e] at hl; have : szA 1 = 4 := rfl; right; omega
      · exact h1
    · show (if r.ae = 2 then a else c.prefix_c2) = [] ∨ (if r.ae = 2 then a else c.prefix_c2).length = 16
      split
      · rename_i e; rw [e] at hl; have : szA 2 = 16 := rfl; right; omega
      · exact h2
    · show (if r.ae = 3 then a else c.prefix_c3) = [] ∨ linkB (if r.ae = 3 then a else c.prefix_c3) = true
      split
      · rename_i e; exact .inr (h3 e)
      · exact h3'
  · exact hid.1
theorem okC_upd {c : Ctx} {d : Bs} (h : okC c) : okC (updF c d).1 := by
  unfold updF
  split
  · rename_i ht
    obtain ⟨hr, _⟩ := takeG_raw ht
    split
    · rename_i ha
      have := okC_flags h hr (addrF_len h hr ha) (addrF_link h hr ha)
      split <;> exact this
    · exact h
  · exact h
theorem okC_step {c : Ctx} {ty : Int} {d : Bs} (h : okC c) : okC (stepC c ty d).1 := by
  unfold stepC
  split
  · exact okC_id h
  split
  · exact okC_hop h
  split
  · exact okC_upd h
  · exact h
end Go.VP
set_option linter.unusedVariables false
set_option linter.unusedSimpArgs false
set_option maxRecDepth 100000
namespace Go.VP
open Go Go.VI
def opaqueM (ty : Int) (d : Bs) : Msg := ⟨14, 0, 0, [], 0, 0, [], 0, 0, [], 0, [], 0, 0, 0, 0, 0, 0, 0, [], [], [], ty, d, []⟩
def resF (c : Ctx) (x : Msg × Bool × Int) : Ctx × List Msg × Int := if x.2.2 ≠ 0 then (c, [], x.2.2) else if x.2.1 = true then (c, [x.1], 0) else (c, [], 0)
theorem res_is (c : Ctx) (x : Msg × Bool × Int) : (if (x.2.2 != 0) = true then (some ((c, [], x.2.2, ()), ()) : Option ((Ctx × List Msg × Int × Unit) × Unit)) else (if (!x.2.1) = true then some ((c, [], x.2.2, ()), ()) else some ((c, [x.1], 0, ()), ()))) = some (((resF c x).1, (resF c x).2.1, (resF c x).2.2, ()), ()) := by
  obtain ⟨m, k, e⟩ := x
  unfold resF
  dsimp only
  refine ne_step (fun h => by rw [if_pos h]) (fun h => ?_)
  rw [if_neg (show ¬ e ≠ 0 from fun q => q h)]
  cases k with
  | false => rw [ifnf, if_neg (by simp), h]
  | true => rw [ifnt, if_pos rfl]
def oneR (c : Ctx) (ty : Int) (d : Bs) : Ctx × List Msg × Int :=
  if ty = 0 ∨ ty = 1 then (c, [], 0) else if ty = 6 ∨ ty = 7 ∨ ty = 8 then stepC c ty d
  else if 2 ≤ ty ∧ ty ≤ 5 then resF c (fieldG ty d) else if ty = 9 ∨ ty = 10 then resF c (routeG ty d) else (c, [opaqueM ty d], 0)
theorem one_is {c : Ctx} {ty at_ : Int} {d : Bs} (hc : okC c) (hd : d.length ≤ 1000) : g_intake_one (c, ⟨ty, at_, d⟩, ()) = some (((oneR c ty d).1, (oneR c ty d).2.1, (oneR c ty d).2.2, ()), ()) := by
  have hcases : ty = 0 ∨ ty = 1 ∨ ty = 2 ∨ ty = 3 ∨ ty = 4 ∨ ty = 5 ∨ ty = 6 ∨ ty = 7 ∨ ty = 8 ∨ ty = 9 ∨ ty = 10 ∨ (ty ≠ 0 ∧ ty ≠ 1 ∧ ty ≠ 2 ∧ ty ≠ 3 ∧ ty ≠ 4 ∧ ty ≠ 5 ∧ ty ≠ 6 ∧ ty ≠ 7 ∧ ty ≠ 8 ∧ ty ≠ 9 ∧ ty ≠ 10) := by omega
  rw [g_intake_one_eq]
  dsimp only
  rcases hcases with rfl | rfl | rfl | rfl | rfl | rfl | rfl | rfl | rfl | rfl | rfl | ⟨h0, h1, h2, h3, h4, h5, h6, h7, h8, h9, h10⟩
  · rfl
  · rfl
  · simp only [Int.reduceBEq, Bool.false_eq_true, if_false, if_true]
    rw [getF_is hd (by decide), Option.bind_some]
    exact res_is c _
  · simp only [Int.reduceBEq, Bool.false_eq_true, if_false, if_true]
    rw [getF_is hd (by decide), Option.bind_some]
    exact res_is c _
  · simp only [Int.reduceBEq, Bool.false_eq_true, if_false, if_true]
    rw [getF_is hd (by decide), Option.bind_some]
    exact res_is c _
  · simp only [Int.reduceBEq, Bool.false_eq_true, if_false, if_true]
    rw [getF_is hd (by decide), Option.bind_some]
    exact res_is c _
  · simp only [Int.reduceBEq, Bool.false_eq_true, if_false, if_true]
    rw [cstep_is hc hd, Option.bind_some]; rfl
  · simp only [Int.reduceBEq, Bool.false_eq_true, if_false, if_true]
    rw [cstep_is hc hd, Option.bind_some]; rfl
  · simp only [Int.reduceBEq, Bool.false_eq_true, if_false, if_true]
    rw [cstep_is hc hd, Option.bind_some]; rfl
  · simp only [Int.reduceBEq, Bool.false_eq_true, if_false, if_true]
    rw [getR_is hd (by decide), Option.bind_some]
    exact res_is c _
  · simp only [Int.reduceBEq, Bool.false_eq_true, if_false, if_true]
    rw [getR_is hd (by decide), Option.bind_some]
    exact res_is c _
  · have e : ∀ k : Int, ty ≠ k → (ty == k) = false := fun k h => by simpa using h
    simp only [e _ h0, e _ h1, e _ h2, e _ h3, e _ h4, e _ h5, e _ h6, e _ h7, e _ h8, e _ h9, e _ h10, Bool.false_eq_true, if_false]
    unfold oneR
    rw [if_neg (by omega), if_neg (by omega), if_neg (by omega), if_neg (by omega)]; rfl
end Go.VP
set_option linter.unusedVariables false
set_option linter.unusedSimpArgs false
set_option maxRecDepth 100000
namespace Go.VP
open Go Go.VI
theorem resF_cl (c : Ctx) (x : Msg × Bool × Int) : (resF c x).1 = c ∧ (resF c x).2.1.length ≤ 1 := by
  unfold resF; split
  · exact ⟨rfl, by simp⟩
  split <;> exact ⟨rfl, by simp⟩
theorem updF_len (c : Ctx) (d : Bs) : (updF c d).2.1.length ≤ 1 := by
  unfold updF; split
  · split
    · split <;> simp
    · simp
  · simp
theorem okC_one {c : Ctx} {ty : Int} {d : Bs} (h : okC c) : okC (oneR c ty d).1 ∧ (oneR c ty d).2.1.length ≤ 1 := by
  unfold oneR
  split
  · exact ⟨h, by simp⟩
  split
  · refine ⟨okC_step h, ?_⟩
    unfold stepC
    split
    · simp
    split
    · simp
    split
    · exact updF_len c d
    · simp
  split
  · have := resF_cl c (fieldG ty d); exact ⟨by rw [this.1]; exact h, this.2⟩
  split
  · have := resF_cl c (routeG ty d); exact ⟨by rw [this.1]; exact h, this.2⟩
  · exact ⟨h, by simp⟩
def c0 : Ctx := ⟨[], [], [], [], [], [], []⟩
def foldR : Ctx → List Tlv → List Msg → List Msg × Ctx × Int × Int
  | c, [], acc => (acc, c, 0, 0)
  | c, t :: r, acc => if (oneR c t.type_ t.data).2.2 ≠ 0 then ([], c0, t.at_, (oneR c t.type_ t.data).2.2) else foldR (oneR c t.type_ t.data).1 r (acc ++ (oneR c t.type_ t.data).2.1)
theorem msgBo2 : bo_api_Msg ≤ 100000 := Nat.le_of_ble_eq_true (by kernel_rfl)
theorem fold_loop {n : Nat} {l : List Tlv} (hl : l.length ≤ 100000) (hd : ∀ t ∈ l, t.data.length ≤ 1000) : ∀ (k m i : Nat) (c : Ctx) (acc : List Msg), i + k = l.length → k < m → okC c → acc.length ≤ i →
    L_intake_Fold_0 n m l acc c.prefix_c0 c.prefix_c1 c.prefix_c2 c.prefix_c3 c.next_c0 c.next_c1 c.id i = some (((foldR c (l.drop i) acc).1, (foldR c (l.drop i) acc).2.1, (foldR c (l.drop i) acc).2.2.1, (foldR c (l.drop i) acc).2.2.2, ()), ()) := by
  intro k
  induction k with
  | zero =>
    intro m i c acc h hm hc ha
    obtain ⟨m, rfl⟩ : ∃ k, m = k + 1 := ⟨m - 1, by omega⟩
    rw [L_intake_Fold_0_eq, ifn (by omega), List.drop_eq_nil_of_le (by omega)]; rfl
  | succ k ih =>
    intro m i c acc h hm hc ha
    obtain ⟨m, rfl⟩ : ∃ k, m = k + 1 := ⟨m - 1, by omega⟩
    have hi : i < l.length := by omega
    have h1 := one_is (at_ := l[i].at_) (ty := l[i].type_) hc (hd _ (List.getElem_mem hi))
    obtain ⟨o1, o2⟩ := okC_one (ty := l[i].type_) (d := l[i].data) hc
    have := ih m (i + 1) _ (acc ++ (oneR c l[i].type_ l[i].data).2.1) (by omega) (by omega) o1 (by rw [List.length_append]; omega)
    rw [show ((i + 1 : Nat) : Int) = (i : Int) + 1 by omega] at this
    have hp : 0 ≤ (i : Int) := by omega
    have hbo := msgBo2
    rw [L_intake_Fold_0_eq, ifd (by omega), if_pos hp, Int.toNat_natCast, bind_at hi, List.drop_eq_getElem_cons hi, foldR]
    rw [show (S_api_Ctx.mk c.prefix_c0 c.prefix_c1 c.prefix_c2 c.prefix_c3 c.next_c0 c.next_c1 c.id) = c from rfl, h1, Option.bind_some]
    dsimp only
    refine ne_step (fun he => ?_) (fun he => ?_)
    · rw [if_pos hp, bind_at hi, if_pos he]; rfl
    · rw [if_pos (roomB_of (Nat.le_trans (Nat.mul_le_mul (show acc.length + (oneR c l[i].type_ l[i].data).2.1.length ≤ 100001 by omega) hbo) (by decide))), w64 (by omega) (by omega), this, if_neg (fun q => q he)]
theorem okC_c0 : okC c0 := okC_none
theorem fold_is {l : List Tlv} (hl : l.length ≤ 100000) (hd : ∀ t ∈ l, t.data.length ≤ 1000) : g_intake_Fold (l, ()) = some (((foldR c0 l []).1, (foldR c0 l []).2.1, (foldR c0 l []).2.2.1, (foldR c0 l []).2.2.2, ()), ()) := by
  show h_intake_Fold fuel (l, ()) = _
  rw [h_intake_Fold_eq]
  exact fold_loop (n := fuel) hl hd l.length fuel 0 c0 [] (by omega) (fuel_ge (by omega)) okC_c0 (by simp)
end Go.VP
set_option linter.unusedVariables false
set_option linter.unusedSimpArgs false
set_option maxRecDepth 100000
namespace Go.VP
open Go Go.VI
theorem foldR_err : ∀ (a : List Tlv) (c : Ctx) (acc : List Msg), (foldR c a acc).2.2.2 ≠ 0 → (foldR c a acc).1 = [] ∧ (foldR c a acc).2.1 = c0
  | [], c, acc, h => absurd rfl h
  | t :: r, c, acc, h => by
    rw [foldR] at h ⊢
    by_cases he : (oneR c t.type_ t.data).2.2 ≠ 0
    · rw [if_pos he]; exact ⟨rfl, rfl⟩
    · rw [if_neg he] at h ⊢
      exact foldR_err r _ _ h
theorem foldR_fine : ∀ (a : List Tlv) (c : Ctx) (acc : List Msg), (foldR c a acc).2.2.2 = 0 → (foldR c a acc).2.2.1 = 0
  | [], c, acc, h => rfl
  | t :: r, c, acc, h => by
    rw [foldR] at h ⊢
    by_cases he : (oneR c t.type_ t.data).2.2 ≠ 0
    · rw [if_pos he] at h; exact absurd h he
    · rw [if_neg he] at h ⊢
      exact foldR_fine r _ _ h
theorem foldR_len : ∀ (a : List Tlv) (c : Ctx) (acc : List Msg), okC c → (foldR c a acc).1.length ≤ acc.length + a.length ∧ okC (foldR c a acc).2.1
  | [], c, acc, hc => ⟨by show acc.length ≤ _; omega, hc⟩
  | t :: r, c, acc, hc => by
    rw [foldR]
    obtain ⟨h1, h2⟩ := okC_one (ty := t.type_) (d := t.data) hc
    by_cases he : (oneR c t.type_ t.data).2.2 ≠ 0
    · rw [if_pos he]; exact ⟨by simp, okC_c0⟩
    · rw [if_neg he]
      obtain ⟨h3, h4⟩ := foldR_len r _ (acc ++ (oneR c t.type_ t.data).2.1) h1
      exact ⟨by simp only [List.length_append, List.length_cons] at h3 ⊢; omega, h4⟩
theorem foldR_all {P : Msg → Prop} {Q : Tlv → Prop} (hP : ∀ c t, okC c → Q t → ∀ m ∈ (oneR c t.type_ t.data).2.1, P m) : ∀ (a : List Tlv) (c : Ctx) (acc : List Msg), okC c → (∀ t ∈ a, Q t) → (∀ m ∈ acc, P m) → ∀ m ∈ (foldR c a acc).1, P m
  | [], c, acc, hc, hq, h => h
  | t :: r, c, acc, hc, hq, h => by
    rw [foldR]
    obtain ⟨h1, h2⟩ := okC_one (ty := t.type_) (d := t.data) hc
    by_cases he : (oneR c t.type_ t.data).2.2 ≠ 0
    · rw [if_pos he]; intro m hm; cases hm
    · rw [if_neg he]
      refine foldR_all hP r _ _ h1 (fun x hx => hq x (List.mem_cons_of_mem _ hx)) (fun m hm => ?_)
      rcases List.mem_append.1 hm with hm | hm
      · exact h m hm
      · exact hP _ _ hc (hq t (List.mem_cons_self ..)) m hm
def Except.app (x : Except Int (List Tlv)) (a : List Tlv) : Except Int (List Tlv) := x.map (a ++ ·)
end Go.VP
set_option linter.unusedVariables false
set_option linter.unusedSimpArgs false
set_option maxRecDepth 100000
namespace Go.VP
open Go Go.VI
structure UpdR (m : Msg) : Prop where
  kind : m.kind = 11
  bare : bareB m = true
  subs : rightB m.subs = true
  inn : inB m.ae m.prefix_ m.plen = true
  iv : 0 ≤ m.interval ∧ m.interval < 65536
  sq : 0 ≤ m.seq ∧ m.seq < 65536
  me : 0 ≤ m.metric ∧ m.metric < 65536
  far : m.metric = 65535 → m.id = [] ∧ m.next = []
  near : m.metric ≠ 65535 → 0 < m.ae ∧ m.id.length = 8 ∧ (m.next = [] ∨ famF m.next = famE m.ae)
def tailB (m : Msg) : Bool := if m.metric = 65535 then (m.id == [] && m.next == []) else decide (0 < m.ae) && (decide (m.id.length = 8) && (m.next == [] || decide (famF m.next = famE m.ae)))
noncomputable def updB (m : Msg) : Bool := decide (m.kind = 11) && (bareB m && (rightB m.subs && (inB m.ae m.prefix_ m.plen && (fitsB m.interval 2 && (fitsB m.seq 2 && (fitsB m.metric 2 && tailB m))))))
theorem updR_iff {m : Msg} : updB m = true ↔ UpdR m := by
  unfold updB tailB
  simp only [Bool.and_eq_true, decide_eq_true_eq, fitsB2]
  constructor
  · rintro ⟨a, b, c, d, e, f, g, h⟩
    refine ⟨a, b, c, d, e, f, g, fun hm => ?_, fun hm => ?_⟩
    · rw [if_pos hm] at h; simpa using h
    · rw [if_neg hm] at h; simpa using h
  · intro h
    refine ⟨h.1, h.2, h.3, h.4, h.5, h.6, h.7, ?_⟩
    by_cases hm : m.metric = 65535
    · rw [if_pos hm]; simpa using h.far hm
    · rw [if_neg hm]; simpa using h.near hm
def mk12 (ae : Int) (a : Bs) (plen : Int) : Msg := ⟨12, 0, 0, [], 0, ae, a, plen, 0, [], 0, [], 0, 0, 0, 0, 0, 0, 0, [], [], [], 0, [], []⟩
theorem UpdR.asR {m : Msg} (h : UpdR m) : RouteR (mk12 m.ae m.prefix_ m.plen) := by
  obtain ⟨a, b, c, d, e⟩ := inB_iff.1 h.inn
  have hb : bareOf (mk12 m.ae m.prefix_ m.plen) = some (mk12 m.ae m.prefix_ m.plen) := rfl
  exact ⟨by rw [bareB, hb]; exact eqB_refl _, rfl, a, b, c, d, e, rfl⟩
theorem UpdR.pre {m : Msg} (h : UpdR m) : (0 ≤ m.ae ∧ m.ae < 4) ∧ (0 ≤ m.plen ∧ m.plen ≤ 128) ∧ ((bytesP m).length : Int) = leastF m.plen - baseA m.ae ∧ (bytesP m).length ≤ 16 ∧ (0 ≤ baseA m.ae ∧ baseA m.ae ≤ 8) ∧ m.prefix_.length ≤ 16 := by
  have r := h.asR
  have hc : ((bytesP m).length : Int) = leastF m.plen - baseA m.ae := r.cut.2
  obtain ⟨l1, l2, l3, l4, l5, l6⟩ := least_base r.ae r.plen
  have hl : (m.prefix_.length : Int) = szA m.ae := r.len
  have hb := baseA_rng m.ae
  dsimp only [mk12] at l1 l2 l3 l4 l5 l6
  exact ⟨r.ae, ⟨l4, l5⟩, hc, by omega, hb, by omega⟩
def nextC (c : Ctx) (f : Int) : Bs := if f = 0 then c.next_c0 else c.next_c1
theorem famF_cases {a : Bs} {f : Int} (hf : famF a = f) (h : f = 0 ∨ f = 1) : (f = 0 ∧ a.length = 4) ∨ (f = 1 ∧ a.length = 16) := by
  unfold famF at hf
  split at hf
  · exact .inl ⟨hf.symm, by assumption⟩
  split at hf
  · exact .inr ⟨hf.symm, by assumption⟩
  · omega
end Go.VP
set_option linter.unusedVariables false
set_option linter.unusedSimpArgs false
set_option maxRecDepth 100000
namespace Go.VP
open Go Go.VI
structure OpqR (m : Msg) : Prop where
  kind : m.kind = 14
  bare : bareB m = true
  ty : 10 < m.type_ ∧ m.type_ < 256
  len : m.data.length < 256
inductive LeanR (m : Msg) : Prop
  | field (h : FieldR m)
  | route (h : RouteR m)
  | upd (h : UpdR m)
  | opq (h : OpqR m)
structure GoodL (m : Msg) : Prop where
  good : GoodM m
  ty : IntKind.has .i64 m.type_
  metric : IntKind.has .i64 m.metric
theorem takeG_subs {d : Bs} (h : (takeG d).1.have_ = 1) (hk : (takeG d).2.1 = true) : AllR (takeG d).1.subs ∧ sumN (takeG d).1.subs ≤ 200 ∧ (takeG d).1.subs.length ≤ d.length ∧ 10 + sumN (takeG d).1.subs ≤ d.length ∧ (0 ≤ (takeG d).1.interval ∧ (takeG d).1.interval < 65536) ∧ (0 ≤ (takeG d).1.seq ∧ (takeG d).1.seq < 65536) ∧ (0 ≤ (takeG d).1.plen ∧ (takeG d).1.plen ≤ highA (takeG d).1.ae) := by
  have b0 := bt_rng d 0
  have b2 := bt_rng d 2
  unfold takeG at h hk ⊢
  split at hk
  · cases hk
  rename_i h1
  split at hk
  · cases hk
  rename_i h2
  rw [if_neg h1, if_neg h2] at h ⊢
  dsimp only at h hk ⊢
  split at hk
  · cases hk
  rename_i h3
  split at hk
  · cases hk
  rename_i h4
  rw [if_neg h3, if_neg h4] at h ⊢
  dsimp only at h ⊢
  have h3' : (preF d 10 (bt d 0) (bt d 2) (bt d 3)).2 = 0 := by simpa using h3
  have hrest : 0 ≤ restN (bt d 0) (bt d 2) (bt d 3) := by
    unfold preF at h3'
    split at h3'
    · cases h3'
    · omega
  have hg : greatB (bt d 0) (bt d 2) = false := by
    unfold preF at h3'
    split at h3'
    · cases h3'
    · rename_i q; cases e : greatB (bt d 0) (bt d 2) with
      | false => rfl
      | true => exact absurd (.inl e) q
  have hp : lowA (bt d 0) ≤ bt d 2 ∧ bt d 2 ≤ highA (bt d 0) := by unfold greatB at hg; simpa using hg
  rcases getS_cases (d.drop (10 + restN (bt d 0) (bt d 2) (bt d 3)).toNat) with ⟨l, e, q1, q2, q3, q4⟩ | ⟨l, e⟩ | ⟨x, e, q⟩
  · rw [e] at h ⊢
    rw [List.length_drop] at q3 q4
    exact ⟨q1, q2, by dsimp only; omega, by dsimp only; omega, num_cut_rng (by omega) (by omega), num_cut_rng (by omega) (by omega), by omega, hp.2⟩
  · rw [e] at h; cases h
  · rw [e] at h4; exact absurd q h4
theorem updF_cases {c : Ctx} {d : Bs} (hc : okC c) (hd : d.length ≤ 900) : (updF c d).2.1 = [] ∨ ∃ m, (updF c d).2.1 = [m] ∧ UpdR m ∧ GoodL m ∧ sumN m.subs + 10 ≤ d.length ∧ (updF c d).2.2 = 0 ∧ (m.metric ≠ 65535 → (updF c d).1.id = m.id ∧ nextC (updF c d).1 (famE m.ae) = m.next) := by
  unfold updF
  split
  rotate_left
  · exact .inl rfl
  rename_i ht
  split
  rotate_left
  · exact .inl rfl
  rename_i ha
  split
  rotate_left
  · exact .inl rfl
  rename_i hto
  obtain ⟨hr, h0⟩ := takeG_raw ht
  have hl := addrF_len hc hr ha
  have hk := addrF_link hc hr ha
  have h1 : (takeG d).1.have_ = 1 := by
    unfold toldB at hto; simp at hto; exact hto.1
  obtain ⟨s1, s2, s3, s4, s5, s6, s7⟩ := takeG_subs h1 ht
  have hclean : keepF (addrF c (takeG d).1).1 (takeG d).1.plen = (addrF c (takeG d).1).1 := by
    unfold addrF at ha ⊢
    split
    · unfold wholeF; exact keepF_idem _ _
    · rename_i q; rw [if_neg q] at ha
      split
      · rename_i q2; rw [if_pos q2] at ha; cases ha
      · unfold wholeF; exact keepF_idem _ _
  have hok := okC_flags hc hr hl hk
  have hlow := hr.low
  have hsub2 := sub_len (l := (takeG d).1.subs)
  generalize (takeG d).1 = r at *
  generalize (addrF c r).1 = a at *
  have hae := hr.ae
  have hme := hr.metric
  have hsz : szA r.ae ≤ 16 := by unfold szA; split <;> (try split) <;> (try split) <;> omega
  have hmu : (updM (flagsF c r a) r a).metric = r.metric := rfl
  have hhi : highA r.ae ≤ 128 := by unfold highA; split <;> (try split) <;> (try split) <;> omega
  generalize hfc : flagsF c r a = F at *
  have hFid : r.metric ≠ 65535 → F.id.length = 8 ∧ 0 < r.ae := fun hm => by
    unfold toldB at hto
    simp [h1, hm] at hto
    rcases hok.2.2.2.2.2.2 with q | q
    · exact absurd q hto.2
    · exact ⟨q, hto.1⟩
  have hFn : r.metric ≠ 65535 → nextC F (famE r.ae) = [] ∨ famF (nextC F (famE r.ae)) = famE r.ae := fun hm => by
    have hp := (hFid hm).2
    have hf := famE_rng (ae := r.ae) (by omega)
    unfold nextC
    by_cases f0 : famE r.ae = 0
    · rw [if_pos f0, f0]
      rcases hok.2.2.2.2.1 with q | q
      · exact .inl q
      · right; unfold famF; rw [if_pos q]
    · rw [if_neg f0, show famE r.ae = 1 by omega]
      rcases hok.2.2.2.2.2.1 with q | q
      · exact .inl q
      · right; unfold famF; rw [if_neg (by omega), if_pos q]
  have e0 : ([] : Bs).length ≤ 400 := by decide
  have n0 : ([] : List Dest).length ≤ 1000 := by decide
  have has0 : IntKind.has .i64 0 := has64.2 (by omega)
  have hnl : (if r.metric = 65535 then ([] : Bs) else (if famE r.ae = 0 then F.next_c0 else F.next_c1)).length ≤ 400 := by
    split
    · exact e0
    · have := hok.2.2.2.2.1; have := hok.2.2.2.2.2.1
      split
      · rcases hok.2.2.2.2.1 with q | q
        · rw [q]; exact e0
        · omega
      · rcases hok.2.2.2.2.2.1 with q | q
        · rw [q]; exact e0
        · omega
  have hil : (if r.metric = 65535 then ([] : Bs) else F.id).length ≤ 400 := by
    split
    · exact e0
    · rcases hok.2.2.2.2.2.2 with q | q
      · rw [q]; exact e0
      · omega
  refine .inr ⟨updM F r a, rfl, ⟨rfl, ?_, rightB_of s1 s2, ?_, s5, s6, by rw [hmu]; omega, fun hm => ?_, fun hm => ?_⟩, ⟨⟨⟨n0, by show r.subs.length ≤ 1000; omega, e0, by show a.length ≤ 400; omega, hnl, hil, e0, e0, e0, (fun d h => by cases h), s1.few⟩, has0, has64.2 (by show _ ≤ r.interval ∧ r.interval ≤ _; omega), has64.2 (by show _ ≤ r.seq ∧ r.seq ≤ _; omega), has0, has64.2 (by show _ ≤ (11 : Int) ∧ (11 : Int) ≤ _; omega), has0, has64.2 (by show _ ≤ r.ae ∧ r.ae ≤ _; omega), has64.2 (by show _ ≤ r.plen ∧ r.plen ≤ _; omega), has0⟩, has0, has64.2 (by rw [hmu]; omega)⟩, by show sumN r.subs + 10 ≤ _; omega, rfl, fun hm => ?_⟩
  · have : bareOf (updM F r a) = some (updM F r a) := rfl
    rw [bareB, this]; exact eqB_refl _
  · exact inB_iff.2 ⟨hae, hl, ⟨hlow, s7.2⟩, hclean, hk⟩
  · have hm' : r.metric = 65535 := hm
    show (if r.metric = 65535 then [] else F.id) = [] ∧ (if r.metric = 65535 then [] else _) = []
    rw [if_pos hm', if_pos hm']; exact ⟨rfl, rfl⟩
  · have hm' : r.metric ≠ 65535 := hm
    show 0 < r.ae ∧ (if r.metric = 65535 then [] else F.id).length = 8 ∧ ((if r.metric = 65535 then [] else nextC F (famE r.ae)) = [] ∨ famF (if r.metric = 65535 then [] else nextC F (famE r.ae)) = famE r.ae)
    rw [if_neg hm', if_neg hm']
    exact ⟨(hFid hm').2, (hFid hm').1, hFn hm'⟩
  · have hm' : r.metric ≠ 65535 := hm
    show F.id = (if r.metric = 65535 then [] else F.id) ∧ nextC F (famE r.ae) = (if r.metric = 65535 then [] else nextC F (famE r.ae))
    rw [if_neg hm', if_neg hm']
    exact ⟨rfl, rfl⟩
end Go.VP
set_option linter.unusedVariables false
set_option linter.unusedSimpArgs false
set_option maxRecDepth 100000
namespace Go.VP
open Go Go.VI
def sizeB (b : Bs) : Int := bt b 2 * 256 + bt b 3
def bodyF (b : Bs) : Bs × Int × Int :=
  if 65535 < (b.length : Int) then ([], 65535, 10) else if (b.length : Int) < 4 then ([], b.length, 2)
  else if bt b 0 ≠ 42 then ([], 0, 4) else if bt b 1 ≠ 2 then ([], 1, 4)
  else if (b.length : Int) < 4 + sizeB b then ([], b.length, 2) else (cut_ b 4 (sizeB b), 0, 0)
theorem dq_body {R : Type} {p : Prop} [Decidable p] {t f r : R} (h : p → t = r) (h' : ¬ p → f = r) : (if decide p = true then t else f) = r := by
  by_cases hp : p
  · rw [ifd hp]; exact h hp
  · rw [ifn hp]; exact h' hp
theorem size_is {b : Bs} (h : 4 ≤ b.length) : g_frame_size (b, ()) = some ((sizeB b, ()), ()) := by
  have h2 := bt_rng b 2
  have h3 := bt_rng b 3
  rw [g_frame_size_eq, get_bt (i := 2) (by omega), Option.bind_some, get_bt (i := 3) (by omega), Option.bind_some, w64n, w64n]
  show some ((ibits .or .i64 (ishl .i64 (bt b 2) 8) (bt b 3), ()), ()) = _
  rw [ib_or (by omega) (by omega)]; rfl
theorem sizeB_rng (b : Bs) : 0 ≤ sizeB b ∧ sizeB b ≤ 65535 := by
  have h2 := bt_rng b 2
  have h3 := bt_rng b 3
  unfold sizeB; omega
theorem body_is (b : Bs) : g_frame_Body (b, ()) = some (trip (bodyF b), ()) := by
  have hr := sizeB_rng b
  rw [g_frame_Body_eq]; unfold bodyF
  refine dq_body (fun h => by rw [if_pos h]) (fun h1 => ?_)
  rw [if_neg h1]
  refine dq_body (fun h => by rw [if_pos h]) (fun h2 => ?_)
  rw [if_neg h2, get_bt (i := 0) (by omega), Option.bind_some]
  refine ne_step (fun h => by rw [if_pos (show bt b 0 ≠ 42 from h)]) (fun h3 => ?_)
  rw [if_neg (show ¬ bt b 0 ≠ 42 from fun q => q h3), get_bt (i := 1) (by omega), Option.bind_some]
  refine ne_step (fun h => by rw [if_pos (show bt b 1 ≠ 2 from h)]) (fun h4 => ?_)
  rw [if_neg (show ¬ bt b 1 ≠ 2 from fun q => q h4), size_is (by omega), Option.bind_some]
  dsimp only
  rw [w64 (by omega) (by omega)]
  refine dq_body (fun h => by rw [if_pos h]) (fun h5 => ?_)
  rw [if_neg h5, Option.bind_some]
  dsimp only
  rw [w64 (by omega) (by omega), if_pos (by omega)]; rfl
theorem bodyF_ok {b : Bs} (h : (bodyF b).2.2 = 0) : 4 ≤ b.length ∧ b.length ≤ 65535 ∧ bt b 0 = 42 ∧ bt b 1 = 2 ∧ 4 + sizeB b ≤ b.length ∧ bodyF b = (cut_ b 4 (sizeB b), 0, 0) ∧ ((bodyF b).1.length : Int) = sizeB b := by
  have hr := sizeB_rng b
  unfold bodyF at h ⊢
  split at h
  · cases h
  split at h
  · cases h
  split at h
  · cases h
  split at h
  · cases h
  split at h
  · cases h
  rename_i h1 h2 h3 h4 h5
  rw [if_neg h1, if_neg h2, if_neg h3, if_neg h4, if_neg h5]
  exact ⟨by omega, by omega, by simpa using h3, by simpa using h4, by omega, rfl, cut_length (by omega) (by omega) (by omega)⟩
theorem bodyF_bad {b : Bs} (h : (bodyF b).2.2 ≠ 0) : (bodyF b).1 = [] ∧ 0 ≤ (bodyF b).2.1 ∧ (bodyF b).2.1 ≤ b.length := by
  unfold bodyF at h ⊢
  split
  · exact ⟨rfl, by dsimp only; omega, by dsimp only; omega⟩
  split
  · exact ⟨rfl, by dsimp only; omega, by dsimp only; omega⟩
  split
  · exact ⟨rfl, by dsimp only; omega, by dsimp only; omega⟩
  split
  · exact ⟨rfl, by dsimp only; omega, by dsimp only; omega⟩
  split
  · exact ⟨rfl, by dsimp only; omega, by dsimp only; omega⟩
  · rename_i h1 h2 h3 h4 h5
    rw [if_neg h1, if_neg h2, if_neg h3, if_neg h4, if_neg h5] at h
    exact absurd rfl h
def behF (b : Bs) : Bs := b.drop (4 + sizeB b).toNat
theorem trailer_is {b : Bs} (h : (bodyF b).2.2 = 0) : g_frame_Trailer (b, ()) = some ((behF b, ()), ()) := by
  have hr := sizeB_rng b
  obtain ⟨h1, h2, _, _, h5, _⟩ := bodyF_ok h
  rw [g_frame_Trailer_eq, size_is h1, Option.bind_some]
  dsimp only
  rw [w64 (by omega) (by omega), if_pos (by omega)]; rfl
end Go.VP
set_option linter.unusedVariables false
set_option linter.unusedSimpArgs false
set_option maxRecDepth 100000
namespace Go.VP
open Go Go.VI
def Tg (t : Tlv) : Prop := (0 ≤ t.type_ ∧ t.type_ ≤ 255) ∧ t.data.length ≤ 255
theorem GoodL.small {m : Msg} (g : GoodL m) : Small m := by
  have := g.good.few.list; have := g.good.few.subs; exact ⟨by omega, by omega⟩
theorem one_right {c : Ctx} {t : Tlv} (hc : okC c) (ht : Tg t) : ∀ m ∈ (oneR c t.type_ t.data).2.1, LeanR m ∧ GoodL m := by
  obtain ⟨ty, at_, d⟩ := t
  obtain ⟨ht, hd⟩ := ht
  have hd : d.length ≤ 255 := hd
  have ht : 0 ≤ ty ∧ ty ≤ 255 := ht
  have has0 : IntKind.has .i64 0 := has64.2 (by omega)
  have mt : ∀ m : Msg, FieldR m ∨ RouteR m → m.type_ = 0 ∧ m.metric = 0 := fun m h => by
    have key : ∀ x, bareB m = true → bareOf m = some x → x.type_ = 0 ∧ x.metric = 0 → m.type_ = 0 ∧ m.metric = 0 := fun x hb hx h0 => by
      rw [bareB, hx] at hb
      have := eqB_true.1 hb
      rw [← this]; exact h0
    rcases h with h | h
    · rcases h.kinds with hk | hk | ⟨hk, _⟩ | ⟨hk, _⟩
      · exact key _ h.bare (by unfold bareOf; rw [hk]; rfl) ⟨rfl, rfl⟩
      · exact key _ h.bare (by unfold bareOf; rw [hk]; rfl) ⟨rfl, rfl⟩
      · exact key _ h.bare (by unfold bareOf; rw [hk]; rfl) ⟨rfl, rfl⟩
      · exact key _ h.bare (by unfold bareOf; rw [hk]; rfl) ⟨rfl, rfl⟩
    · rcases h.kinds with hk | ⟨hk, _⟩
      · exact key _ h.bare (by unfold bareOf; rw [hk]; rfl) ⟨rfl, rfl⟩
      · exact key _ h.bare (by unfold bareOf; rw [hk]; rfl) ⟨rfl, rfl⟩
  intro m hm
  dsimp only at hm
  unfold oneR at hm
  split at hm
  · cases hm
  split at hm
  · unfold stepC at hm
    split at hm
    · cases hm
    split at hm
    · cases hm
    split at hm
    · rcases updF_cases (d := d) hc (by omega) with h | ⟨x, h, hu, hg, _⟩
      · rw [h] at hm; cases hm
      · rw [h, List.mem_singleton] at hm; subst hm; exact ⟨.upd hu, hg⟩
    · cases hm
  split at hm
  · rename_i h25
    rcases fieldG_cases (ty := ty) (d := d) h25 (by omega) with ⟨x, h, hr, hg, _⟩ | ⟨e, h⟩
    · rw [h] at hm
      have : m = x := by unfold resF at hm; simpa using hm
      subst this
      have := mt m (.inl hr)
      exact ⟨.field hr, ⟨hg, by rw [this.1]; exact has0, by rw [this.2]; exact has0⟩⟩
    · rw [h] at hm
      unfold resF at hm
      split at hm
      · cases hm
      · cases hm
  split at hm
  · rename_i h910
    rcases routeG_cases (ty := ty) (d := d) h910 (by omega) with ⟨x, h, hr, hg, _⟩ | ⟨e, h⟩
    · rw [h] at hm
      have : m = x := by unfold resF at hm; simpa using hm
      subst this
      have := mt m (.inr hr)
      exact ⟨.route hr, ⟨hg, by rw [this.1]; exact has0, by rw [this.2]; exact has0⟩⟩
    · rw [h] at hm
      unfold resF at hm
      split at hm
      · cases hm
      · cases hm
  · rw [List.mem_singleton] at hm
    subst hm
    have e0 : ([] : Bs).length ≤ 400 := by decide
    have n0 : ([] : List Dest).length ≤ 1000 := by decide
    have hb : bareOf (opaqueM ty d) = some (opaqueM ty d) := rfl
    refine ⟨.opq ⟨rfl, by rw [bareB, hb]; exact eqB_refl _, by show 10 < ty ∧ ty < 256; omega, by show d.length < 256; omega⟩, ⟨⟨⟨n0, by show 0 ≤ 1000; omega, e0, e0, e0, e0, e0, e0, by show d.length ≤ 400; omega, (fun d h => by cases h), (fun d h => by cases h)⟩, has0, has0, has0, has0, has64.2 (by show _ ≤ (14 : Int) ∧ (14 : Int) ≤ _; omega), has0, has0, has0, has0⟩, has64.2 (by show _ ≤ ty ∧ ty ≤ _; omega), has0⟩⟩
theorem fold_right {l : List Tlv} {c : Ctx} (hc : okC c) (hl : ∀ t ∈ l, Tg t) : ∀ m ∈ (foldR c l []).1, LeanR m ∧ GoodL m :=
  foldR_all (P := fun m => LeanR m ∧ GoodL m) (Q := Tg) (fun c t hc ht => one_right hc ht) l c [] hc hl (fun m hm => by cases hm)
theorem spl_tg (s : Bs) : ∀ (p : Int) (l : List Tlv), spl p s = .ok l → ∀ t ∈ l, Tg t := by
  induction h : s.length using Nat.strongRecOn generalizing s with
  | ind n ih =>
    intro p l hs
    subst h
    match s, hs with
    | [], hs => rw [spl_nil] at hs; cases hs; intro t ht; cases ht
    | t :: r, hs =>
      by_cases ht : t = 0
      · subst ht
        rw [spl_zero] at hs
        cases hr : spl (p + 1) r with
        | error q => rw [hr] at hs; cases hs
        | ok lr =>
          rw [hr] at hs; cases hs
          intro x hx
          rcases List.mem_cons.1 hx with rfl | hx
          · exact ⟨by show (0 : Int) ≤ 0 ∧ (0 : Int) ≤ 255; omega, by show 0 ≤ 255; omega⟩
          · exact ih r.length (by simp) r rfl _ lr hr x hx
      · match r, hs with
        | [], hs => rw [spl_one ht] at hs; cases hs
        | n :: d, hs =>
          by_cases hn : d.length < n.toNat
          · rw [spl_bad ht hn] at hs; cases hs
          · rw [spl_all ht (by omega)] at hs
            cases hr : spl (p + 2 + n.toNat) (d.drop n.toNat) with
            | error q => rw [hr] at hs; cases hs
            | ok lr =>
              rw [hr] at hs; cases hs
              intro x hx
              rcases List.mem_cons.1 hx with rfl | hx
              · have h1 := t.toNat_lt
                have h2 := n.toNat_lt
                refine ⟨by show (0 : Int) ≤ (t.toNat : Int) ∧ (t.toNat : Int) ≤ 255; omega, ?_⟩
                show (d.take n.toNat).length ≤ 255
                rw [List.length_take]; omega
              · exact ih (d.drop n.toNat).length (by simp; omega) (d.drop n.toNat) rfl _ lr hr x hx
def parseI (b : Bs) : List Msg × Int × Int :=
  if (bodyF b).2.2 ≠ 0 then ([], (bodyF b).2.1, (bodyF b).2.2)
  else match spl 4 (bodyF b).1 with
    | .error q => ([], q, 2)
    | .ok l => match spl (4 + ((bodyF b).1.length : Int)) (behF b) with
      | .error q => ([], q, 2)
      | .ok _ => ((foldR c0 l []).1, (foldR c0 l []).2.2.1, (foldR c0 l []).2.2.2)
theorem parse_core {b : Bs} {B : Option ((Bs × Int × Int × Unit) × Unit)} {S1 S2 : Bs → Int → Option ((List Tlv × Int × Int × Unit) × Unit)} {T : Option ((Bs × Unit) × Unit)} {F : List Tlv → Option ((List Msg × Ctx × Int × Int × Unit) × Unit)}
    (hB : B = some (trip (bodyF b), ())) (hS1 : ∀ s p, s.length ≤ 1000000000 → 0 ≤ p ∧ p ≤ 1152921504606846976 → S1 s p = some (trip (splOut [] (spl p s)), ())) (hS2 : ∀ s p, s.length ≤ 1000000000 → 0 ≤ p ∧ p ≤ 1152921504606846976 → S2 s p = some (trip (splOut [] (spl p s)), ()))
    (hT : (bodyF b).2.2 = 0 → T = some ((behF b, ()), ()))
    (hF : ∀ l : List Tlv, l.length ≤ 100000 → (∀ t ∈ l, t.data.length ≤ 1000) → F l = some (((foldR c0 l []).1, (foldR c0 l []).2.1, (foldR c0 l []).2.2.1, (foldR c0 l []).2.2.2, ()), ())) :
    (B.bind fun r1 => (if (r1.1.2.2.1 != 0) = true then (some (([], r1.1.2.1, r1.1.2.2.1, ()), ()) : Option ((List Msg × Int × Int × Unit) × Unit)) else ((S1 r1.1.1 4).bind fun r2 => (if (r2.1.2.2.1 != 0) = true then some (([], r2.1.2.1, r2.1.2.2.1, ()), ()) else (T.bind fun r3 => ((S2 r3.1.1 (IntKind.wrap .i64 (4 + (r1.1.1.length : Int)))).bind fun r4 => (if (r4.1.2.2.1 != 0) = true then some (([], r4.1.2.1, r4.1.2.2.1, ()), ()) else ((F r2.1.1).bind fun r5 => some ((r5.1.1, r5.1.2.2.1, r5.1.2.2.2.1, ()), ()))))))))) = some (trip (parseI b), ()) := by
  rw [hB, Option.bind_some]
  unfold parseI
  dsimp only [trip]
  refine ne_step (fun h => by rw [if_pos h]) (fun h => ?_)
  obtain ⟨l1, l2, _, _, l5, _, l7⟩ := bodyF_ok h
  have hr := sizeB_rng b
  have hbl : (behF b).length ≤ 100000 := by unfold behF; rw [List.length_drop]; omega
  have hsl : (bodyF b).1.length ≤ 65535 := by omega
  rw [if_neg (show ¬ (bodyF b).2.2 ≠ 0 from fun q => q h), hS1 _ _ (by omega) (by omega), Option.bind_some]
  cases h1 : spl 4 (bodyF b).1 with
  | error q => rfl
  | ok l =>
    have hk := spl_ok _ _ _ h1
    dsimp only [trip, splOut]
    refine ne_step (fun q => absurd rfl q) (fun _ => ?_)
    rw [hT h, Option.bind_some]
    dsimp only
    rw [w64 (by omega) (by omega), hS2 _ _ (by omega) (by omega), Option.bind_some]
    cases h2 : spl (4 + ((bodyF b).1.length : Int)) (behF b) with
    | error q => rfl
    | ok l2 =>
      dsimp only [trip, splOut]
      refine ne_step (fun q => absurd rfl q) (fun _ => ?_)
      rw [List.nil_append, hF l (by omega) (fun t ht => by have := hk.1 t ht; omega)]
      rfl
theorem iparse_is (b : Bs) : g_intake_Parse (b, ()) = some (trip (parseI b), ()) := by
  rw [g_intake_Parse_eq]
  exact parse_core (b := b) (S1 := fun s p => g_frame_Split (s, p, ())) (S2 := fun s p => g_frame_Split (s, p, ())) (F := fun l => g_intake_Fold (l, ())) (body_is b) (fun s p h h2 => split_is h h2) (fun s p h h2 => split_is h h2) (fun h => trailer_is h) (fun l h h2 => fold_is h h2)
theorem parseI_cases (b : Bs) : ((parseI b).2.2 ≠ 0 ∧ (parseI b).1 = []) ∨ ∃ l, (bodyF b).2.2 = 0 ∧ spl 4 (bodyF b).1 = .ok l ∧ (∃ k, spl (4 + ((bodyF b).1.length : Int)) (behF b) = .ok k) ∧ (foldR c0 l []).2.2.2 = 0 ∧ parseI b = ((foldR c0 l []).1, 0, 0) := by
  unfold parseI
  by_cases h : (bodyF b).2.2 ≠ 0
  · rw [if_pos h]; exact .inl ⟨h, rfl⟩
  rw [if_neg h]
  cases h1 : spl 4 (bodyF b).1 with
  | error q => exact .inl ⟨by simp, rfl⟩
  | ok l =>
    cases h2 : spl (4 + ((bodyF b).1.length : Int)) (behF b) with
    | error q => exact .inl ⟨by simp, rfl⟩
    | ok k =>
      dsimp only
      by_cases h3 : (foldR c0 l []).2.2.2 = 0
      · exact .inr ⟨l, by simpa using h, rfl, ⟨k, rfl⟩, h3, by rw [foldR_fine l c0 [] h3, h3]⟩
      · exact .inl ⟨h3, (foldR_err l c0 [] h3).1⟩
theorem parseI_right (b : Bs) : (∀ m ∈ (parseI b).1, LeanR m ∧ GoodL m) ∧ (parseI b).1.length ≤ 65535 := by
  rcases parseI_cases b with ⟨_, h⟩ | ⟨l, h0, h1, _, _, h4⟩
  · rw [h]; exact ⟨fun m hm => (by cases hm), by simp⟩
  · rw [h4]
    have hb := (bodyF_ok h0)
    have hr := sizeB_rng b
    have := (foldR_len l c0 [] okC_c0).1
    have hk := (spl_ok _ _ _ h1).2
    exact ⟨fold_right okC_c0 (spl_tg _ _ _ h1), by dsimp only; simp at this; omega⟩
end Go.VP
set_option linter.unusedVariables false
set_option linter.unusedSimpArgs false
set_option maxRecDepth 100000
namespace Go.VP
open Go Go.VI
theorem rfam6_is (a : Bs) : g_ref06_Family (a, ()) = some ((famF a, ()), ()) := by
  rw [g_ref06_Family_eq]; unfold famF
  refine bq_step (fun h => by rw [if_pos (by omega)]) (fun h => ?_)
  rw [if_neg (show ¬ a.length = 4 by omega)]
  exact bq_step (fun h => by rw [if_pos (by omega)]) (fun h => by rw [if_neg (by omega)])
theorem nb_and {R : Type} {b S : Bool} {t : Option R} {f : Bool → Option R} (h : b = true → t = f S) : (if (!b) = true then f false else t) = f (b && S) := by
  cases b with
  | true => rw [ifnt, Bool.true_and]; exact h rfl
  | false => rw [ifnf, Bool.false_and]
theorem two22_is {n : Int} : g_ref22_two (n, ()) = some ((fitsB n 2, ()), ()) := by
  rw [g_ref22_two_eq, show g_ref02_Fits (n, 2, ()) = some ((fitsB n 2, ()), ()) from rfits_is (k := 2) (by omega) (by omega)]; rfl
theorem fewS_of {m : Msg} (g : GoodM m) : FewS m.subs := g.few.fewS
theorem rcright_is {m : Msg} (g : GoodL m) (ha : UpdR m ∨ 0 ≤ m.ae ∨ True) : g_ref22_Right (m, ()) = some ((updB m, ()), ()) := by
  have hl := g.good.few
  have := hl.id; have := hl.next; have := hl.pre; have := hl.list; have := hl.subs
  rw [g_ref22_Right_eq]
  unfold updB
  refine ne_step (fun h => by rw [decide_eq_false h, Bool.false_and]) (fun h => ?_)
  rw [decide_eq_true h, Bool.true_and, rbare_is (by omega) (by omega), Option.bind_some]
  dsimp only
  refine nb_and (f := fun b => some ((b, ()), ())) (fun _ => ?_)
  rw [rsright_is (fewS_of g.good), Option.bind_some]
  refine nb_and (f := fun b => some ((b, ()), ())) (fun _ => ?_)
  rw [rin_is (by omega), Option.bind_some]
  refine nb_and (f := fun b => some ((b, ()), ())) (fun hin => ?_)
  have hae := (inB_iff.1 hin).1
  rw [two22_is, Option.bind_some]
  refine nb_and (f := fun b => some ((b, ()), ())) (fun _ => ?_)
  rw [two22_is, Option.bind_some]
  refine nb_and (f := fun b => some ((b, ()), ())) (fun _ => ?_)
  rw [two22_is, Option.bind_some]
  refine nb_and (f := fun b => some ((b, ()), ())) (fun _ => ?_)
  unfold tailB
  refine bq_step (fun h => ?_) (fun h => ?_)
  · rw [if_pos h]
    cases (m.id == ([] : Bs)) <;> rfl
  · rw [if_neg h]
    refine ne_step (fun h0 => ?_) (fun h0 => ?_)
    · rw [decide_eq_true (show 0 < m.ae by omega), Bool.true_and, len8]
      cases h8 : decide (m.id.length = 8) with
      | false => rw [iff_, Bool.false_and]
      | true =>
        rw [ift, Bool.true_and]
        have e2 : (famF m.next == famE m.ae) = decide (famF m.next = famE m.ae) := by rw [Bool.eq_iff_iff]; simp
        rw [rfam6_is, Option.bind_some, rcfam_is, Option.bind_some]
        dsimp only
        rw [e2]
        cases (m.next == ([] : Bs)) <;> rfl
    · rw [decide_eq_false (show ¬ 0 < m.ae by omega), Bool.false_and]
end Go.VP
set_option linter.unusedVariables false
set_option linter.unusedSimpArgs false
set_option maxRecDepth 100000
namespace Go.VP
open Go Go.VI
noncomputable def opqB (m : Msg) : Bool := bareB m && (decide (10 < m.type_) && (decide (m.type_ < 256) && decide (m.data.length < 256)))
noncomputable def leanB (m : Msg) : Bool := if m.kind = 11 then updB m else if m.kind = 12 ∨ m.kind = 13 then routeB m else if m.kind = 14 then opqB m else fieldB m
theorem fieldB_kind {m : Msg} (h : fieldB m = true) : 7 ≤ m.kind ∧ m.kind ≤ 10 := by
  rcases (fieldR_iff.1 h).kinds with h | h | ⟨h, _⟩ | ⟨h, _⟩ <;> omega
theorem routeB_kind {m : Msg} (h : routeB m = true) : m.kind = 12 ∨ m.kind = 13 := by
  rcases (routeR_iff.1 h).kinds with h | ⟨h, _⟩
  · exact .inl h
  · exact .inr h
theorem opqR_iff {m : Msg} (hk : m.kind = 14) : opqB m = true ↔ OpqR m := by
  unfold opqB
  simp only [Bool.and_eq_true, decide_eq_true_eq]
  exact ⟨fun ⟨a, b, c, d⟩ => ⟨hk, a, ⟨b, c⟩, d⟩, fun h => ⟨h.bare, h.ty.1, h.ty.2, h.len⟩⟩
theorem leanR_iff {m : Msg} : leanB m = true ↔ LeanR m := by
  unfold leanB
  constructor
  · intro h
    split at h
    · exact .upd (updR_iff.1 h)
    split at h
    · exact .route (routeR_iff.1 h)
    split at h
    · rename_i hk; exact .opq ((opqR_iff hk).1 h)
    · exact .field (fieldR_iff.1 h)
  · intro h
    cases h with
    | field h =>
      have hb := fieldR_iff.2 h
      have := fieldB_kind hb
      rw [if_neg (by omega), if_neg (by omega), if_neg (by omega)]; exact hb
    | route h =>
      have hb := routeR_iff.2 h
      have := routeB_kind hb
      rw [if_neg (by omega), if_pos this]; exact hb
    | upd h => rw [if_pos h.kind]; exact updR_iff.2 h
    | opq h => rw [if_neg (by have := h.kind; omega), if_neg (by have := h.kind; omega), if_pos h.kind]; exact (opqR_iff h.kind).2 h
theorem rlright_is {m : Msg} (g : GoodL m) : g_ref24_Right (m, ()) = some ((leanB m, ()), ()) := by
  have := g.good.few.list; have := g.good.few.subs
  rw [g_ref24_Right_eq, rright_is g.good, Option.bind_some]
  dsimp only
  cases hf : fieldB m with
  | true => rw [ift, leanR_iff.2 (.field (fieldR_iff.1 hf))]
  | false =>
  rw [iff_, rrtright_is g.good, Option.bind_some]
  dsimp only
  cases hr : routeB m with
  | true => rw [ift, leanR_iff.2 (.route (routeR_iff.1 hr))]
  | false =>
  rw [iff_, rcright_is g (.inr (.inr trivial)), Option.bind_some]
  dsimp only
  cases hu : updB m with
  | true => rw [ift, leanR_iff.2 (.upd (updR_iff.1 hu))]
  | false =>
  rw [iff_, g_ref24_opaque_eq, rbare_is (by omega) (by omega)]
  unfold leanB
  rw [hu, hr, hf]
  by_cases hk : m.kind = 14
  · rw [if_pos (by simp [hk]), if_neg (show ¬ m.kind = 11 by omega), if_neg (show ¬ (m.kind = 12 ∨ m.kind = 13) by omega), if_pos hk]
    unfold opqB
    have e : decide ((m.data.length : Int) ≤ 255) = decide (m.data.length < 256) := by rw [Bool.eq_iff_iff]; simp; omega
    have e2 : decide (11 ≤ m.type_) = decide (10 < m.type_) := by rw [Bool.eq_iff_iff]; simp; omega
    have e3 : decide (m.type_ ≤ 255) = decide (m.type_ < 256) := by rw [Bool.eq_iff_iff]; simp; omega
    rw [e, e2, e3]
    simp only [Option.bind_some]
    cases bareB m
    · rfl
    cases decide (10 < m.type_)
    · rfl
    cases decide (m.type_ < 256)
    · rfl
    · rfl
  · rw [if_neg (by simp [hk])]
    have : (if m.kind = 11 then false else if m.kind = 12 ∨ m.kind = 13 then false else if m.kind = 14 then opqB m else false) = false := by
      rw [if_neg hk]
      split
      · rfl
      split
      · rfl
      · rfl
    rw [this]; rfl
theorem UpdR.fam {m : Msg} (h : UpdR m) (hm : m.metric ≠ 65535) : (famE m.ae = 0 ∨ famE m.ae = 1) ∧ (m.next ≠ [] → (famE m.ae = 0 ∧ m.next.length = 4) ∨ (famE m.ae = 1 ∧ m.next.length = 16)) := by
  have hn := h.near hm
  have hf := famE_rng (ae := m.ae) (by have := h.pre.1; omega)
  refine ⟨by omega, fun hne => ?_⟩
  exact famF_cases (by rcases hn.2.2 with q | q; exact absurd q hne; exact q) (by omega)
end Go.VP
set_option linter.unusedVariables false
set_option linter.unusedSimpArgs false
set_option maxRecDepth 100000
namespace Go.VP
open Go Go.VI
theorem OpqR.eq {m : Msg} (h : OpqR m) : opaqueM m.type_ m.data = m := by
  have hx : bareOf m = some ⟨m.kind, 0, 0, [], 0, 0, [], 0, 0, [], 0, [], 0, 0, 0, 0, 0, 0, 0, [], [], [], m.type_, m.data, []⟩ := by
    have hk := h.kind
    unfold bareOf; rw [if_neg (by omega), if_neg (by omega), if_neg (by omega), if_neg (by omega), if_neg (by omega), if_neg (by omega), if_neg (by omega), if_neg (by omega), if_neg (by omega), if_neg (by omega), if_neg (by omega), if_neg (by omega), if_neg (by omega), if_pos hk]
  have hb := h.bare
  rw [bareB, hx] at hb
  have := eqB_true.1 hb
  rw [h.kind] at this
  exact this
end Go.VP
set_option linter.unusedVariables false
set_option linter.unusedSimpArgs false
set_option maxRecDepth 100000
namespace Go.VP
open Go Go.VI
def zeroB (s : Bs) : Bool := s.all (· == 0)
theorem zero_loop {n : Nat} {s : Bs} (hs : s.length ≤ 1000000000) : ∀ (d m i : Nat), i + d = s.length → d < m → L_octet_Zero_0 n m s i = some (((s.drop i).all (· == 0), ()), ()) := by
  intro d
  induction d with
  | zero =>
    intro m i hd hm
    obtain ⟨m, rfl⟩ : ∃ k, m = k + 1 := ⟨m - 1, by omega⟩
    rw [L_octet_Zero_0_eq, ifn (by omega), List.drop_eq_nil_of_le (by omega)]; rfl
  | succ d ih =>
    intro m i hd hm
    obtain ⟨m, rfl⟩ : ∃ k, m = k + 1 := ⟨m - 1, by omega⟩
    have ha : i < s.length := by omega
    have := ih m (i + 1) (by omega) (by omega)
    rw [show ((i + 1 : Nat) : Int) = (i : Int) + 1 by omega] at this
    rw [L_octet_Zero_0_eq, ifd (by omega), if_pos (by omega), Int.toNat_natCast, bind_at ha, w64 (by omega) (by omega), this, List.drop_eq_getElem_cons ha, List.all_cons]
    refine ne_step (fun h => ?_) (fun h => ?_)
    · have : (s[i] == 0) = false := by
        rw [beq_eq_false_iff_ne]; intro e; rw [e] at h; exact h rfl
      rw [this]; rfl
    · have : s[i] = 0 := u8_eq h
      rw [this]; simp
theorem zero_is {s : Bs} (hs : s.length ≤ 1000000000) : g_octet_Zero (s, ()) = some ((zeroB s, ()), ()) := by
  show h_octet_Zero fuel (s, ()) = _
  rw [h_octet_Zero_eq]
  exact zero_loop hs s.length fuel 0 (by omega) (fuel_ge (by omega))
abbrev z4 : Bs := [0, 0, 0, 0]
theorem zero4 {s : Bs} (h : s.length = 4) : zeroB s = true ↔ s = z4 := by
  match s, h with
  | [a, b, c, d], _ => simp [zeroB]
theorem zero8 {s t : Bs} (h : s.length = 4) (h' : t.length = 4) : zeroB (s ++ t) = true ↔ s = z4 ∧ t = z4 := by
  rw [← zero4 h, ← zero4 h']; simp [zeroB, List.all_append]
theorem nought_is : g_ref10_nought () = some ((z4, ()), ()) := g_ref10_nought_eq
def entF (s : Bs) : S_api_Entry := ⟨num (cut_ s 0 2), num (cut_ s 2 2), cut_ s 4 4, cut_ s 8 4, cut_ s 12 4, num (cut_ s 16 4)⟩
theorem rnum_ok {s : Bs} {p q n : Int} (w : WfC s p q) (h : 1 ≤ n) (h7 : n ≤ 7) (h2 : p + n ≤ q) : g_entry_reader_num (⟨s, p, q, false⟩, n, ()) = some ((num (cut_ s p n), ()), (⟨s, p + n, q, false⟩, ())) := by
  rw [g_entry_reader_num_eq]
  have := num_ok w h h7 h2
  unfold cu at this
  dsimp only
  rw [this]; rfl
theorem rfour_ok {s : Bs} {p q : Int} (w : WfC s p q) (h2 : p + 4 ≤ q) : g_entry_reader_four (⟨s, p, q, false⟩, ()) = some ((cut_ s p 4, ()), (⟨s, p + 4, q, false⟩, ())) := by
  rw [g_entry_reader_four_eq]
  have := text_ok (n := 4) w (by omega) h2
  unfold cu at this
  dsimp only
  rw [this]; rfl
theorem entGet_is {s : Bs} (h : s.length = 20) : g_entry_Get (s, ()) = some ((entF s, true, ()), ()) := by
  have w := WfC.whole (s := s) (by omega)
  rw [g_entry_Get_eq, if_neg (by simp [h]), new_is, Option.bind_some]
  dsimp only [cu]
  rw [rnum_ok w (by omega) (by omega) (by omega), Option.bind_some]
  dsimp only
  rw [rnum_ok (w.fwd (by omega) (by omega)) (by omega) (by omega) (by omega), Option.bind_some]
  dsimp only
  rw [rfour_ok ((w.fwd (n := 2) (by omega) (by omega)).fwd (by omega) (by omega)) (by omega), Option.bind_some]
  dsimp only
  rw [rfour_ok (((w.fwd (n := 2) (by omega) (by omega)).fwd (n := 2) (by omega) (by omega)).fwd (by omega) (by omega)) (by omega), Option.bind_some]
  dsimp only
  rw [rfour_ok ((((w.fwd (n := 2) (by omega) (by omega)).fwd (n := 2) (by omega) (by omega)).fwd (n := 4) (by omega) (by omega)).fwd (by omega) (by omega)) (by omega), Option.bind_some]
  dsimp only
  rw [rnum_ok (((((w.fwd (n := 2) (by omega) (by omega)).fwd (n := 2) (by omega) (by omega)).fwd (n := 4) (by omega) (by omega)).fwd (n := 4) (by omega) (by omega)).fwd (by omega) (by omega)) (by omega) (by omega) (by omega), Option.bind_some]
  rfl
def maskF (n : Int) : Bs := keepF [255, 255, 255, 255] n
theorem maskF_key : ∀ k : Fin 33, ([(u8of (IntKind.wrap .u8 (ishr .u32 (ishl .u32 4294967295 (IntKind.wrap .u64 (IntKind.wrap .i64 (32 - (k.val : Int))))) 24))), (u8of (IntKind.wrap .u8 (ishr .u32 (ishl .u32 4294967295 (IntKind.wrap .u64 (IntKind.wrap .i64 (32 - (k.val : Int))))) 16))), (u8of (IntKind.wrap .u8 (ishr .u32 (ishl .u32 4294967295 (IntKind.wrap .u64 (IntKind.wrap .i64 (32 - (k.val : Int))))) 8))), (u8of (IntKind.wrap .u8 (ishl .u32 4294967295 (IntKind.wrap .u64 (IntKind.wrap .i64 (32 - (k.val : Int)))))))] : Bs) = maskF k.val := by decide +kernel
theorem fin33 {n : Int} (h : 0 ≤ n) (h' : n ≤ 32) : ∃ k : Fin 33, n = (k.val : Int) := ⟨⟨n.toNat, by omega⟩, by simp; omega⟩
theorem maskOf_is {n : Int} (h : 0 ≤ n) (h' : n ≤ 32) : g_mask_Of (n, ()) = some ((maskF n, true, ()), ()) := by
  obtain ⟨k, rfl⟩ := fin33 h h'
  rw [g_mask_Of_eq, ifn (by omega), ifn (by omega), if_pos (by rw [w64 (by omega) (by omega), wu64 (by omega) (by omega)]; omega), maskF_key k]
theorem maskOf_bad {n : Int} (h : n < 0 ∨ 32 < n) : g_mask_Of (n, ()) = some (([], false, ()), ()) := by
  rw [g_mask_Of_eq]
  by_cases h0 : n < 0
  · rw [ifd h0]
  · rw [ifn h0, ifd (by omega)]
def plenGo (s : Bs) : Nat → Nat → Int × Bool
  | 0, _ => (0, false)
  | d + 1, k => if maskF k = s then ((k : Int), true) else plenGo s d (k + 1)
def plenF (s : Bs) : Int × Bool := plenGo s 33 0
theorem plenGo_cases (s : Bs) : ∀ (d k : Nat), (∃ j : Nat, k ≤ j ∧ j < k + d ∧ plenGo s d k = ((j : Int), true) ∧ maskF j = s) ∨ (plenGo s d k = (0, false) ∧ ∀ j : Nat, k ≤ j → j < k + d → maskF j ≠ s)
  | 0, k => .inr ⟨rfl, fun j h1 h2 => by omega⟩
  | d + 1, k => by
    by_cases h : maskF k = s
    · exact .inl ⟨k, by omega, by omega, by rw [plenGo, if_pos h], h⟩
    · rcases plenGo_cases s d (k + 1) with ⟨j, h1, h2, h3, h4⟩ | ⟨h3, h4⟩
      · exact .inl ⟨j, by omega, by omega, by rw [plenGo, if_neg h, h3], h4⟩
      · refine .inr ⟨by rw [plenGo, if_neg h, h3], fun j h1 h2 => ?_⟩
        by_cases e : j = k
        · rw [e]; exact h
        · exact h4 j (by omega) (by omega)
theorem plenF_cases (s : Bs) : (∃ k : Fin 33, plenF s = ((k.val : Int), true) ∧ maskF k.val = s) ∨ (plenF s = (0, false) ∧ ∀ j : Nat, j < 33 → maskF j ≠ s) := by
  rcases plenGo_cases s 33 0 with ⟨j, _, h2, h3, h4⟩ | ⟨h3, h4⟩
  · exact .inl ⟨⟨j, by omega⟩, h3, h4⟩
  · exact .inr ⟨h3, fun j h => h4 j (by omega) (by omega)⟩
theorem len32_pow : ∀ j : Fin 33, g_math_bits_Len32 (2 ^ j.val - 1, ()) = some (((j.val : Int), ()), ()) := by
  intro j
  rw [g_math_bits_Len32_eq]
  revert j
  decide +kernel
theorem u8wR (x : Int) : 0 ≤ IntKind.wrap .u8 x ∧ (IntKind.wrap .u8 x).toNat < 256 := by rw [wu8]; omega
theorem len32_any (x : Int) : ∃ r, g_math_bits_Len32 (x, ()) = some ((r, ()), ()) := by
  rw [g_math_bits_Len32_eq]
  split <;> split <;>
  · rw [if_pos (u8wR _).1, List.getElem?_eq_getElem (u8wR _).2, Option.bind_some]
    exact ⟨_, rfl⟩
theorem argKey : ∀ k : Fin 33, ibits .xor .u32 (4294967295) (ibits .or .u32 (ibits .or .u32 (ibits .or .u32 (ishl .u32 (IntKind.wrap .u32 ((((maskF k.val)[0]?.getD 0).toNat : Nat) : Int)) 24) (ishl .u32 (IntKind.wrap .u32 ((((maskF k.val)[1]?.getD 0).toNat : Nat) : Int)) 16)) (ishl .u32 (IntKind.wrap .u32 ((((maskF k.val)[2]?.getD 0).toNat : Nat) : Int)) 8)) (IntKind.wrap .u32 ((((maskF k.val)[3]?.getD 0).toNat : Nat) : Int))) = 2 ^ (32 - k.val) - 1 := by decide +kernel
theorem plen_is {s : Bs} (h : s.length = 4) : g_mask_Plen (s, ()) = some (((plenF s).1, (plenF s).2, ()), ()) := by
  rw [g_mask_Plen_eq, if_neg (by simp [h]), get_bt (i := 0) (by omega), Option.bind_some, get_bt (i := 1) (by omega), Option.bind_some, get_bt (i := 2) (by omega), Option.bind_some, get_bt (i := 3) (by omega), Option.bind_some]
  rcases plenF_cases s with ⟨k, e, rfl⟩ | ⟨e, hn⟩
  · rw [argKey k, g_math_bits_LeadingZeros32_eq]
    have := len32_pow ⟨32 - k.val, by omega⟩
    dsimp only at this
    rw [this, Option.bind_some, Option.bind_some]
    dsimp only
    have hk := k.isLt
    rw [w64 (by omega) (by omega), show (32 : Int) - ((32 - k.val : Nat) : Int) = k.val by omega, maskOf_is (by omega) (by omega), Option.bind_some]
    dsimp only
    rw [if_neg (by simp), e]
  · rw [g_math_bits_LeadingZeros32_eq]
    obtain ⟨r, hr⟩ := len32_any (ibits .xor .u32 (4294967295) (ibits .or .u32 (ibits .or .u32 (ibits .or .u32 (ishl .u32 (IntKind.wrap .u32 (((s[0]?.getD 0).toNat : Nat) : Int)) 24) (ishl .u32 (IntKind.wrap .u32 (((s[1]?.getD 0).toNat : Nat) : Int)) 16)) (ishl .u32 (IntKind.wrap .u32 (((s[2]?.getD 0).toNat : Nat) : Int)) 8)) (IntKind.wrap .u32 (((s[3]?.getD 0).toNat : Nat) : Int))))
    rw [hr, Option.bind_some, Option.bind_some]
    dsimp only
    generalize IntKind.wrap .i64 (32 - r) = x
    by_cases hx : x < 0 ∨ 32 < x
    · rw [maskOf_bad hx, Option.bind_some]
      dsimp only
      rw [if_pos (by cases s with | nil => simp at h | cons => rfl), e]
    · rw [maskOf_is (by omega) (by omega), Option.bind_some]
      dsimp only
      have : maskF x ≠ s := by
        have := hn x.toNat (by omega)
        rwa [show ((x.toNat : Nat) : Int) = x by omega] at this
      rw [if_pos (by simpa using this), e]
theorem plenF_ok {s : Bs} (h : (plenF s).2 = true) : 0 ≤ (plenF s).1 ∧ (plenF s).1 ≤ 32 ∧ maskF (plenF s).1 = s := by
  rcases plenF_cases s with ⟨k, e, hk⟩ | ⟨e, _⟩
  · rw [e]; have := k.isLt; exact ⟨by simp, by simp; omega, hk⟩
  · rw [e] at h; cases h
end Go.VP
set_option linter.unusedVariables false
set_option linter.unusedSimpArgs false
set_option maxRecDepth 100000
namespace Go.VP
open Go Go.VI
def okR (m : Msg) : Prop := m.kind = 1 ∧ bareB m = true ∧ (m.cmd = 1 ∨ m.cmd = 2) ∧ (m.ver = 1 ∨ m.ver = 2) ∧ m.prefix_.length = 4 ∧ m.next.length = 4 ∧ (m.auth = [] ∨ (m.ver = 2 ∧ m.auth.length = 18)) ∧
  ((m.family = 0 ∧ m.cmd = 1 ∧ m.tag = 0 ∧ m.plen = 0 ∧ m.prefix_ = z4 ∧ m.next = z4 ∧ m.metric = 16) ∨
   (m.family = 2 ∧ 1 ≤ m.metric ∧ m.metric ≤ 16 ∧
     ((m.ver = 1 ∧ m.tag = 0 ∧ m.plen = 32 ∧ m.next = z4) ∨ (m.ver = 2 ∧ 0 ≤ m.tag ∧ m.tag ≤ 65535 ∧ 0 ≤ m.plen ∧ m.plen ≤ 32 ∧ cleanB m.prefix_ m.plen = true))))
open Classical in
noncomputable def rightR (m : Msg) : Bool := decide (okR m)
theorem rightR_true {m : Msg} : rightR m = true ↔ okR m := by unfold rightR; simp
structure RM (m : Msg) : Prop where
  tag : IntKind.has .i64 m.tag
  plen : IntKind.has .i64 m.plen
  list : m.list.length ≤ 1000000000
  subs : m.subs.length ≤ 1000000000
theorem dq_step {R : Type} {p : Prop} [Decidable p] {t f r : R} (h : p → t = r) (h' : ¬ p → f = r) : (if decide p = true then t else f) = r := by
  by_cases hp : p
  · rw [ifd hp]; exact h hp
  · rw [ifn hp]; exact h' hp
theorem nb_step {R : Type} {b : Bool} {t f r : R} (h : b = false → t = r) (h' : b = true → f = r) : (if (!b) = true then t else f) = r := by
  cases b
  · exact h rfl
  · exact h' rfl
theorem be_stepR {R : Type} {x y : Bs} {f t r : R} (heq : x = y → t = r) (hne : x ≠ y → f = r) : (if (x == y) = true then t else f) = r := by
  by_cases h : x = y
  · rw [if_pos (by simp [h])]; exact heq h
  · rw [if_neg (by simpa using h)]; exact hne h
theorem two_step {R : Type} {x a b : Int} {F V r : R} (h1 : ¬ (x = a ∨ x = b) → F = r) (h2 : (x = a ∨ x = b) → V = r) : (if (x != a) = true then (if (x != b) = true then F else V) else V) = r :=
  ne_step (fun ha => ne_step (fun hb => h1 (by omega)) (fun hb => h2 (.inr hb))) (fun ha => h2 (.inl ha))
theorem au_step {R : Type} {s : Bs} {v : Int} {F T r : R} (h1 : ¬ (s = [] ∨ (v ≠ 1 ∧ s.length = 18)) → F = r) (h2 : (s = [] ∨ (v ≠ 1 ∧ s.length = 18)) → T = r) : (if (!(s == ([] : Bs))) = true then (if (v == 1) = true then F else (if ((s.length : Int) != 18) = true then F else T)) else T) = r :=
  nq_step (fun ha => bq_step (fun hb => h1 (by grind)) (fun hb => ne_step (fun hc => h1 (by grind)) (fun hc => h2 (by grind)))) (fun ha => h2 (.inl ha))
theorem rau_step {R : Type} {s : Bs} {v : Int} {F T r : R} (h1 : ¬ (s = [] ∨ (v = 2 ∧ s.length = 18)) → F = r) (h2 : (s = [] ∨ (v = 2 ∧ s.length = 18)) → T = r) : (if (!(s == ([] : Bs))) = true then (if (v != 2) = true then F else (if ((s.length : Int) != 18) = true then F else T)) else T) = r :=
  nq_step (fun ha => ne_step (fun hb => h1 (by grind)) (fun hb => ne_step (fun hc => h1 (by grind)) (fun hc => h2 (by grind)))) (fun ha => h2 (.inl ha))
theorem pright4 {a : Bs} {n : Int} (h : a.length = 4) (hn : IntKind.has .i64 n) : g_prefix_Right (a, n, ()) = some ((decide (0 ≤ n ∧ n ≤ 32) && cleanB a n, ()), ()) := by
  rw [g_prefix_Right_eq, if_pos (by simp [h]), clean_is (by omega) hn, Option.bind_some]
  dsimp only
  refine dq_step (fun h0 => ?_) (fun h0 => ?_)
  · rw [w64 (by omega) (by omega)]
    refine dq_step (fun h1 => ?_) (fun h1 => ?_)
    · rw [decide_eq_true (by omega)]; rfl
    · rw [decide_eq_false (by omega)]; rfl
  · rw [decide_eq_false (by omega)]; rfl
theorem rpright4 {a : Bs} {n : Int} (h : a.length = 4) : g_ref04_Right (a, n, ()) = some ((decide (0 ≤ n ∧ n ≤ 32) && cleanB a n, ()), ()) := by
  rw [g_ref04_Right_eq, if_pos (by simp [h]), rclean_is (by omega), Option.bind_some]
  dsimp only
  refine dq_step (fun h0 => ?_) (fun h0 => ?_)
  · rw [w64 (by omega) (by omega)]
    refine dq_step (fun h1 => ?_) (fun h1 => ?_)
    · rw [decide_eq_true (by omega)]; rfl
    · rw [decide_eq_false (by omega)]; rfl
  · rw [decide_eq_false (by omega)]; rfl
theorem ripRight_is {m : Msg} (g : RM m) : g_rip_Right (m, ()) = some ((rightR m, ()), ()) := by
  have no : ¬ okR m → (some ((false, ()), ()) : Option ((Bool × Unit) × Unit)) = some ((rightR m, ()), ()) := fun h => by
    have : rightR m = false := by cases e : rightR m with | false => rfl | true => exact absurd (rightR_true.1 e) h
    rw [this]
  have yes : ∀ {b : Bool}, (b = true ↔ okR m) → (some ((b, ()), ()) : Option ((Bool × Unit) × Unit)) = some ((rightR m, ()), ()) := fun {b} h => by
    have : b = rightR m := by rw [Bool.eq_iff_iff, h, rightR_true]
    rw [this]
  rw [g_rip_Right_eq]
  refine ne_step (fun hk => no fun h => hk h.1) (fun hk => ?_)
  rw [bare_is, Option.bind_some]
  refine nb_step (fun hb => no fun h => by have := h.2.1; dsimp only at hb; rw [hb] at this; cases this) (fun hb => ?_)
  dsimp only at hb
  rw [g_rip_four_eq, Option.bind_some]
  refine nb_step (fun hp => no fun h => by have := h.2.2.2.2.1; dsimp only at hp; simp at hp; omega) (fun hp => ?_)
  have hp4 : m.prefix_.length = 4 := by simp at hp; omega
  rw [g_rip_four_eq, Option.bind_some]
  refine nb_step (fun hp => no fun h => by have := h.2.2.2.2.2.1; dsimp only at hp; simp at hp; omega) (fun hn => ?_)
  have hn4 : m.next.length = 4 := by simp at hn; omega
  refine two_step (fun hc => no fun h => hc h.2.2.1) (fun hc => ?_)
  refine two_step (fun hv => no fun h => hv h.2.2.2.1) (fun hv => ?_)
  refine au_step (fun ha => no fun h => ha (by have := h.2.2.2.2.2.2.1; grind)) (fun ha => ?_)
  have ha' : m.auth = [] ∨ (m.ver = 2 ∧ m.auth.length = 18) := by grind
  have z8 := zero8 hp4 hn4
  have zn := zero4 hn4
  refine bq_step (fun f0 => ?_) (fun f0 => ?_)
  · refine bq_step (fun c1 => ?_) (fun c1 => no (by grind [okR]))
    refine bq_step (fun t0 => ?_) (fun t0 => no (by grind [okR]))
    refine bq_step (fun p0 => ?_) (fun t0 => no (by grind [okR]))
    refine bq_step (fun m0 => ?_) (fun t0 => no (by grind [okR]))
    rw [if_pos (maxB_of (by omega)), zero_is (by simp; omega), Option.bind_some]
    exact yes (by rw [z8]; grind [okR])
  · refine ne_step (fun f2 => no (by grind [okR])) (fun f2 => ?_)
    refine dq_step (fun h1 => no (by grind [okR])) (fun h1 => ?_)
    refine dq_step (fun h2 => no (by grind [okR])) (fun h2 => ?_)
    refine bq_step (fun v1 => ?_) (fun v1 => ?_)
    · refine bq_step (fun t0 => ?_) (fun t0 => no (by grind [okR]))
      refine bq_step (fun p0 => ?_) (fun t0 => no (by grind [okR]))
      rw [zero_is (by omega), Option.bind_some]
      exact yes (by rw [zn]; grind [okR])
    · have ft := fits_is (k := 2) g.tag (by omega) (by omega)
      rw [show ((2 : Nat) : Int) = 2 from rfl] at ft
      rw [ft, Option.bind_some]
      dsimp only
      have hf : fitsB m.tag 2 = true ↔ 0 ≤ m.tag ∧ m.tag ≤ 65535 := by unfold fitsB; rw [decide_eq_true_eq]; omega
      cases hfb : fitsB m.tag 2 with
      | false => rw [iff_]; exact no (fun h => by
        have : ¬ (0 ≤ m.tag ∧ m.tag ≤ 65535) := by rw [← hf, hfb]; simp
        grind [okR])
      | true =>
        have := hf.1 hfb
        rw [ift, pright4 hp4 g.plen, Option.bind_some]
        exact yes (by rw [Bool.and_eq_true, decide_eq_true_eq]; grind [okR])
theorem rripRight_is {m : Msg} (g : RM m) : g_ref10_Right (m, ()) = some ((rightR m, ()), ()) := by
  have no : ¬ okR m → (some ((false, ()), ()) : Option ((Bool × Unit) × Unit)) = some ((rightR m, ()), ()) := fun h => by
    have : rightR m = false := by cases e : rightR m with | false => rfl | true => exact absurd (rightR_true.1 e) h
    rw [this]
  have yes : ∀ {b : Bool}, (b = true ↔ okR m) → (some ((b, ()), ()) : Option ((Bool × Unit) × Unit)) = some ((rightR m, ()), ()) := fun {b} h => by
    have : b = rightR m := by rw [Bool.eq_iff_iff, h, rightR_true]
    rw [this]
  rw [g_ref10_Right_eq]
  refine ne_step (fun hk => no fun h => hk h.1) (fun hk => ?_)
  rw [rbare_is g.list g.subs, Option.bind_some]
  refine nb_step (fun hb => no fun h => by have := h.2.1; dsimp only at hb; rw [hb] at this; cases this) (fun hb => ?_)
  dsimp only at hb
  refine dq_step (fun h1 => no (by grind [okR])) (fun c1 => ?_)
  refine dq_step (fun h1 => no (by grind [okR])) (fun c2 => ?_)
  refine dq_step (fun h1 => no (by grind [okR])) (fun v1 => ?_)
  refine dq_step (fun h1 => no (by grind [okR])) (fun v2 => ?_)
  refine ne_step (fun h1 => no (by grind [okR])) (fun hp => ?_)
  refine ne_step (fun h1 => no (by grind [okR])) (fun hn => ?_)
  have hp4 : m.prefix_.length = 4 := by omega
  have hn4 : m.next.length = 4 := by omega
  have hc : m.cmd = 1 ∨ m.cmd = 2 := by omega
  have hv : m.ver = 1 ∨ m.ver = 2 := by omega
  refine rau_step (fun ha => no fun h => ha h.2.2.2.2.2.2.1) (fun ha => ?_)
  rw [nought_is, Option.bind_some]
  refine bq_step (fun f0 => ?_) (fun f0 => ?_)
  · refine bq_step (fun c1 => ?_) (fun c1 => no (by grind [okR]))
    refine bq_step (fun t0 => ?_) (fun t0 => no (by grind [okR]))
    refine bq_step (fun p0 => ?_) (fun t0 => no (by grind [okR]))
    refine be_stepR (fun e1 => ?_) (fun t0 => no (by grind [okR]))
    rw [Option.bind_some]
    refine be_stepR (fun e1 => ?_) (fun t0 => no (by grind [okR]))
    exact yes (by rw [beq_iff_eq]; grind [okR])
  · refine ne_step (fun f2 => no (by grind [okR])) (fun f2 => ?_)
    refine dq_step (fun h1 => no (by grind [okR])) (fun h1 => ?_)
    refine dq_step (fun h2 => no (by grind [okR])) (fun h2 => ?_)
    refine bq_step (fun v1 => ?_) (fun v1 => ?_)
    · refine bq_step (fun t0 => ?_) (fun t0 => no (by grind [okR]))
      refine bq_step (fun p0 => ?_) (fun t0 => no (by grind [okR]))
      rw [Option.bind_some]
      exact yes (by rw [beq_iff_eq]; grind [okR])
    · refine dq_step (fun t0 => ?_) (fun t0 => no (by grind [okR]))
      refine dq_step (fun t0 => ?_) (fun t0 => no (by grind [okR]))
      rw [rpright4 hp4, Option.bind_some]
      exact yes (by rw [Bool.and_eq_true, decide_eq_true_eq]; grind [okR])
end Go.VP
set_option linter.unusedVariables false
set_option linter.unusedSimpArgs false
set_option maxRecDepth 100000
namespace Go.VP
open Go Go.VI
abbrev Ent := S_api_Entry
def routeM (cmd ver : Int) (says : Bs) (e : Ent) : Msg := ⟨1, cmd, ver, says, e.family, 0, e.addr, (if e.family = 0 then 0 else if ver = 1 then 32 else (plenF e.mask).1), e.tag, e.next, e.metric, [], 0, 0, 0, 0, 0, 0, 0, [], [], [], 0, [], []⟩
open Classical in
noncomputable def errR (cmd ver : Int) (says : Bs) (alone : Bool) (e : Ent) : Int :=
  if e.family = 0 then (if alone = true ∧ e.mask = z4 ∧ okR (routeM cmd ver says e) then 0 else 7)
  else if e.family ≠ 2 then 4
  else if ver = 1 then (if e.tag ≠ 0 ∨ e.mask ≠ z4 ∨ e.next ≠ z4 then 5 else if e.metric < 1 ∨ 16 < e.metric then 6 else 0)
  else if ¬ ((plenF e.mask).2 = true ∧ cleanB e.addr (plenF e.mask).1 = true) then 7
  else if e.metric < 1 ∨ 16 < e.metric then 6 else 0
theorem lf {x : Msg} {v E : Int} {M : Msg} {R : Type} {S : R} (h : E = v) (h0 : v ≠ 0) : ∃ m', (some ((x, v, ()), S) : Option ((Msg × Int × Unit) × R)) = some ((m', E, ()), S) ∧ (E = 0 → m' = M) := ⟨x, by rw [h], fun e => absurd (h.symm.trans e) h0⟩
theorem lf0 {x : Msg} {E : Int} {M : Msg} {R : Type} {S : R} (hx : x = M) (h : E = 0) : ∃ m', (some ((x, 0, ()), S) : Option ((Msg × Int × Unit) × R)) = some ((m', E, ()), S) ∧ (E = 0 → m' = M) := ⟨M, by rw [h, hx], fun _ => rfl⟩
structure EntOk (e : Ent) : Prop where
  fam : 0 ≤ e.family ∧ e.family ≤ 65535
  tag : 0 ≤ e.tag ∧ e.tag ≤ 65535
  addr : e.addr.length = 4
  mask : e.mask.length = 4
  next : e.next.length = 4
  metric : 0 ≤ e.metric ∧ e.metric ≤ 4294967295
theorem cut_len {s : Bs} {p n : Nat} (h : p + n ≤ s.length) : (cut_ s p n).length = n := by
  have := cut_length (s := s) (p := p) (n := n) (by omega) (by omega) (by omega)
  omega
theorem entF_ok {s : Bs} (h : s.length = 20) : EntOk (entF s) := by
  have h2 : ∀ p : Nat, p + 2 ≤ 20 → 0 ≤ num (cut_ s p 2) ∧ num (cut_ s p 2) ≤ 65535 := fun p hp => by
    have := num_rng (cut_ s p 2)
    have hl : (cut_ s p 2).length = 2 := cut_len (n := 2) (by omega)
    rw [hl] at this; omega
  have h4 := num_rng (cut_ s 16 4)
  have hl : (cut_ s 16 4).length = 4 := cut_len (p := 16) (n := 4) (by omega)
  rw [hl] at h4
  exact ⟨h2 0 (by omega), h2 2 (by omega), cut_len (p := 4) (n := 4) (by omega), cut_len (p := 8) (n := 4) (by omega), cut_len (p := 12) (n := 4) (by omega), by show 0 ≤ num (cut_ s 16 4) ∧ _; exact ⟨h4.1, by show num (cut_ s 16 4) ≤ _; omega⟩⟩
theorem routeM_rm {cmd ver : Int} {says : Bs} {e : Ent} (h : EntOk e) : RM (routeM cmd ver says e) := by
  have h1 := h.tag
  refine ⟨has64.2 (by show _ ≤ e.tag ∧ e.tag ≤ _; omega), ?_, by simp [routeM], by simp [routeM]⟩
  rw [has64]
  show _ ≤ (if e.family = 0 then (0 : Int) else if ver = 1 then 32 else (plenF e.mask).1) ∧ (if e.family = 0 then (0 : Int) else if ver = 1 then 32 else (plenF e.mask).1) ≤ _
  rcases plenF_cases e.mask with ⟨k, hk, _⟩ | ⟨hk, _⟩
  · rw [hk]; have := k.isLt; split
    · omega
    · split <;> simp <;> omega
  · rw [hk]; split
    · omega
    · split <;> simp
theorem route_is {cmd ver : Int} {says : Bs} {alone : Bool} {e : Ent} (h : EntOk e) :
    ∃ m', g_rip_reader_route (⟨cmd, ver, says, alone⟩, e, ()) = some ((m', errR cmd ver says alone e, ()), ((⟨cmd, ver, says, alone⟩ : S_rip_reader), ())) ∧ (errR cmd ver says alone e = 0 → m' = routeM cmd ver says e) := by
  have zm := zero4 h.mask
  have zz := zero8 h.mask h.next
  have rm := routeM_rm (cmd := cmd) (ver := ver) (says := says) h
  rw [g_rip_reader_route_eq]
  dsimp only
  by_cases f0 : e.family = 0
  · rw [if_pos (by simp [f0])]
    cases alone with
    | false => rw [ifnf]; exact lf (v := 7) (by unfold errR; rw [if_pos f0, if_neg (by simp)]) (by decide)
    | true =>
      rw [ifnt, zero_is (by have := h.mask; omega), Option.bind_some]
      dsimp only
      cases hz : zeroB e.mask with
      | false =>
        rw [ifnf]; exact lf (v := 7) (by unfold errR; rw [if_pos f0, if_neg (by rw [← zm, hz]; simp)]) (by decide)
      | true =>
        have hm := zm.1 hz
        have er : (⟨1, cmd, ver, says, e.family, 0, e.addr, 0, e.tag, e.next, e.metric, [], 0, 0, 0, 0, 0, 0, 0, [], [], [], 0, [], []⟩ : Msg) = routeM cmd ver says e := by unfold routeM; rw [if_pos f0]
        rw [ifnt, er, ripRight_is rm, Option.bind_some]
        dsimp only
        by_cases ho : okR (routeM cmd ver says e)
        · rw [rightR_true.2 ho, ifnt]
          exact lf0 rfl (by unfold errR; rw [if_pos f0, if_pos ⟨rfl, hm, ho⟩])
        · have : rightR (routeM cmd ver says e) = false := by cases e' : rightR (routeM cmd ver says e) with | false => rfl | true => exact absurd (rightR_true.1 e') ho
          rw [this, ifnf]
          exact lf (v := 7) (by unfold errR; rw [if_pos f0, if_neg (fun h => ho h.2.2)]) (by decide)
  · rw [if_neg (by simp [f0])]
    by_cases f2 : e.family = 2
    · rw [if_neg (by simp [f2])]
      by_cases v1 : ver = 1
      · subst v1
        rw [if_pos (by rfl)]
        by_cases t0 : e.tag = 0
        · rw [if_neg (by simp [t0]), if_pos (maxB_of (by have := h.mask; have := h.next; omega)), zero_is (by have := h.mask; have := h.next; simp; omega), Option.bind_some]
          dsimp only
          cases hz : zeroB (e.mask ++ e.next) with
          | false =>
            rw [ifnf]
            refine lf (v := 5) ?_ (by decide)
            unfold errR; rw [if_neg f0, if_neg (by omega), if_pos rfl, if_pos]
            by_cases hm : e.mask = z4
            · refine .inr (.inr fun hn => ?_); have := zz.2 ⟨hm, hn⟩; rw [hz] at this; cases this
            · exact .inr (.inl hm)
          | true =>
            have hm := zz.1 hz
            rw [ifnt]
            by_cases m1 : e.metric < 1
            · rw [ifd m1]; exact lf (v := 6) (by unfold errR; rw [if_neg f0, if_neg (by omega), if_pos rfl, if_neg (by grind), if_pos (.inl m1)]) (by decide)
            · rw [ifn m1]
              by_cases m2 : 16 < e.metric
              · rw [ifd m2]; exact lf (v := 6) (by unfold errR; rw [if_neg f0, if_neg (by omega), if_pos rfl, if_neg (by grind), if_pos (.inr m2)]) (by decide)
              · rw [ifn m2]; exact lf0 (by unfold routeM; rw [if_neg f0, if_pos rfl]) (by unfold errR; rw [if_neg f0, if_neg (by omega), if_pos rfl, if_neg (by grind), if_neg (by omega)])
        · rw [if_pos (by simp [t0])]
          exact lf (v := 5) (by unfold errR; rw [if_neg f0, if_neg (by omega), if_pos rfl, if_pos (.inl t0)]) (by decide)
      · rw [if_neg (by simp [v1]), plen_is h.mask, Option.bind_some]
        dsimp only
        cases hp : (plenF e.mask).2 with
        | false =>
          rw [ifnf]
          exact lf (v := 7) (by unfold errR; rw [if_neg f0, if_neg (by omega), if_neg v1, if_pos (by rw [hp]; simp)]) (by decide)
        | true =>
          have pr := plenF_ok hp
          rw [ifnt, pright4 h.addr (has64.2 (by omega)), Option.bind_some]
          dsimp only
          rw [decide_eq_true (show 0 ≤ (plenF e.mask).1 ∧ (plenF e.mask).1 ≤ 32 by omega), Bool.true_and]
          cases hc : cleanB e.addr (plenF e.mask).1 with
          | false =>
            rw [ifnf]
            exact lf (v := 7) (by unfold errR; rw [if_neg f0, if_neg (by omega), if_neg v1, if_pos (by rw [hc]; simp)]) (by decide)
          | true =>
            rw [ifnt]
            by_cases m1 : e.metric < 1
            · rw [ifd m1]; exact lf (v := 6) (by unfold errR; rw [if_neg f0, if_neg (by omega), if_neg v1, if_neg (by simp [hp, hc]), if_pos (.inl m1)]) (by decide)
            · rw [ifn m1]
              by_cases m2 : 16 < e.metric
              · rw [ifd m2]; exact lf (v := 6) (by unfold errR; rw [if_neg f0, if_neg (by omega), if_neg v1, if_neg (by simp [hp, hc]), if_pos (.inr m2)]) (by decide)
              · rw [ifn m2]; exact lf0 (by unfold routeM; rw [if_neg f0, if_neg v1]) (by unfold errR; rw [if_neg f0, if_neg (by omega), if_neg v1, if_neg (by simp [hp, hc]), if_neg (by omega)])
    · rw [if_pos (by simp [f2])]
      exact lf (v := 4) (by unfold errR; rw [if_neg f0, if_pos f2]) (by decide)
end Go.VP
set_option linter.unusedVariables false
set_option linter.unusedSimpArgs false
set_option maxRecDepth 100000
namespace Go.VP
open Go Go.VI
def headR (b : Bs) : Int × Int :=
  if b.length < 4 then (b.length, 2) else if ¬ (bt b 0 = 1 ∨ bt b 0 = 2) then (0, 4) else if ¬ (bt b 1 = 1 ∨ bt b 1 = 2) then (1, 4)
  else if ¬ (bt b 2 = 0 ∧ bt b 3 = 0) then (2, 5) else if ((b.length : Int) - 4) % 20 ≠ 0 then (b.length, 2) else if b.length = 4 then (b.length, 8) else if 504 < b.length then (504, 8) else (0, 0)
theorem headR_ok {b : Bs} (h : (headR b).2 = 0) : 24 ≤ b.length ∧ b.length ≤ 504 ∧ (bt b 0 = 1 ∨ bt b 0 = 2) ∧ (bt b 1 = 1 ∨ bt b 1 = 2) ∧ bt b 2 = 0 ∧ bt b 3 = 0 ∧ ((b.length : Int) - 4) % 20 = 0 := by
  unfold headR at h
  split at h
  · simp at h
  split at h
  · simp at h
  split at h
  · simp at h
  split at h
  · simp at h
  split at h
  · simp at h
  split at h
  · simp at h
  split at h
  · simp at h
  · rename_i h1 h2 h3 h4 h5 h6 h7
    exact ⟨by omega, by omega, by omega, by omega, by omega, by omega, by omega⟩
theorem four_of {b : Bs} (h : ¬ b.length < 4) : ∃ w x y z r, b = w :: x :: y :: z :: r := by
  match b, h with
  | w :: x :: y :: z :: r, _ => exact ⟨w, x, y, z, r, rfl⟩
  | [], h => simp at h
  | [_], h => simp at h
  | [_, _], h => simp at h
  | [_, _, _], h => simp at h
theorem head_is {b : Bs} (hb : b.length ≤ 100000) : g_rip_head (b, ()) = some (((headR b).1, (headR b).2, ()), ()) := by
  rw [g_rip_head_eq]
  by_cases h4 : b.length < 4
  · rw [ifd (by omega)]; unfold headR; rw [if_pos h4]
  obtain ⟨w, x, y, z, r, rfl⟩ := four_of h4
  rw [ifn (by omega)]
  have e0 : bt (w :: x :: y :: z :: r) 0 = (w.toNat : Int) := rfl
  have e1 : bt (w :: x :: y :: z :: r) 1 = (x.toNat : Int) := rfl
  have e2 : bt (w :: x :: y :: z :: r) 2 = (y.toNat : Int) := rfl
  have e3 : bt (w :: x :: y :: z :: r) 3 = (z.toNat : Int) := rfl
  simp only [List.getElem?_cons_zero, List.getElem?_cons_succ, Option.bind_some]
  refine two_step (fun h => ?_) (fun ha => ?_)
  · unfold headR; rw [if_neg h4, if_pos (by rw [e0]; exact h)]
  refine two_step (fun h => ?_) (fun hb' => ?_)
  · unfold headR; rw [if_neg h4, if_neg (by rw [e0]; exact fun c => c ha), if_pos (by rw [e1]; exact h)]
  rw [if_pos (by omega), show (List.take 4 (w :: x :: y :: z :: r)).drop 2 = [y, z] from rfl, zero_is (by simp), Option.bind_some]
  have hz : zeroB [y, z] = true ↔ ((y.toNat : Int) = 0 ∧ (z.toNat : Int) = 0) := by
    simp only [zeroB, List.all_cons, List.all_nil, Bool.and_true, Bool.and_eq_true, beq_iff_eq]
    constructor
    · rintro ⟨rfl, rfl⟩; exact ⟨rfl, rfl⟩
    · rintro ⟨h1, h2⟩; exact ⟨u8_eq h1, u8_eq h2⟩
  refine nb_step (fun h => ?_) (fun hzz => ?_)
  · unfold headR; rw [if_neg h4, if_neg (by rw [e0]; exact fun c => c ha), if_neg (by rw [e1]; exact fun c => c hb'), if_pos (by rw [e2, e3, ← hz]; dsimp only at h; rw [h]; simp)]
  have hzz' := hz.1 hzz
  have hL : (4 : Int) ≤ ((w :: x :: y :: z :: r).length : Int) := by omega
  generalize hLL : (w :: x :: y :: z :: r).length = L at *
  rw [w64 (by omega) (by omega), Int.tmod_eq_emod_of_nonneg (by omega), Int.tdiv_eq_ediv_of_nonneg (by omega), w64 (by omega) (by omega)]
  have hd : headR (w :: x :: y :: z :: r) = (if ((L : Int) - 4) % 20 ≠ 0 then ((L : Int), 2) else if L = 4 then ((L : Int), 8) else if 504 < L then (504, 8) else (0, 0)) := by
    unfold headR; rw [hLL, if_neg (by omega), if_neg (by rw [e0]; exact fun c => c ha), if_neg (by rw [e1]; exact fun c => c hb'), if_neg (by rw [e2, e3]; exact fun c => c hzz')]
  rw [hd]
  refine dq_step (fun h => ?_) (fun h5 => ?_)
  · rw [if_pos (by omega)]
  rw [if_neg (show ¬ ((L : Int) - 4) % 20 ≠ 0 by omega)]
  refine bq_step (fun h => ?_) (fun h6 => ?_)
  · rw [if_pos (by omega)]
  rw [if_neg (show ¬ L = 4 by omega)]
  refine dq_step (fun h => ?_) (fun h7 => ?_)
  · rw [if_pos (by omega)]
  · rw [if_neg (by omega)]
def goR (f : Ent → Msg × Int) (b : Bs) : Nat → Nat → List Msg → List Msg × Int × Int
  | 0, _, acc => (acc, 0, 0)
  | k + 1, at_, acc => if (f (entF (cut_ b at_ 20))).2 ≠ 0 then ([], (at_ : Int), (f (entF (cut_ b at_ 20))).2) else goR f b k (at_ + 20) (acc ++ [(f (entF (cut_ b at_ 20))).1])
noncomputable def rt (cmd ver : Int) (says : Bs) (alone : Bool) (e : Ent) : Msg × Int := (routeM cmd ver says e, errR cmd ver says alone e)
theorem msgBo : bo_api_Msg ≤ 100000 := Nat.le_of_ble_eq_true (by kernel_rfl)
theorem parse_loop {n : Nat} {b : Bs} {cmd ver : Int} {says : Bs} {alone : Bool} (hb : b.length ≤ 100000) : ∀ (k m at_ : Nat) (acc : List Msg), at_ + 20 * k = b.length → k < m → acc.length + k ≤ 10000 →
    L_rip_Parse_0 n m b at_ acc cmd ver says alone = some (((goR (rt cmd ver says alone) b k at_ acc).1, (goR (rt cmd ver says alone) b k at_ acc).2.1, (goR (rt cmd ver says alone) b k at_ acc).2.2, ()), ()) := by
  intro k
  induction k with
  | zero =>
    intro m at_ acc h hm ha
    obtain ⟨m, rfl⟩ : ∃ k, m = k + 1 := ⟨m - 1, by omega⟩
    rw [L_rip_Parse_0_eq, ifn (by omega)]; rfl
  | succ k ih =>
    intro m at_ acc h hm ha
    obtain ⟨m, rfl⟩ : ∃ k, m = k + 1 := ⟨m - 1, by omega⟩
    have hl : (cut_ b at_ 20).length = 20 := cut_len (n := 20) (by omega)
    obtain ⟨m', er, hm'⟩ := route_is (cmd := cmd) (ver := ver) (says := says) (alone := alone) (entF_ok hl)
    rw [L_rip_Parse_0_eq, ifd (by omega), w64 (by omega) (by omega), if_pos (by omega)]
    rw [show (List.take ((at_ : Int) + 20).toNat b).drop ((at_ : Int)).toNat = cut_ b at_ 20 from rfl, entGet_is hl, Option.bind_some]
    dsimp only
    rw [er, Option.bind_some]
    dsimp only
    refine ne_step (fun he => ?_) (fun he => ?_)
    · rw [goR, if_pos (show (rt cmd ver says alone (entF (cut_ b at_ 20))).2 ≠ 0 from he)]; rfl
    · have := ih m (at_ + 20) (acc ++ [m']) (by omega) (by omega) (by simp; omega)
      rw [show ((at_ + 20 : Nat) : Int) = (at_ : Int) + 20 by omega] at this
      have hbo := msgBo
      rw [if_pos (roomB_of (by rw [show (acc.length + [m'].length) = acc.length + 1 from rfl]; exact Nat.le_trans (Nat.mul_le_mul (show acc.length + 1 ≤ 10000 by omega) hbo) (by decide))), this, goR, if_neg (show ¬ (rt cmd ver says alone (entF (cut_ b at_ 20))).2 ≠ 0 from fun c => c he), hm' he]; rfl
def authB (b : Bs) : Bool := b.take 2 == [255, 255]
theorem auth_is {s : Bs} (h : s.length = 20) : g_auth_Get (s, ()) = some (((if authB s = true then s.drop 2 else []), authB s, ()), ()) := by
  rw [g_auth_Get_eq, g_strings_CutPrefix_eq, g_internal_stringslite_CutPrefix_eq, g_internal_stringslite_HasPrefix_eq]
  rw [ifd (by simp; omega), if_pos (by simp; omega), Option.bind_some]
  rw [show (([255, 255] : Bs).length : Int).toNat = 2 from rfl]
  cases ha : authB s with
  | false =>
    have : (s.take 2 == [255, 255]) = false := ha
    rw [this]; rfl
  | true =>
    have : (s.take 2 == [255, 255]) = true := ha
    rw [this]
    dsimp only
    rw [ifnt, if_pos (by simp; omega), Option.bind_some, Option.bind_some]
    dsimp only
    rw [ifnt, if_neg (by simp; omega), if_pos rfl]
noncomputable def parseR (b : Bs) : List Msg × Int × Int :=
  if (headR b).2 ≠ 0 then ([], (headR b).1, (headR b).2)
  else if bt b 1 = 2 ∧ authB (cut_ b 4 20) = true then
    (if b.length = 24 then ([], 24, 8) else goR (rt (bt b 0) (bt b 1) ((cut_ b 4 20).drop 2) (decide (b.length = 44))) b ((b.length - 24) / 20) 24 [])
  else goR (rt (bt b 0) (bt b 1) [] (decide (b.length = 24))) b ((b.length - 4) / 20) 4 []
theorem beq_dec (a c : Nat) : (((a : Int) == (c : Int)) : Bool) = decide (a = c) := by
  rw [Bool.eq_iff_iff, beq_iff_eq, decide_eq_true_eq]; omega
theorem parse_is {b : Bs} (hb : b.length ≤ 100000) : g_rip_Parse (b, ()) = some (((parseR b).1, (parseR b).2.1, (parseR b).2.2, ()), ()) := by
  show h_rip_Parse fuel (b, ()) = _
  rw [h_rip_Parse_eq, head_is hb, Option.bind_some]
  dsimp only
  refine ne_step (fun he => ?_) (fun he => ?_)
  · unfold parseR; rw [if_pos he]
  obtain ⟨h1, h2, h3, h4, _, _, h5⟩ := headR_ok he
  have hl : (cut_ b 4 20).length = 20 := cut_len (p := 4) (n := 20) (by omega)
  rw [get_bt (i := 0) (by omega), Option.bind_some, get_bt (i := 1) (by omega), Option.bind_some, if_pos (by omega), show (List.take 24 b).drop 4 = cut_ b 4 20 from rfl, auth_is hl, Option.bind_some, w64n, w64n]
  have e0 : bt b 0 = (((b[0]?.getD 0).toNat : Nat) : Int) := rfl
  have e1 : bt b 1 = (((b[1]?.getD 0).toNat : Nat) : Int) := rfl
  rw [← e0, ← e1]
  have L4 := parse_loop (n := fuel) (cmd := bt b 0) (ver := bt b 1) (says := []) (alone := decide (b.length = 24)) hb ((b.length - 4) / 20) fuel 4 [] (by omega) (fuel_ge (by omega)) (by simp; omega)
  have no : ¬ (bt b 1 = 2 ∧ authB (cut_ b 4 20) = true) → (if ((4 : Int) == (b.length : Int)) = true then (some (([], 4, 8, ()), ()) : Option ((List Msg × Int × Int × Unit) × Unit)) else (L_rip_Parse_0 fuel fuel b 4 [] (bt b 0) (bt b 1) ([] : List UInt8) ((b.length : Int) == 24))) = some (((parseR b).1, (parseR b).2.1, (parseR b).2.2, ()), ()) := fun hn => by
    rw [if_neg (by simp; omega), show (((b.length : Int) == 24) : Bool) = decide (b.length = 24) from beq_dec _ 24, show (4 : Int) = ((4 : Nat) : Int) from rfl, L4]
    unfold parseR; rw [if_neg (fun c => c he), if_neg hn]
  dsimp only
  cases ha : authB (cut_ b 4 20) with
  | false => rw [iff_]; exact no (by rw [ha]; simp)
  | true =>
    rw [ift]
    refine bq_step (fun hv => ?_) (fun hv => no (fun c => hv c.1))
    have hp : parseR b = (if b.length = 24 then ([], 24, 8) else goR (rt (bt b 0) (bt b 1) ((cut_ b 4 20).drop 2) (decide (b.length = 44))) b ((b.length - 24) / 20) 24 []) := by
      unfold parseR; rw [if_neg (fun c => c he), if_pos ⟨hv, ha⟩]
    rw [hp]
    refine bq_step (fun hq => ?_) (fun hq => ?_)
    · rw [if_pos (by omega)]
    · have L24 := parse_loop (n := fuel) (cmd := bt b 0) (ver := bt b 1) (says := (cut_ b 4 20).drop 2) (alone := decide (b.length = 44)) hb ((b.length - 24) / 20) fuel 24 [] (by omega) (fuel_ge (by omega)) (by simp; omega)
      rw [ift, if_neg (show ¬ b.length = 24 by omega), show (((b.length : Int) == 44) : Bool) = decide (b.length = 44) from beq_dec _ 44, show (24 : Int) = ((24 : Nat) : Int) from rfl, L24]
end Go.VP
set_option linter.unusedVariables false
set_option linter.unusedSimpArgs false
set_option maxRecDepth 100000
namespace Go.VP
open Go Go.VI
def entB (e : Ent) : Bs := be 2 e.family ++ be 2 e.tag ++ e.addr ++ e.mask ++ e.next ++ be 4 e.metric
def entM (m : Msg) : Ent := ⟨m.family, m.tag, m.prefix_, (if m.family = 2 ∧ m.ver = 2 then maskF m.plen else z4), m.next, m.metric⟩
def lineF (m : Msg) : Bs := entB (entM m)
def togP (f m : Msg) : Prop := m.cmd = f.cmd ∧ m.ver = f.ver ∧ m.auth = f.auth ∧ m.family ≠ 0 ∧ f.family ≠ 0
instance (f m : Msg) : Decidable (togP f m) := by unfold togP; infer_instance
def encGo (f : Msg) (most : Int) : List Msg → Nat → Bs → Bs × Int × Int
  | [], _, acc => (acc, 0, 0)
  | m :: r, i, acc => if (i : Int) = most then ([], (i : Int), 8) else if 0 < i ∧ ¬ togP f m then ([], (i : Int), 7) else encGo f most r (i + 1) (acc ++ lineF m)
open Classical in
noncomputable def badR : List Msg → Nat → Option Nat
  | [], _ => none
  | m :: r, i => if okR m then badR r (i + 1) else some i
def mostR (f : Msg) : Int := if f.auth = [] then 25 else 24
def headE (f : Msg) : Bs := [u8of (f.cmd % 256), u8of (f.ver % 256), 0, 0] ++ (if f.auth = [] then [] else [255, 255] ++ f.auth)
noncomputable def encR (l : List Msg) : Bs × Int × Int := match badR l 0 with
  | some i => ([], (i : Int), 1)
  | none => match l with
    | [] => ([], 0, 8)
    | f :: _ => encGo f (mostR f) l 0 (headE f)
theorem badR_ok : ∀ {l : List Msg} {i : Nat}, (∀ m ∈ l, okR m) → badR l i = none
  | [], _, _ => rfl
  | x :: r, i, h => by
    unfold badR; rw [if_pos (h x (by simp))]; exact badR_ok (fun m hm => h m (by simp [hm]))
end Go.VP
set_option linter.unusedVariables false
set_option linter.unusedSimpArgs false
set_option maxRecDepth 100000
namespace Go.VP
open Go Go.VI
theorem goR_all {P : Msg → Prop} {f : Ent → Msg × Int} {b : Bs} (hf : ∀ e, P (f e).1) : ∀ (k at_ : Nat) (acc : List Msg), (∀ m ∈ acc, P m) → ∀ m ∈ (goR f b k at_ acc).1, P m
  | 0, _, acc, h => h
  | k + 1, at_, acc, h => by
    rw [goR]
    split
    · intro m hm; cases hm
    · exact goR_all hf k (at_ + 20) _ (fun m hm => by
        rcases List.mem_append.1 hm with hm | hm
        · exact h m hm
        · rw [List.mem_singleton] at hm; rw [hm]; exact hf _)
theorem parseR_all {P : Msg → Prop} {b : Bs} (hP : ∀ c v s e, P (routeM c v s e)) : ∀ m ∈ (parseR b).1, P m := by
  unfold parseR
  split
  · intro m hm; cases hm
  split
  · split
    · intro m hm; cases hm
    · exact goR_all (fun e => hP _ _ _ e) _ _ _ (fun m hm => by cases hm)
  · exact goR_all (fun e => hP _ _ _ e) _ _ _ (fun m hm => by cases hm)
end Go.VP
set_option linter.unusedVariables false
set_option linter.unusedSimpArgs false
set_option maxRecDepth 100000
namespace Go.VP
open Go Go.VI
theorem bare_routeM (c v : Int) (s : Bs) (e : Ent) : bareB (routeM c v s e) = true := by
  have : bareOf (routeM c v s e) = some (routeM c v s e) := by unfold bareOf; rw [if_pos (show (routeM c v s e).kind = 1 from rfl)]; rfl
  unfold bareB; rw [this]; exact eqB_refl _
theorem cut_app (s : Bs) (p q : Nat) (n m : Nat) (h : q = p + n) : cut_ s p n ++ cut_ s q m = cut_ s p (n + m : Nat) := by
  subst h
  unfold cut_
  rw [show ((p : Int) + (n : Int)).toNat = p + n by omega, show (((p + n : Nat) : Int) + (m : Int)).toNat = p + n + m by omega, show ((p : Int) + ((n + m : Nat) : Int)).toNat = p + n + m by omega, Int.toNat_natCast, Int.toNat_natCast]
  rw [List.drop_take, List.drop_take, List.drop_take, ← List.drop_drop, show p + n - p = n by omega, show p + n + m - (p + n) = m by omega, show p + n + m - p = n + m by omega, List.take_add]
theorem be2_cut {s : Bs} {p : Nat} (h : p + 2 ≤ s.length) : be 2 (num (cut_ s p 2)) = cut_ s p 2 := be_num 2 _ (cut_len (n := 2) h)
theorem be4_cut {s : Bs} {p : Nat} (h : p + 4 ≤ s.length) : be 4 (num (cut_ s p 4)) = cut_ s p 4 := be_num 4 _ (cut_len (n := 4) h)
theorem entB_entF {s : Bs} (h : s.length = 20) : entB (entF s) = s := by
  unfold entB entF
  dsimp only
  have a := be2_cut (s := s) (p := 0) (by omega)
  have b := be2_cut (s := s) (p := 2) (by omega)
  have c := be4_cut (s := s) (p := 16) (by omega)
  rw [show ((0 : Nat) : Int) = 0 from rfl] at a
  rw [show ((2 : Nat) : Int) = 2 from rfl] at b
  rw [show ((16 : Nat) : Int) = 16 from rfl] at c
  rw [a, b, c]
  have e1 : cut_ s 0 2 ++ cut_ s 2 2 = cut_ s 0 4 := cut_app s 0 2 2 2 rfl
  have e2 : cut_ s 0 4 ++ cut_ s 4 4 = cut_ s 0 8 := cut_app s 0 4 4 4 rfl
  have e3 : cut_ s 0 8 ++ cut_ s 8 4 = cut_ s 0 12 := cut_app s 0 8 8 4 rfl
  have e4 : cut_ s 0 12 ++ cut_ s 12 4 = cut_ s 0 16 := cut_app s 0 12 12 4 rfl
  have e5 : cut_ s 0 16 ++ cut_ s 16 4 = cut_ s 0 20 := cut_app s 0 16 16 4 rfl
  have f : cut_ s 0 20 = s := by unfold cut_; simp [← h]
  rw [e1, e2, e3, e4, e5, f]
theorem route_good {c v : Int} {s : Bs} {al : Bool} {e : Ent} (h : EntOk e) (hc : c = 1 ∨ c = 2) (hv : v = 1 ∨ v = 2) (hs : s = [] ∨ (v = 2 ∧ s.length = 18)) (he : errR c v s al e = 0) : okR (routeM c v s e) ∧ entM (routeM c v s e) = e ∧ (e.family = 0 → al = true) := by
  unfold errR at he
  by_cases f0 : e.family = 0
  · rw [if_pos f0] at he
    split at he
    · rename_i hh
      obtain ⟨ha, hm, ho⟩ := hh
      refine ⟨ho, ?_, fun _ => ha⟩
      unfold entM routeM
      dsimp only
      rw [if_neg (by omega), ← hm]
    · simp at he
  rw [if_neg f0] at he
  split at he
  · simp at he
  rename_i f2
  have f2 : e.family = 2 := by omega
  have h1 := h.tag
  by_cases v1 : v = 1
  · rw [if_pos v1] at he
    split at he
    · simp at he
    rename_i hz
    split at he
    · simp at he
    rename_i hm
    have hz1 : e.tag = 0 := by grind
    have hz2 : e.mask = z4 := by grind
    have hz3 : e.next = z4 := by grind
    refine ⟨⟨rfl, bare_routeM .., hc, hv, h.addr, h.next, hs, .inr ⟨f2, ?_, ?_, .inl ⟨v1, hz1, ?_, hz3⟩⟩⟩, ?_, fun c => absurd c f0⟩
    · show 1 ≤ e.metric; omega
    · show e.metric ≤ 16; omega
    · show (if e.family = 0 then (0 : Int) else if v = 1 then 32 else (plenF e.mask).1) = 32
      rw [if_neg f0, if_pos v1]
    · unfold entM routeM
      dsimp only
      rw [if_neg (by omega), ← hz2]
  · rw [if_neg v1] at he
    split at he
    · simp at he
    rename_i hp
    split at he
    · simp at he
    rename_i hm
    have hp1 : (plenF e.mask).2 = true := by grind
    have hp2 : cleanB e.addr (plenF e.mask).1 = true := by grind
    have hk := plenF_ok hp1
    have hpl : (routeM c v s e).plen = (plenF e.mask).1 := by
      show (if e.family = 0 then (0 : Int) else if v = 1 then 32 else (plenF e.mask).1) = _
      rw [if_neg f0, if_neg v1]
    refine ⟨⟨rfl, bare_routeM .., hc, hv, h.addr, h.next, hs, .inr ⟨f2, ?_, ?_, .inr ⟨?_, ?_, ?_, ?_, ?_, ?_⟩⟩⟩, ?_, fun c => absurd c f0⟩
    · show 1 ≤ e.metric; omega
    · show e.metric ≤ 16; omega
    · show v = 2; omega
    · show 0 ≤ e.tag; omega
    · show e.tag ≤ 65535; omega
    · rw [hpl]; omega
    · rw [hpl]; omega
    · rw [hpl]; exact hp2
    · unfold entM
      rw [hpl, if_pos (show (routeM c v s e).family = 2 ∧ (routeM c v s e).ver = 2 from ⟨f2, by show v = 2; omega⟩), hk.2.2]; rfl
theorem go_good {c v : Int} {s : Bs} {al : Bool} {b : Bs} (hc : c = 1 ∨ c = 2) (hv : v = 1 ∨ v = 2) (hs : s = [] ∨ (v = 2 ∧ s.length = 18)) : ∀ (k at_ : Nat) (acc : List Msg), at_ + 20 * k = b.length → (goR (rt c v s al) b k at_ acc).2.2 = 0 →
    ∃ r, (goR (rt c v s al) b k at_ acc) = (acc ++ r, 0, 0) ∧ r.length = k ∧ (∀ m ∈ r, okR m ∧ m.cmd = c ∧ m.ver = v ∧ m.auth = s ∧ (m.family = 0 → al = true)) ∧ r.flatMap lineF = b.drop at_
  | 0, at_, acc, h, _ => ⟨[], by simp [goR], rfl, by simp, by simp; omega⟩
  | k + 1, at_, acc, h, he => by
    have hl : (cut_ b at_ 20).length = 20 := cut_len (n := 20) (by omega)
    rw [goR] at he ⊢
    by_cases h0 : (rt c v s al (entF (cut_ b at_ 20))).2 = 0
    · rw [if_neg (fun c => c h0)] at he ⊢
      obtain ⟨r, h1, h2, h3, h4⟩ := go_good hc hv hs k (at_ + 20) _ (by omega) he
      obtain ⟨o1, o2, o3⟩ := route_good (al := al) (entF_ok hl) hc hv hs h0
      refine ⟨routeM c v s (entF (cut_ b at_ 20)) :: r, by rw [h1]; simp [rt], by simp [h2], fun m hm => ?_, ?_⟩
      · rcases List.mem_cons.1 hm with rfl | hm
        · exact ⟨o1, rfl, rfl, rfl, o3⟩
        · exact h3 m hm
      · rw [List.flatMap_cons, h4]
        unfold lineF
        rw [o2, entB_entF hl]
        have : cut_ b at_ 20 = (b.drop at_).take 20 := by
          unfold cut_
          rw [show ((at_ : Int) + 20).toNat = at_ + 20 by omega, Int.toNat_natCast, List.drop_take, show at_ + 20 - at_ = 20 by omega]
        rw [this, ← List.drop_drop, List.take_append_drop]
    · rw [if_pos h0] at he; exact absurd he h0
theorem enc_good {f : Msg} {most : Int} : ∀ (l : List Msg) (i : Nat) (acc : Bs), (i + l.length : Nat) ≤ most → (∀ (j : Nat) (h : j < l.length), 0 < i + j → togP f l[j]) → encGo f most l i acc = (acc ++ l.flatMap lineF, 0, 0)
  | [], i, acc, _, _ => by simp [encGo]
  | m :: r, i, acc, h, ht => by
    rw [encGo, if_neg (by simp at h; omega), if_neg (fun c => c.2 (ht 0 (by simp) (by omega))), enc_good r (i + 1) _ (by simp at h ⊢; omega) (fun j hj _ => by
      have := ht (j + 1) (by simp; omega) (by omega)
      simpa using this)]
    simp
end Go.VP
set_option linter.unusedVariables false
set_option linter.unusedSimpArgs false
set_option maxRecDepth 100000
namespace Go.VP
open Go Go.VI
theorem headR_rng (b : Bs) : 0 ≤ (headR b).1 ∧ (headR b).1 ≤ b.length := by
  unfold headR
  split
  · simp
  split
  · simp
  split
  · dsimp only; omega
  split
  · dsimp only; omega
  split
  · simp
  split
  · simp
  split
  · dsimp only; omega
  · simp
theorem goR_err {f : Ent → Msg × Int} {b : Bs} : ∀ (k at_ : Nat) (acc : List Msg), at_ + 20 * k ≤ b.length → (goR f b k at_ acc).2.2 ≠ 0 → (goR f b k at_ acc).1 = [] ∧ 0 ≤ (goR f b k at_ acc).2.1 ∧ (goR f b k at_ acc).2.1 ≤ b.length
  | 0, at_, acc, h, he => absurd rfl he
  | k + 1, at_, acc, h, he => by
    rw [goR] at he ⊢
    split
    · exact ⟨rfl, by dsimp only; omega, by dsimp only; omega⟩
    · rename_i h0
      rw [if_neg h0] at he
      exact goR_err k (at_ + 20) _ (by omega) he
theorem parseR_err {b : Bs} (h : (parseR b).2.2 ≠ 0) : (parseR b).1 = [] ∧ 0 ≤ (parseR b).2.1 ∧ (parseR b).2.1 ≤ b.length := by
  unfold parseR at h ⊢
  by_cases h0 : (headR b).2 = 0
  · have hk := headR_ok h0
    rw [if_neg (fun c => c h0)] at h ⊢
    by_cases h1 : bt b 1 = 2 ∧ authB (cut_ b 4 20) = true
    · rw [if_pos h1] at h ⊢
      by_cases h2 : b.length = 24
      · rw [if_pos h2]; exact ⟨rfl, by dsimp only; omega, by dsimp only; omega⟩
      · rw [if_neg h2] at h ⊢; exact goR_err _ _ _ (by omega) h
    · rw [if_neg h1] at h ⊢; exact goR_err _ _ _ (by omega) h
  · rw [if_pos h0]; exact ⟨rfl, headR_rng b⟩
theorem parse_good {b : Bs} (h : (parseR b).2.2 = 0) : ∃ r, parseR b = (r, 0, 0) ∧ 1 ≤ r.length ∧ r.length ≤ 25 ∧ (∀ m ∈ r, okR m) ∧ encR r = (b, 0, 0) := by
  unfold parseR at h ⊢
  by_cases h0 : (headR b).2 = 0
  rotate_left
  · rw [if_pos h0] at h; exact absurd h h0
  obtain ⟨k1, k2, k3, k4, k5, k6, k7⟩ := headR_ok h0
  rw [if_neg (fun c => c h0)] at h ⊢
  obtain ⟨w, x, y, z, t, rfl⟩ := four_of (b := b) (by omega)
  have e0 : bt (w :: x :: y :: z :: t) 0 = (w.toNat : Int) := rfl
  have e1 : bt (w :: x :: y :: z :: t) 1 = (x.toNat : Int) := rfl
  have hy : y = 0 := u8_eq (show (y.toNat : Int) = ((0 : UInt8).toNat : Int) from k5)
  have hz : z = 0 := u8_eq (show (z.toNat : Int) = ((0 : UInt8).toNat : Int) from k6)
  subst hy; subst hz
  have fin : ∀ (r : List Msg) (s : Bs) (al : Bool) (at_ : Nat), (s = [] ∨ (bt (w :: x :: 0 :: 0 :: t) 1 = 2 ∧ s.length = 18)) → (al = true → r.length = 1) → 1 ≤ r.length → r.length + (if s = [] then 0 else 1) ≤ 25 →
      (∀ m ∈ r, okR m ∧ m.cmd = bt (w :: x :: 0 :: 0 :: t) 0 ∧ m.ver = bt (w :: x :: 0 :: 0 :: t) 1 ∧ m.auth = s ∧ (m.family = 0 → al = true)) → r.flatMap lineF = (w :: x :: 0 :: 0 :: t).drop at_ → [w, x, 0, 0] ++ (if s = [] then [] else [255, 255] ++ s) = (w :: x :: 0 :: 0 :: t).take at_ → encR r = (w :: x :: 0 :: 0 :: t, 0, 0) := by
    intro r s al at_ hs hal hr1 hr2 hm hfl htk
    unfold encR
    rw [badR_ok (fun m h => (hm m h).1)]
    cases r with
    | nil => simp at hr1
    | cons f r =>
      obtain ⟨f1, f2, f3, f4, f5⟩ := hm f (by simp)
      dsimp only
      have hmo : (((f :: r).length : Nat) : Int) ≤ mostR f := by
        unfold mostR
        rw [f4]
        by_cases hs0 : s = []
        · rw [if_pos hs0] at hr2 ⊢; omega
        · rw [if_neg hs0] at hr2 ⊢; omega
      rw [enc_good (f :: r) 0 _ (by simpa using hmo) (fun j hj h0 => ?_)]
      · have : headE f = (w :: x :: 0 :: 0 :: t).take at_ := by
          rw [← htk]
          unfold headE
          rw [f2, f3, f4, e0, e1, u8of_emod' (by omega), u8of_emod' (by omega), u8of_nat, u8of_nat]
        rw [this, hfl, List.take_append_drop]
      · obtain ⟨g1, g2, g3, g4, g5⟩ := hm ((f :: r)[j]) (List.getElem_mem hj)
        have nal : ¬ al = true := fun c => by have := hal c; omega
        exact ⟨by rw [g2, f2], by rw [g3, f3], by rw [g4, f4], fun c => nal (g5 c), fun c => nal (f5 c)⟩
  generalize hB : (w :: x :: 0 :: 0 :: t) = B at *
  have hl : (cut_ B 4 20).length = 20 := cut_len (p := 4) (n := 20) (by omega)
  have tk4 : B.take 4 = [w, x, 0, 0] := by rw [← hB]; rfl
  by_cases h1 : bt B 1 = 2 ∧ authB (cut_ B 4 20) = true
  · rw [if_pos h1] at h ⊢
    by_cases h2 : B.length = 24
    · rw [if_pos h2] at h; simp at h
    rw [if_neg h2] at h ⊢
    have hs : ((cut_ B 4 20).drop 2).length = 18 := by simp [hl]
    obtain ⟨r, r1, r2, r3, r4⟩ := go_good k3 k4 (.inr ⟨h1.1, hs⟩) ((B.length - 24) / 20) 24 [] (by omega) h
    rw [r1]
    refine ⟨r, by simp, by omega, by omega, fun m hm => (r3 m hm).1, fin r _ _ 24 (.inr ⟨h1.1, hs⟩) (fun c => by simp at c; omega) (by omega) (by split <;> omega) r3 r4 ?_⟩
    have hne : ¬ ((cut_ B 4 20).drop 2 = []) := fun c => by rw [c] at hs; simp at hs
    rw [if_neg hne, ← tk4]
    have h2 : (cut_ B 4 20).take 2 = [255, 255] := by have := h1.2; unfold authB at this; simpa using this
    rw [← h2, List.take_append_drop]
    have : cut_ B 4 20 = (B.take 24).drop 4 := rfl
    rw [this]
    have := List.take_append_drop 4 (B.take 24)
    rw [List.take_take, show min 4 24 = 4 by decide] at this
    exact this
  · rw [if_neg h1] at h ⊢
    obtain ⟨r, r1, r2, r3, r4⟩ := go_good k3 k4 (.inl rfl) ((B.length - 4) / 20) 4 [] (by omega) h
    rw [r1]
    exact ⟨r, by simp, by omega, by omega, fun m hm => (r3 m hm).1, fin r _ _ 4 (.inl rfl) (fun c => by simp at c; omega) (by omega) (by simp; omega) r3 r4 (by rw [if_pos rfl, tk4]; rfl)⟩
end Go.VP
set_option linter.unusedVariables false
set_option linter.unusedSimpArgs false
set_option maxRecDepth 100000
namespace Go.VP
open Go Go.VI
def extB (l : List Sub) : Bool := l.all (subB 0 255)
def AllE (l : List Sub) : Prop := ∀ y ∈ l, 0 ≤ y.type_ ∧ y.type_ ≤ 255 ∧ y.data.length ≤ 255
theorem allE_iff {l : List Sub} : extB l = true ↔ AllE l := by simp [extB, subB, AllE]
theorem reright_is {l : List Sub} (hl : l.length ≤ 1000000000) : g_ref13_Right (l, ()) = some ((extB l, ()), ()) := by
  rw [g_ref13_Right_eq, rsubs_is hl]; rfl
def goE (s : Bs) : Nat → Nat → List Sub → List Sub × Int × Int
  | 0, _, acc => (acc, 0, 0)
  | d + 1, p, acc =>
    if p < s.length then
      if (s.length : Int) < p + 2 + bt s (p + 1) then ([], p, 2)
      else goE s d (p + 2 + (bt s (p + 1)).toNat) (acc ++ [⟨bt s p, cut_ s (p + 2) (bt s (p + 1))⟩])
    else (acc, 0, 0)
def getE (s : Bs) : List Sub × Int × Int := goE s (s.length + 1) 0 []
theorem eget_loop {s : Bs} {n : Nat} (hs : s.length ≤ 1000000) : ∀ (d m p : Nat) (acc : List Sub), s.length < p + d → p ≤ s.length → d < m → acc.length ≤ p →
    L_ext_Get_0 n m acc s p s.length false = some (trip (goE s d p acc), ()) := by
  intro d
  induction d with
  | zero => intro m p acc h1 h2; omega
  | succ d ih =>
    intro m p acc h1 h2 hm ha
    obtain ⟨m, rfl⟩ : ∃ k, m = k + 1 := ⟨m - 1, by omega⟩
    have w : WfC s p s.length := ⟨by omega, by omega, by omega, by omega⟩
    rw [L_ext_Get_0_eq]
    rw [show g_cursor_Left (⟨s, (p : Int), (s.length : Int), false⟩, ()) = _ from left_is w, Option.bind_some]
    dsimp only
    unfold goE
    by_cases hp : p < s.length
    · rw [ifd (by omega), if_pos hp]
      rw [show g_cursor_Num (⟨s, (p : Int), (s.length : Int), false⟩, 1, ()) = _ from num_ok w (by omega) (by omega) (by omega), Option.bind_some]
      dsimp only
      have w1 := w.fwd (n := 1) (by omega) (by omega)
      rw [num1 (by omega)]
      by_cases h2' : p + 2 ≤ s.length
      · rw [num_ok w1 (by omega) (by omega) (by omega), Option.bind_some]
        dsimp only
        have hb := bt_rng s (p + 1)
        have w2 := w1.fwd (n := 1) (by omega) (by omega)
        rw [show (p : Int) + 1 = ((p + 1 : Nat) : Int) by omega, num1 (s := s) (p := p + 1) (by omega)]
        by_cases h3 : (s.length : Int) < p + 2 + bt s (p + 1)
        · rw [if_pos h3, text_bad (by rw [show (((p + 1 : Nat) : Int)) = (p : Int) + 1 by omega]; exact w2) (.inr (.inr (by omega))), Option.bind_some]
          rfl
        · rw [if_neg h3, text_ok (by rw [show (((p + 1 : Nat) : Int)) = (p : Int) + 1 by omega]; exact w2) (by omega) (by omega), Option.bind_some]
          dsimp only
          rw [iff_, if_pos (room_mul (by simp; omega) subBo)]
          have := ih m (p + 2 + (bt s (p + 1)).toNat) (acc ++ [⟨bt s p, cut_ s (p + 2) (bt s (p + 1))⟩]) (by omega) (by omega) (by omega) (by simp; omega)
          rw [← this, show ((p + 1 : Nat) : Int) + 1 = (p : Int) + 2 by omega]
          congr 1
      · have hb : bt s (p + 1) = 0 := by unfold bt; rw [List.getElem?_eq_none (by omega)]; rfl
        rw [num_bad w1 (by omega) (by omega) (.inr (by omega)), Option.bind_some]
        dsimp only
        rw [text_bad w1 (.inl rfl), Option.bind_some, hb, if_pos (show (s.length : Int) < p + 2 + 0 by omega)]
        rfl
    · rw [ifn (by omega), if_neg hp]
theorem eget_is {s : Bs} (hs : s.length ≤ 1000000) : g_ext_Get (s, ()) = some (trip (getE s), ()) := by
  show h_ext_Get fuel _ = _
  rw [h_ext_Get_eq, new_is, Option.bind_some]
  exact eget_loop (n := fuel) hs (s.length + 1) fuel 0 [] (by omega) (by omega) (fuel_ge (by omega)) (by simp)
end Go.VP
set_option linter.unusedVariables false
set_option linter.unusedSimpArgs false
set_option maxRecDepth 100000
namespace Go.VP
open Go Go.VI
theorem cut_dropN (b : Bs) (p k : Nat) : cut_ b p (k : Int) = (b.drop p).take k := by
  unfold cut_
  rw [show ((p : Int) + (k : Int)).toNat = p + k by omega, Int.toNat_natCast, List.drop_take]
  congr 1
  omega
theorem goE_place {s : Bs} : ∀ (d p : Nat) (acc : List Sub), 0 ≤ (goE s d p acc).2.1 ∧ (goE s d p acc).2.1 ≤ s.length ∧ ((goE s d p acc).2.2 = 0 ∨ (goE s d p acc).2.2 = 2)
  | 0, p, acc => by simp [goE]
  | d + 1, p, acc => by
    unfold goE
    split
    · split
      · dsimp only; omega
      · exact goE_place d _ _
    · simp
theorem getE_place (s : Bs) : 0 ≤ (getE s).2.1 ∧ (getE s).2.1 ≤ s.length ∧ ((getE s).2.2 = 0 ∨ (getE s).2.2 = 2) := goE_place _ _ _
theorem goE_ok {s : Bs} : ∀ (d p : Nat) (acc : List Sub), s.length < p + d → (goE s d p acc).2.2 = 0 → (goE s d p acc).2.1 = 0 ∧ ∃ l, (goE s d p acc).1 = acc ++ l ∧ AllE l ∧ encS l = s.drop p ∧ 2 * l.length + p ≤ s.length + p
  | 0, p, acc, hd, h => ⟨rfl, [], by simp [goE], (fun y hy => by cases hy), by rw [List.drop_eq_nil_of_le (by omega)]; rfl, by simp⟩
  | d + 1, p, acc, hd, h => by
    unfold goE at h ⊢
    by_cases h1 : p < s.length
    · rw [if_pos h1] at h ⊢
      by_cases h2 : (s.length : Int) < p + 2 + bt s (p + 1)
      · rw [if_pos h2] at h; cases h
      · rw [if_neg h2] at h ⊢
        have hb := bt_rng s (p + 1)
        have hb0 := bt_rng s p
        obtain ⟨k0, l, k1, k2, k3, k4⟩ := goE_ok d _ _ (by omega) h
        have hcl : (cut_ s (p + 2) (bt s (p + 1))).length = (bt s (p + 1)).toNat := by
          have := cut_length (s := s) (p := (p : Int) + 2) (n := bt s (p + 1)) (by omega) (by omega) (by omega)
          omega
        refine ⟨k0, ⟨bt s p, cut_ s (p + 2) (bt s (p + 1))⟩ :: l, by rw [k1]; simp, fun y hy => ?_, ?_, ?_⟩
        · rcases List.mem_cons.1 hy with rfl | hy
          · exact ⟨hb0.1, by show bt s p ≤ 255; omega, by show (cut_ s (p + 2) (bt s (p + 1))).length ≤ 255; omega⟩
          · exact k2 y hy
        · unfold encS
          rw [k3]
          dsimp only
          rw [hcl]
          have e1 : u8of (bt s p) = s[p] := by
            have : bt s p = (s[p].toNat : Int) := by unfold bt; simp [h1]
            rw [this, u8of_nat]
          have hp1 : p + 1 < s.length := by omega
          have e2 : u8of (((bt s (p + 1)).toNat : Nat) : Int) = s[p + 1] := by
            have : bt s (p + 1) = (s[p + 1].toNat : Int) := by unfold bt; simp [hp1]
            rw [this, Int.toNat_natCast, u8of_nat]
          have e3 : cut_ s ((p : Int) + 2) (bt s (p + 1)) = (s.drop (p + 2)).take (bt s (p + 1)).toNat := by
            have := cut_dropN s (p + 2) (bt s (p + 1)).toNat
            rw [show ((p + 2 : Nat) : Int) = (p : Int) + 2 by omega, show (((bt s (p + 1)).toNat : Nat) : Int) = bt s (p + 1) by omega] at this
            exact this
          rw [e1, e2, e3, List.drop_eq_getElem_cons h1, List.drop_eq_getElem_cons hp1, show p + 1 + 1 = p + 2 by omega, show s.drop (p + 2 + (bt s (p + 1)).toNat) = (s.drop (p + 2)).drop (bt s (p + 1)).toNat by rw [List.drop_drop], List.take_append_drop]
        · have := congrArg List.length k3
          simp only [List.length_cons]
          have e := encS_length l
          have hlen : ∀ l : List Sub, 2 * (l.length : Int) ≤ sumN l := fun l => by
            induction l with
            | nil => simp [sumN]
            | cons y l ih => simp only [sumN, List.length_cons]; omega
          have := hlen l
          rw [List.length_drop] at *
          omega
    · rw [if_neg h1] at h ⊢
      exact ⟨rfl, [], by simp, (fun y hy => by cases hy), by rw [List.drop_eq_nil_of_le (by omega)]; rfl, by simp⟩
theorem getE_ok {s : Bs} (h : (getE s).2.2 = 0) : (getE s).2.1 = 0 ∧ AllE (getE s).1 ∧ encS (getE s).1 = s ∧ 2 * (getE s).1.length ≤ s.length := by
  obtain ⟨k0, l, k1, k2, k3, k4⟩ := goE_ok (s := s) (s.length + 1) 0 [] (by omega) h
  rw [List.nil_append] at k1
  unfold getE
  rw [k1]
  exact ⟨k0, k2, by rw [k3]; rfl, by omega⟩
end Go.VP
set_option linter.unusedVariables false
set_option linter.unusedSimpArgs false
set_option maxRecDepth 100000
namespace Go.VP
open Go Go.VI
def z16 : Bs := [0, 0, 0, 0, 0, 0, 0, 0, 0, 0, 0, 0, 0, 0, 0, 0]
theorem zeros16 : g_octet_Zeros (16, ()) = some ((z16, ()), ()) := by
  rw [g_octet_Zeros_eq, if_pos (by unfold roomI; decide)]; rfl
theorem none12_is : g_ref12_none () = some ((z16, ()), ()) := by
  rw [g_ref12_none_eq, g_ref02_Zeros_eq, ifn (by decide), if_pos (by unfold roomI; decide), Option.bind_some]; rfl
def preB (a : Bs) (n : Int) : Bool := decide (0 ≤ n ∧ n ≤ 128) && cleanB a n
theorem pright16_is {a : Bs} {n : Int} (h : a.length = 16) (hn : IntKind.has .i64 n) : g_prefix_Right (a, n, ()) = some ((preB a n, ()), ()) := by
  have h8 : IntKind.wrap .i64 (8 * (a.length : Int)) = 128 := by rw [h]; rfl
  rw [g_prefix_Right_eq, h8]
  unfold preB
  refine bq_step (fun q => by omega) (fun _ => ?_)
  refine bq_step (fun _ => ?_) (fun q => by omega)
  refine dq_step' (fun h0 => ?_) (fun h0 => ?_)
  · refine dq_step' (fun h1 => ?_) (fun h1 => ?_)
    · rw [clean_is (by omega) hn, Option.bind_some, decide_eq_true ⟨h0, h1⟩, Bool.true_and]
    · rw [decide_eq_false (fun q => h1 q.2), Bool.false_and]
  · rw [decide_eq_false (fun q => h0 q.1), Bool.false_and]
theorem rright16_is {a : Bs} {n : Int} (h : a.length = 16) : g_ref04_Right (a, n, ()) = some ((preB a n, ()), ()) := by
  rw [rright4_is (by omega) (.inr h), h]; rfl
structure NgR (m : Msg) : Prop where
  kind : m.kind = 2
  bare : bareB m = true
  cmd : m.cmd = 1 ∨ m.cmd = 2
  tag : 0 ≤ m.tag ∧ m.tag < 65536
  metric : 1 ≤ m.metric ∧ m.metric ≤ 16
  len : m.prefix_.length = 16
  pre : preB m.prefix_ m.plen = true
  next : m.next = z16 ∨ linkB m.next = true
open Classical in
noncomputable def ngB (m : Msg) : Bool := decide (NgR m)
theorem ngR_iff {m : Msg} : ngB m = true ↔ NgR m := by simp [ngB]
theorem ngB_no {m : Msg} (h : ¬ NgR m) : ngB m = false := by simp [ngB, h]
theorem NgR.next16 {m : Msg} (h : NgR m) : m.next.length = 16 := by
  rcases h.next with e | e
  · rw [e]; rfl
  · exact (linkB_len e).1
theorem NgR.plen {m : Msg} (h : NgR m) : 0 ≤ m.plen ∧ m.plen ≤ 128 := by
  have := h.pre; unfold preB at this; simp at this; exact this.1
structure GoodG (m : Msg) : Prop where
  tag : IntKind.has .i64 m.tag
  plen : IntKind.has .i64 m.plen
  cmd : IntKind.has .i64 m.cmd
  list : m.list.length ≤ 1000000000
  subs : m.subs.length ≤ 1000000000
theorem link_or {m : Msg} {r : Option ((Bool × Unit) × Unit)} (h : r = some ((linkB m.next, ()), ())) (hk : NgR m ↔ (m.next = z16 ∨ linkB m.next = true)) : (if (m.next == z16) = true then (some ((true, ()), ()) : Option ((Bool × Unit) × Unit)) else r.bind fun r5 => some ((r5.1.1, ()), ())) = some ((ngB m, ()), ()) := by
  refine be_step (fun q => by rw [ngR_iff.2 (hk.2 (.inl q))]) (fun q => ?_)
  rw [h, Option.bind_some]
  cases hl : linkB m.next with
  | true => rw [ngR_iff.2 (hk.2 (.inr hl))]
  | false => rw [ngB_no (fun x => by rcases hk.1 x with e | e; exact q e; rw [hl] at e; cases e)]
theorem rngright_is {m : Msg} (g : GoodG m) : g_ref12_Right (m, ()) = some ((ngB m, ()), ()) := by
  rw [g_ref12_Right_eq]
  have no : ¬ NgR m → (some ((false, ()), ()) : Option ((Bool × Unit) × Unit)) = some ((ngB m, ()), ()) := fun h => by rw [ngB_no h]
  refine bq_step (fun hk => ?_) (fun q => no (fun h => q h.kind))
  rw [rbare_is g.list g.subs, Option.bind_some]
  dsimp only
  cases hb : bareB m with
  | false => rw [iff_]; exact no (fun h => by rw [h.bare] at hb; cases hb)
  | true =>
    rw [ift]
    refine dq_step' (fun h1 => ?_) (fun q => no (fun h => by have := h.cmd; omega))
    refine dq_step' (fun h2 => ?_) (fun q => no (fun h => by have := h.cmd; omega))
    refine dq_step' (fun h3 => ?_) (fun q => no (fun h => by have := h.tag; omega))
    refine dq_step' (fun h4 => ?_) (fun q => no (fun h => by have := h.tag; omega))
    refine dq_step' (fun h5 => ?_) (fun q => no (fun h => by have := h.metric; omega))
    refine dq_step' (fun h6 => ?_) (fun q => no (fun h => by have := h.metric; omega))
    refine bq_step (fun h7 => ?_) (fun q => no (fun h => by have := h.len; omega))
    rw [rright16_is (by omega), Option.bind_some]
    dsimp only
    cases hp : preB m.prefix_ m.plen with
    | false => rw [iff_]; exact no (fun h => by rw [h.pre] at hp; cases hp)
    | true =>
      rw [ift, none12_is, Option.bind_some]
      exact link_or (rlink_is _) ⟨fun h => h.next, fun h => ⟨hk, hb, by omega, by omega, by omega, by omega, hp, h⟩⟩
abbrev EntN := S_api_Entry
def entN (s : Bs) : EntN := ⟨bt s 18, num (cut_ s 16 2), s.take 16, [], [], bt s 19⟩
theorem bt_drop (s : Bs) (k i : Nat) : bt (s.drop k) i = bt s (k + i) := by unfold bt; rw [List.getElem?_drop]
theorem rteget_is {s : Bs} (h : s.length = 20) : g_rte_Get (s, ()) = some ((entN s, true, ()), ()) := by
  have hl : (s.drop 16).length = 4 := by rw [List.length_drop]; omega
  have b0 := bt_rng (s.drop 16) 0
  have b1 := bt_rng (s.drop 16) 1
  rw [g_rte_Get_eq]
  refine ne_step (fun q => by omega) (fun _ => ?_)
  rw [if_pos (by omega), if_pos (by omega), get_bt (i := 0) (by omega), Option.bind_some, get_bt (i := 1) (by omega), Option.bind_some, get_bt (i := 2) (by omega), Option.bind_some, get_bt (i := 3) (by omega), Option.bind_some, w64n, w64n, w64n, w64n]
  show some ((S_api_Entry.mk (bt (s.drop 16) 2) (ibits .or .i64 (ishl .i64 (bt (s.drop 16) 0) 8) (bt (s.drop 16) 1)) (s.take 16) [] [] (bt (s.drop 16) 3), true, ()), ()) = _
  rw [ib_or (by omega) (by omega), bt_drop, bt_drop, bt_drop, bt_drop]
  unfold entN
  rw [show ((16 : Int)) = ((16 : Nat) : Int) from rfl, num2 (by omega)]
def entG (a : Bs) (t f m : Int) : Bs := a ++ (be 2 t ++ [u8of f, u8of m])
theorem entG_len {a : Bs} (h : a.length = 16) (t f m : Int) : (entG a t f m).length = 20 := by unfold entG; simp [be_length]; omega
end Go.VP
set_option linter.unusedVariables false
set_option linter.unusedSimpArgs false
set_option maxRecDepth 100000
namespace Go.VP
open Go Go.VI
def headG (b : Bs) : Int × Int :=
  if 65535 < b.length then (65535, 10) else if b.length < 4 then (b.length, 2) else if ¬ (bt b 0 = 1 ∨ bt b 0 = 2) then (0, 4) else if ¬ bt b 1 = 1 then (1, 4)
  else if ¬ (bt b 2 = 0 ∧ bt b 3 = 0) then (2, 5) else if ((b.length : Int) - 4) % 20 ≠ 0 then (b.length, 2) else (0, 0)
theorem headG_ok {b : Bs} (h : (headG b).2 = 0) : 4 ≤ b.length ∧ b.length ≤ 65535 ∧ (bt b 0 = 1 ∨ bt b 0 = 2) ∧ bt b 1 = 1 ∧ bt b 2 = 0 ∧ bt b 3 = 0 ∧ ((b.length : Int) - 4) % 20 = 0 := by
  unfold headG at h
  repeat (split at h; · simp at h)
  rename_i h1 h2 h3 h4 h5 h6
  exact ⟨by omega, by omega, by omega, by omega, by omega, by omega, by omega⟩
theorem headG_place {b : Bs} : 0 ≤ (headG b).1 ∧ (headG b).1 ≤ b.length := by
  unfold headG
  repeat (split; · dsimp only; omega)
  dsimp only; omega
theorem nghead_is {b : Bs} (hb : b.length ≤ 1000000000) : g_ripng_head (b, ()) = some (((headG b).1, (headG b).2, ()), ()) := by
  rw [g_ripng_head_eq]
  refine dq_step (fun h => by unfold headG; rw [if_pos (by omega)]) (fun hl => ?_)
  refine dq_step (fun h => by unfold headG; rw [if_neg (by omega), if_pos (by omega)]) (fun h4 => ?_)
  have h4' : ¬ b.length < 4 := by omega
  obtain ⟨w, x, y, z, r, rfl⟩ := four_of h4'
  have e0 : bt (w :: x :: y :: z :: r) 0 = (w.toNat : Int) := rfl
  have e1 : bt (w :: x :: y :: z :: r) 1 = (x.toNat : Int) := rfl
  have e2 : bt (w :: x :: y :: z :: r) 2 = (y.toNat : Int) := rfl
  have e3 : bt (w :: x :: y :: z :: r) 3 = (z.toNat : Int) := rfl
  rw [show (w :: x :: y :: z :: r)[0]? = some w from rfl, show (w :: x :: y :: z :: r)[1]? = some x from rfl, show (List.take 4 (w :: x :: y :: z :: r)).drop 2 = [y, z] from rfl]
  simp only [Option.bind_some]
  have hL : (4 : Int) ≤ ((w :: x :: y :: z :: r).length : Int) := by omega
  have hz : zeroB [y, z] = true ↔ ((y.toNat : Int) = 0 ∧ (z.toNat : Int) = 0) := by
    simp only [zeroB, List.all_cons, List.all_nil, Bool.and_true, Bool.and_eq_true, beq_iff_eq]
    constructor
    · rintro ⟨rfl, rfl⟩; exact ⟨rfl, rfl⟩
    · rintro ⟨h1, h2⟩; exact ⟨u8_eq h1, u8_eq h2⟩
  generalize hLL : (w :: x :: y :: z :: r).length = L at *
  have tail : ((w.toNat : Int) = 1 ∨ (w.toNat : Int) = 2) → (if ((x.toNat : Int) != 1) = true then some ((1, 4, ()), ()) else (if 0 ≤ (2 : Int) ∧ (2 : Int) ≤ (4 : Int) ∧ (4 : Int) ≤ (L : Int) then ((g_octet_Zero ([y, z], ())).bind fun r4 => (if (!r4.1.1) = true then some ((2, 5, ()), ()) else (if ((L : Int).tmod 20 != 4) = true then some (((L : Int), 2, ()), ()) else some ((0, 0, ()), ())))) else none)) = some (((headG (w :: x :: y :: z :: r)).1, (headG (w :: x :: y :: z :: r)).2, ()), ()) := by
    intro ha
    unfold headG
    rw [hLL, if_neg (show ¬ 65535 < L by omega), if_neg (show ¬ L < 4 by omega), if_neg (show ¬ ¬ (bt (w :: x :: y :: z :: r) 0 = 1 ∨ bt (w :: x :: y :: z :: r) 0 = 2) by rw [e0]; exact fun c => c ha)]
    refine ne_step (fun h => ?_) (fun h1 => ?_)
    · rw [if_pos (show ¬ bt (w :: x :: y :: z :: r) 1 = 1 by rw [e1]; exact h)]
    rw [if_neg (show ¬ ¬ bt (w :: x :: y :: z :: r) 1 = 1 by rw [e1]; exact fun c => c h1), if_pos ⟨by omega, by omega, hL⟩, zero_is (by simp), Option.bind_some]
    refine nb_step (fun h => ?_) (fun hzz => ?_)
    · rw [if_pos (show ¬ (bt (w :: x :: y :: z :: r) 2 = 0 ∧ bt (w :: x :: y :: z :: r) 3 = 0) by rw [e2, e3, ← hz]; dsimp only at h; rw [h]; simp)]
    rw [if_neg (show ¬ ¬ (bt (w :: x :: y :: z :: r) 2 = 0 ∧ bt (w :: x :: y :: z :: r) 3 = 0) by rw [e2, e3]; exact fun c => c (hz.1 hzz)), Int.tmod_eq_emod_of_nonneg (by omega)]
    refine ne_step (fun h => ?_) (fun h5 => ?_)
    · rw [if_pos (show ((L : Int) - 4) % 20 ≠ 0 by omega)]
    · rw [if_neg (show ¬ ((L : Int) - 4) % 20 ≠ 0 by omega)]
  refine ne_step (fun ha => ?_) (fun ha => tail (.inl ha))
  refine ne_step (fun hb => ?_) (fun ha2 => tail (.inr ha2))
  unfold headG
  rw [hLL, if_neg (show ¬ 65535 < L by omega), if_neg (show ¬ L < 4 by omega), if_pos (show ¬ (bt (w :: x :: y :: z :: r) 0 = 1 ∨ bt (w :: x :: y :: z :: r) 0 = 2) by rw [e0]; omega)]
def errN (e : EntN) : Int := if e.metric = 255 then (if e.tag = 0 ∧ e.family = 0 then 0 else 5) else if ¬ preB e.addr e.family = true then 7 else if e.metric < 1 ∨ 16 < e.metric then 6 else 0
def nextN (nx : Bs) (e : EntN) : Bs := if e.metric = 255 then (if linkB e.addr = true then e.addr else z16) else nx
def msgN (c : Int) (nx : Bs) (e : EntN) : Msg := S_api_Msg.mk 2 c 0 [] 0 0 e.addr e.family e.tag nx e.metric [] 0 0 0 0 0 0 0 [] [] [] 0 [] []
def outN (c : Int) (nx : Bs) (e : EntN) : List Msg := if e.metric = 255 then [] else [msgN c nx e]
structure EntKN (e : EntN) : Prop where
  addr : e.addr.length = 16
  tag : 0 ≤ e.tag ∧ e.tag < 65536
  fam : 0 ≤ e.family ∧ e.family < 256
  met : 0 ≤ e.metric ∧ e.metric < 256
theorem entN_ok {s : Bs} (h : s.length = 20) : EntKN (entN s) := by
  have h1 := bt_rng s 18
  have h2 := bt_rng s 19
  have h3 := num_rng (cut_ s 16 2)
  have hl : (cut_ s 16 2).length = 2 := by have := cut_length (s := s) (p := 16) (n := 2) (by omega) (by omega) (by omega); omega
  rw [hl] at h3
  exact ⟨by show (s.take 16).length = 16; rw [List.length_take]; omega, by show 0 ≤ num (cut_ s 16 2) ∧ num (cut_ s 16 2) < 65536; exact ⟨h3.1, by have := h3.2; omega⟩, h1, h2⟩
theorem or_zero {x y : Int} (hx : 0 ≤ x ∧ x < 65536) (hy : 0 ≤ y ∧ y < 256) : ibits .or .i64 x y = 0 ↔ (x = 0 ∧ y = 0) := by
  obtain ⟨a, rfl⟩ : ∃ a : Nat, x = a := ⟨x.toNat, by omega⟩
  obtain ⟨b, rfl⟩ : ∃ b : Nat, y = b := ⟨y.toNat, by omega⟩
  unfold ibits
  show IntKind.wrap .i64 (((BitVec.ofInt 64 (a : Int) ||| BitVec.ofInt 64 (b : Int)).toNat : Nat) : Int) = 0 ↔ _
  have h1 : a ||| b < 2 ^ 16 := Nat.or_lt_two_pow (by omega) (by omega)
  rw [BitVec.toNat_or, BitVec.ofInt_natCast, BitVec.ofInt_natCast, BitVec.toNat_ofNat, BitVec.toNat_ofNat, Nat.mod_eq_of_lt (by omega), Nat.mod_eq_of_lt (by omega), w64 (by omega) (by omega)]
  constructor
  · intro h
    have h0 : a ||| b = 0 := by omega
    rw [Nat.or_eq_zero_iff] at h0
    omega
  · intro h
    have e1 : a = 0 := by omega
    have e2 : b = 0 := by omega
    subst e1; subst e2; rfl
theorem nghop_is {c : Int} {nx : Bs} {out : List Msg} {e : EntN} (h : EntKN e) (hm : e.metric = 255) : g_ripng_reader_hop (⟨c, nx, out⟩, e, ()) = some ((errN e, ()), (⟨c, if errN e = 0 then nextN nx e else nx, out⟩, ())) := by
  rw [g_ripng_reader_hop_eq]
  have hz := or_zero h.tag h.fam
  unfold errN nextN
  rw [if_pos hm, if_pos hm]
  refine ne_step (fun q => ?_) (fun q => ?_)
  · rw [if_neg (fun c => q (hz.2 c))]; try rfl
  · rw [hz] at q
    rw [if_pos q, zeros16, Option.bind_some, link_is, Option.bind_some]
    dsimp only
    cases linkB e.addr <;> rfl
theorem ngentry_is {c : Int} {nx : Bs} {out : List Msg} {e : EntN} (h : EntKN e) (hr : out.length ≤ 10000) : g_ripng_reader_entry (⟨c, nx, out⟩, e, ()) = some ((errN e, ()), (⟨c, if errN e = 0 then nextN nx e else nx, if errN e = 0 then out ++ outN c nx e else out⟩, ())) := by
  rw [g_ripng_reader_entry_eq]
  refine bq_step (fun hm => ?_) (fun hm => ?_)
  · rw [nghop_is h hm, Option.bind_some]
    have : outN c nx e = [] := by unfold outN; rw [if_pos hm]
    rw [this, List.append_nil, ite_self]
  · have hn : nextN nx e = nx := by unfold nextN; rw [if_neg hm]
    have ho : outN c nx e = [msgN c nx e] := by unfold outN; rw [if_neg hm]
    rw [hn, ho, ite_self]
    have hf : IntKind.has .i64 e.family := has64.2 (by have := h.fam; omega)
    rw [pright16_is h.addr hf, Option.bind_some]
    unfold errN
    rw [if_neg hm]
    refine nb_step (fun q => ?_) (fun q => ?_)
    · dsimp only at q
      rw [if_pos (show ¬ preB e.addr e.family = true by rw [q]; simp)]; try rfl
    · dsimp only at q
      rw [if_neg (show ¬ ¬ preB e.addr e.family = true by rw [q]; simp)]
      refine dq_step (fun q1 => ?_) (fun q1 => ?_)
      · rw [if_pos (show e.metric < 1 ∨ 16 < e.metric from .inl q1)]; try rfl
      refine dq_step (fun q2 => ?_) (fun q2 => ?_)
      · rw [if_pos (show e.metric < 1 ∨ 16 < e.metric from .inr q2)]; try rfl
      rw [if_neg (show ¬ (e.metric < 1 ∨ 16 < e.metric) by omega)]
      show (if roomB ((out.length + [msgN c nx e].length) * bo_api_Msg) = true then some ((0, ()), ((S_ripng_reader.mk c nx (out ++ [msgN c nx e])), ())) else none) = _
      rw [if_pos (roomB_of (Nat.le_trans (Nat.mul_le_mul (show out.length + [msgN c nx e].length ≤ 10001 by simp; omega) msgBo) (by decide)))]
      rfl
def goN (c : Int) (b : Bs) : Nat → Nat → Bs → List Msg → List Msg × Int × Int
  | 0, _, _, acc => if acc = [] then ([], b.length, 8) else (acc, 0, 0)
  | k + 1, p, nx, acc => if errN (entN (cut_ b p 20)) ≠ 0 then ([], (p : Int), errN (entN (cut_ b p 20))) else goN c b k (p + 20) (nextN nx (entN (cut_ b p 20))) (acc ++ outN c nx (entN (cut_ b p 20)))
theorem outN_len (c : Int) (nx : Bs) (e : EntN) : (outN c nx e).length ≤ 1 := by unfold outN; split <;> simp
theorem ngparse_loop {n : Nat} {b : Bs} {c : Int} (hb : b.length ≤ 65535) : ∀ (k m p : Nat) (nx : Bs) (acc : List Msg), p + 20 * k = b.length → k < m → acc.length + k ≤ 10000 →
    L_ripng_Parse_0 n m b p c nx acc = some (trip (goN c b k p nx acc), ()) := by
  intro k
  induction k with
  | zero =>
    intro m p nx acc h hm ha
    obtain ⟨m, rfl⟩ : ∃ k, m = k + 1 := ⟨m - 1, by omega⟩
    rw [L_ripng_Parse_0_eq, ifn (by omega), goN]
    refine bq_step (fun q => ?_) (fun q => ?_)
    · rw [if_pos ((len_nil acc).1 q)]; try rfl
    · rw [if_neg (fun q' => q ((len_nil acc).2 q'))]; try rfl
  | succ k ih =>
    intro m p nx acc h hm ha
    obtain ⟨m, rfl⟩ : ∃ k, m = k + 1 := ⟨m - 1, by omega⟩
    have hl : (cut_ b p 20).length = 20 := cut_len (n := 20) (by omega)
    have hol := outN_len c nx (entN (cut_ b p 20))
    rw [L_ripng_Parse_0_eq, ifd (by omega), w64 (by omega) (by omega), if_pos (by omega), show (List.take ((p : Int) + 20).toNat b).drop ((p : Int)).toNat = cut_ b p 20 from rfl, rteget_is hl, Option.bind_some]
    dsimp only
    rw [ngentry_is (entN_ok hl) (by omega), Option.bind_some, goN]
    refine ne_step (fun he => ?_) (fun he => ?_)
    · rw [if_pos he]; try rfl
    · dsimp only at he
      have := ih m (p + 20) (nextN nx (entN (cut_ b p 20))) (acc ++ outN c nx (entN (cut_ b p 20))) (by omega) (by omega) (by rw [List.length_append]; omega)
      rw [show ((p + 20 : Nat) : Int) = (p : Int) + 20 by omega] at this
      rw [if_neg (show ¬ errN (entN (cut_ b p 20)) ≠ 0 by omega), ← this]
      dsimp only
      rw [if_pos he, if_pos he]
noncomputable def parseN (b : Bs) : List Msg × Int × Int := if (headG b).2 ≠ 0 then ([], headG b) else goN (bt b 0) b ((b.length - 4) / 20) 4 z16 []
theorem ngparse_is {b : Bs} (hb : b.length ≤ 1000000000) : g_ripng_Parse (b, ()) = some (trip (parseN b), ()) := by
  show h_ripng_Parse fuel _ = _
  rw [h_ripng_Parse_eq, nghead_is hb, Option.bind_some]
  unfold parseN
  refine ne_step (fun h => ?_) (fun h => ?_)
  · rw [if_pos h]; try rfl
  · dsimp only at h
    obtain ⟨h1, h2, h3, h4, h5, h6, h7⟩ := headG_ok h
    rw [if_neg (show ¬ (headG b).2 ≠ 0 by omega), get_bt (i := 0) (by omega), Option.bind_some, zeros16, Option.bind_some, w64n]
    exact ngparse_loop (n := fuel) h2 ((b.length - 4) / 20) fuel 4 z16 [] (by omega) (fuel_ge (by omega)) (by simp; omega)
end Go.VP
set_option linter.unusedVariables false
set_option linter.unusedSimpArgs false
set_option maxRecDepth 100000
namespace Go.VP
open Go Go.VI
def hopL (nx : Bs) (m : Msg) : Bs := if m.next = nx then [] else entG m.next 0 0 255
def lineN (nx : Bs) (m : Msg) : Bs := hopL nx m ++ entG m.prefix_ m.tag m.plen m.metric
theorem lineN_len {nx : Bs} {m : Msg} (h : NgR m) : (lineN nx m).length = if m.next = nx then 20 else 40 := by
  unfold lineN hopL
  split <;> simp [entG_len h.len, entG_len h.next16]
def encN (c : Int) : List Msg → Nat → Bs → Bs → Bs × Int × Int
  | [], _, acc, _ => (acc, 0, 0)
  | m :: r, i, acc, nx => if m.cmd ≠ c then ([], (i : Int), 7) else if 65535 < (acc ++ lineN nx m).length then ([], (i : Int), 10) else encN c r (i + 1) (acc ++ lineN nx m) m.next
def badP (f : Msg → Bool) : List Msg → Nat → Option Nat
  | [], _ => none
  | m :: r, i => if f m = true then badP f r (i + 1) else some i
theorem badP_ok {f : Msg → Bool} : ∀ {l : List Msg} {i : Nat}, (∀ m ∈ l, f m = true) → badP f l i = none
  | [], _, _ => rfl
  | x :: r, i, h => by
    unfold badP; rw [if_pos (h x (by simp))]; exact badP_ok (fun m hm => h m (by simp [hm]))
noncomputable def encNg (l : List Msg) : Bs × Int × Int := match badP ngB l 0 with
  | some i => ([], (i : Int), 1)
  | none => match l with
    | [] => ([], 0, 8)
    | f :: _ => encN f.cmd l 0 [u8of f.cmd, 1, 0, 0] z16
end Go.VP
set_option linter.unusedVariables false
set_option linter.unusedSimpArgs false
set_option maxRecDepth 100000
namespace Go.VP
open Go Go.VI
def entM2 (m : Msg) : EntN := ⟨m.plen, m.tag, m.prefix_, [], [], m.metric⟩
theorem NgR.is {m : Msg} (h : NgR m) : m = msgN m.cmd m.next (entM2 m) := by
  have hb := h.bare
  unfold bareB bareOf at hb
  rw [if_neg (by have := h.kind; omega), if_pos h.kind] at hb
  have := (eqB_true.1 hb).symm
  rw [h.kind] at this
  exact this
theorem msgN_ok {c : Int} {nx : Bs} {e : EntN} (hc : c = 1 ∨ c = 2) (hn : nx = z16 ∨ linkB nx = true) (he : EntKN e) (h0 : errN e = 0) (hm : e.metric ≠ 255) : NgR (msgN c nx e) := by
  unfold errN at h0
  rw [if_neg hm] at h0
  by_cases hp : preB e.addr e.family = true
  · rw [if_neg (fun c => c hp)] at h0
    by_cases hq : e.metric < 1 ∨ 16 < e.metric
    · rw [if_pos hq] at h0; omega
    · refine ⟨rfl, ?_, hc, he.tag, ?_, he.addr, hp, hn⟩
      · unfold bareB bareOf
        rw [if_neg (show ¬ ((msgN c nx e).kind = 1) from fun q => absurd (show (2 : Int) = 1 from q) (by decide)), if_pos (show (msgN c nx e).kind = 2 from rfl)]
        exact eqB_refl _
      · show 1 ≤ e.metric ∧ e.metric ≤ 16
        omega
  · rw [if_pos hp] at h0; omega
def linesN : Bs → List Msg → Bs
  | _, [] => []
  | nx, m :: r => lineN nx m ++ linesN m.next r
theorem encN_fine {c : Int} : ∀ {l : List Msg} {i : Nat} {acc nx : Bs}, (∀ m ∈ l, m.cmd = c) → (acc ++ linesN nx l).length ≤ 65535 → encN c l i acc nx = (acc ++ linesN nx l, 0, 0)
  | [], i, acc, nx, _, _ => by simp [encN, linesN]
  | m :: r, i, acc, nx, h, hl => by
    unfold linesN at hl ⊢
    rw [← List.append_assoc] at hl ⊢
    unfold encN
    rw [if_neg (fun q => q (h m (List.mem_cons_self ..))), if_neg (by rw [List.length_append] at hl; omega)]
    exact encN_fine (fun x hx => h x (List.mem_cons_of_mem _ hx)) hl
theorem ng_is {f : Msg} {r : List Msg} (h : ∀ m ∈ f :: r, NgR m) : encNg (f :: r) = encN f.cmd (f :: r) 0 [u8of f.cmd, 1, 0, 0] z16 := by
  unfold encNg
  rw [badP_ok fun m hm => ngR_iff.2 (h m hm)]
theorem goN_err {c : Int} {b : Bs} : ∀ {k p : Nat} {nx : Bs} {acc : List Msg}, p + 20 * k = b.length → (goN c b k p nx acc).2.2 ≠ 0 → (goN c b k p nx acc).1 = [] ∧ 0 ≤ (goN c b k p nx acc).2.1 ∧ (goN c b k p nx acc).2.1 ≤ b.length
  | 0, p, nx, acc, hk, h => by
    unfold goN at h ⊢
    by_cases q : acc = []
    · rw [if_pos q]; simp
    · rw [if_neg q] at h; exact absurd rfl h
  | k + 1, p, nx, acc, hk, h => by
    unfold goN at h ⊢
    by_cases q : errN (entN (cut_ b p 20)) ≠ 0
    · rw [if_pos q]; simp; omega
    · rw [if_neg q] at h ⊢
      exact goN_err (by omega) h
theorem ng_parseerr {b : Bs} (h : (parseN b).2.2 ≠ 0) : (parseN b).1 = [] ∧ 0 ≤ (parseN b).2.1 ∧ (parseN b).2.1 ≤ b.length := by
  unfold parseN at h ⊢
  by_cases q : (headG b).2 ≠ 0
  · rw [if_pos q]; exact ⟨rfl, headG_place⟩
  · rw [if_neg q] at h ⊢
    obtain ⟨h1, h2, _, _, _, _, h7⟩ := headG_ok (Classical.byContradiction q)
    exact goN_err (by omega) h
theorem goN_ok {c : Int} {b : Bs} (hc : c = 1 ∨ c = 2) : ∀ {k p : Nat} {nx : Bs} {acc : List Msg}, p + 20 * k = b.length → (nx = z16 ∨ linkB nx = true) → (goN c b k p nx acc).2.2 = 0 → (goN c b k p nx acc).2.1 = 0 ∧ ∃ l, (goN c b k p nx acc).1 = acc ++ l ∧ acc ++ l ≠ [] ∧ (∀ m ∈ l, NgR m ∧ m.cmd = c) ∧ l.length ≤ k ∧
    ∀ nx', (linesN nx' l).length ≤ 20 * k + if nx' = nx then 0 else 20
  | 0, p, nx, acc, hk, hn, h => by
    unfold goN at h ⊢
    by_cases q : acc = []
    · rw [if_pos q] at h; cases h
    · rw [if_neg q]; exact ⟨rfl, [], by simp, by simpa using q, (fun m hm => by cases hm), Nat.le_refl _, fun nx' => by simp [linesN]⟩
  | k + 1, p, nx, acc, hk, hn, h => by
    unfold goN at h ⊢
    by_cases q : errN (entN (cut_ b p 20)) ≠ 0
    · rw [if_pos q] at h; exact absurd h q
    · rw [if_neg q] at h ⊢
      have q0 : errN (entN (cut_ b p 20)) = 0 := Classical.byContradiction q
      have hl : (cut_ b p 20).length = 20 := cut_len (n := 20) (by omega)
      have he := entN_ok hl
      generalize entN (cut_ b p 20) = e at *
      by_cases hm : e.metric = 255
      · have ho : outN c nx e = [] := by unfold outN; rw [if_pos hm]
        have hn' : nextN nx e = z16 ∨ linkB (nextN nx e) = true := by
          unfold nextN
          rw [if_pos hm]
          split
          · exact .inr (by assumption)
          · exact .inl rfl
        rw [ho, List.append_nil] at h ⊢
        obtain ⟨k0, l, k1, k2, k3, k4, k5⟩ := goN_ok hc (by omega) hn' h
        refine ⟨k0, l, k1, k2, k3, by omega, fun nx' => ?_⟩
        have := k5 nx'
        split at this <;> split <;> omega
      · have ho : outN c nx e = [msgN c nx e] := by unfold outN; rw [if_neg hm]
        have hnn : nextN nx e = nx := by unfold nextN; rw [if_neg hm]
        rw [ho, hnn] at h ⊢
        obtain ⟨k0, l, k1, k2, k3, k4, k5⟩ := goN_ok hc (by omega) hn h
        have hr := msgN_ok hc hn he q0 hm
        refine ⟨k0, msgN c nx e :: l, by rw [k1]; simp, by simp, fun m hmm => ?_, by simp; omega, fun nx' => ?_⟩
        · rcases List.mem_cons.1 hmm with rfl | hmm
          · exact ⟨hr, rfl⟩
          · exact k3 m hmm
        · have h1 := k5 nx
          rw [if_pos rfl] at h1
          have h2 := lineN_len (nx := nx') hr
          have e1 : (msgN c nx e).next = nx := rfl
          unfold linesN
          rw [List.length_append, h2, e1]
          by_cases q3 : nx' = nx
          · rw [if_pos q3.symm, if_pos q3]; omega
          · rw [if_neg (fun q => q3 q.symm), if_neg q3]; omega
theorem ng_again {b : Bs} (h : (parseN b).2.2 = 0) : (parseN b).2.1 = 0 ∧ (∀ m ∈ (parseN b).1, NgR m) ∧ (parseN b).1 ≠ [] ∧ (parseN b).1.length ≤ 3277 ∧ (encNg (parseN b).1).2.2 = 0 ∧ (encNg (parseN b).1).1.length ≤ b.length := by
  unfold parseN at h ⊢
  by_cases q : (headG b).2 ≠ 0
  · rw [if_pos q] at h; exact absurd h q
  · rw [if_neg q] at h ⊢
    obtain ⟨h1, h2, h3, _, _, _, h7⟩ := headG_ok (Classical.byContradiction q)
    obtain ⟨k0, l, k1, k2, k3, k4, k5⟩ := goN_ok h3 (by omega) (.inl rfl) h
    rw [List.nil_append] at k1 k2
    rw [k1]
    have hr : ∀ m ∈ l, NgR m := fun m hm => (k3 m hm).1
    have := k5 z16
    rw [if_pos rfl] at this
    refine ⟨k0, hr, k2, by omega, ?_⟩
    cases l with
    | nil => exact absurd rfl k2
    | cons f r =>
      have hf := (k3 f (by simp)).2
      rw [ng_is hr, encN_fine (fun m hm => by rw [(k3 m hm).2, hf]) (by rw [List.length_append]; simp; omega)]
      exact ⟨rfl, by rw [List.length_append]; simp; omega⟩
end Go.VP
