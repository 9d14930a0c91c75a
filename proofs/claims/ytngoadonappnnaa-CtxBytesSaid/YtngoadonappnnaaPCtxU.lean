/- What a parser of Babel knows: an Update's address, and what it leaves behind. -/
import Derived.Test.YtngoadonappnnaaFQ8
import Derived.Test.YtngoadonappnnaaFQ9
import Derived.Test.YtngoadonappnnaaPBase
import Derived.Test.YtngoadonappnnaaPCur
import Derived.Test.YtngoadonappnnaaPOct
import Derived.Test.YtngoadonappnnaaPTlv
import Derived.Test.YtngoadonappnnaaPSub
import Derived.Test.YtngoadonappnnaaPMsg
import Derived.Test.YtngoadonappnnaaPAddr
import Derived.Test.YtngoadonappnnaaPBits
import Derived.Test.YtngoadonappnnaaPField
import Derived.Test.YtngoadonappnnaaPFieldG
import Derived.Test.YtngoadonappnnaaPRoute
import Derived.Test.YtngoadonappnnaaPRouteG
import Derived.Test.YtngoadonappnnaaPTake
import Derived.Test.YtngoadonappnnaaPRouteB
import Derived.Test.YtngoadonappnnaaPCtx
set_option linter.unusedVariables false
set_option linter.unusedSimpArgs false
set_option maxRecDepth 100000
namespace Go.VP
open Go Go.VI
theorem dq_step' {R : Type} {p : Prop} [Decidable p] {t f r : R} (h : p → t = r) (h' : ¬ p → f = r) : (if decide p = true then t else f) = r := by
  by_cases hp : p
  · rw [ifd hp]; exact h hp
  · rw [ifn hp]; exact h' hp
theorem be_step {R : Type} {x y : Bs} {f t r : R} (heq : x = y → t = r) (hne : x ≠ y → f = r) : (if (x == y) = true then t else f) = r := by
  by_cases h : x = y
  · rw [if_pos (by simp [h])]; exact heq h
  · rw [if_neg (by simpa using h)]; exact hne h
def okC (c : Ctx) : Prop := c.prefix_c0 = [] ∧ (c.prefix_c1 = [] ∨ c.prefix_c1.length = 4) ∧ (c.prefix_c2 = [] ∨ c.prefix_c2.length = 16) ∧ (c.prefix_c3 = [] ∨ linkB c.prefix_c3 = true) ∧ (c.next_c0 = [] ∨ c.next_c0.length = 4) ∧ (c.next_c1 = [] ∨ c.next_c1.length = 16) ∧ (c.id = [] ∨ c.id.length = 8)
structure RawOk (r : Raw) : Prop where
  ae : 0 ≤ r.ae ∧ r.ae < 4
  om : 0 ≤ r.omitted
  plen : 0 ≤ r.plen ∧ r.plen ≤ 128
  len : r.omitted + r.bytes.length ≤ szA r.ae - baseA r.ae
  flags : 0 ≤ r.flags ∧ r.flags ≤ 255
  metric : 0 ≤ r.metric ∧ r.metric ≤ 65535
  have_ : r.have_ = 0 ∨ r.have_ = 1
  low : lowA r.ae ≤ r.plen
def preC (c : Ctx) (ae : Int) : Bs := if ae = 0 then c.prefix_c0 else (if ae = 1 then c.prefix_c1 else (if ae = 2 then c.prefix_c2 else c.prefix_c3))
theorem preC_len {c : Ctx} (h : okC c) {ae : Int} (ha : 0 ≤ ae ∧ ae < 4) (hn : preC c ae ≠ []) : ((preC c ae).length : Int) = szA ae := by
  obtain ⟨h0, h1, h2, h3, _⟩ := h
  rcases ae_cases ha with rfl | rfl | rfl | rfl
  · exact absurd h0 hn
  · rcases h1 with e | e
    · exact absurd e hn
    · show (c.prefix_c1.length : Int) = 4; omega
  · rcases h2 with e | e
    · exact absurd e hn
    · show (c.prefix_c2.length : Int) = 16; omega
  · rcases h3 with e | e
    · exact absurd e hn
    · have := (linkB_len e).1; show (c.prefix_c3.length : Int) = 16; omega
/-- An Update's address; false: what was left out isn't known. -/
def addrF (c : Ctx) (r : Raw) : Bs × Bool :=
  if r.omitted = 0 then (wholeF r.ae r.bytes r.plen, true)
  else if preC c r.ae = [] then ([], false)
  else (wholeF r.ae (cut_ (preC c r.ae) (baseA r.ae) r.omitted ++ r.bytes) r.plen, true)
theorem address_is {c : Ctx} {r : Raw} (hc : okC c) (hr : RawOk r) : g_ctx_stepper_address (stp c, r, ()) = some (((addrF c r).1, (addrF c r).2, ()), (stp c, ())) := by
  have ha := hr.ae; have hl := hr.len; have ho := hr.om; have hp := hr.plen
  have hsz : 0 ≤ szA r.ae ∧ szA r.ae ≤ 16 := by unfold szA; split <;> (try split) <;> (try split) <;> omega
  have hbs := baseA_rng r.ae
  have hpre : (if r.ae = 0 then c.prefix_c0 else (if r.ae = 1 then c.prefix_c1 else (if r.ae = 2 then c.prefix_c2 else c.prefix_c3))) = preC c r.ae := rfl
  have hsz' : (if r.ae = 0 then (0 : Int) else (if r.ae = 1 then (4 : Int) else (if r.ae = 2 then (16 : Int) else (16 : Int)))) = szA r.ae := rfl
  rw [g_ctx_stepper_address_eq]
  dsimp only
  rw [hpre, hsz', if_pos ha]
  unfold addrF
  refine bq_step (fun h3 => ?_) (fun h3 => ?_)
  · have s3 : szA r.ae = 16 := by rw [h3]; rfl
    have b3 : baseA r.ae = 8 := by rw [h3]; rfl
    rw [if_pos ha, s3, w64 (x := 16 - 8) (by omega) (by omega), show (16 : Int) - 8 = 8 by decide]
    refine bq_step (fun h0 => ?_) (fun h0 => ?_)
    · rw [if_pos h0, if_pos (maxB_of (by omega)), List.nil_append, fill_is (by omega), Option.bind_some, long_is, Option.bind_some]
      have hl8 : longF (fillF r.bytes 8) = (linkP ++ fillF r.bytes 8, true) := by unfold longF; rw [if_pos (by rw [fillF_length]; omega)]
      rw [hl8, keep_is (by simp [fillF_length, linkP]; omega) (has64.2 (by omega)), Option.bind_some]
      unfold wholeF; rw [if_pos h3]
    · rw [if_neg h0]
      refine be_step (fun he => ?_) (fun he => ?_)
      · rw [if_pos he]
      · have hpl := preC_len hc ha he
        have hcl : ((cut_ (preC c r.ae) 8 r.omitted).length : Int) = r.omitted := cut_length (by omega) ho (by omega)
        have hcut : (List.take (8 + r.omitted).toNat (preC c r.ae)).drop 8 = cut_ (preC c r.ae) 8 r.omitted := rfl
        rw [if_neg he, w64 (x := 8 + r.omitted) (by omega) (by omega), if_pos (by omega), hcut, if_pos (maxB_of (by omega)), fill_is (by omega), Option.bind_some, long_is, Option.bind_some]
        have hl8 : longF (fillF (cut_ (preC c r.ae) 8 r.omitted ++ r.bytes) 8) = (linkP ++ fillF (cut_ (preC c r.ae) 8 r.omitted ++ r.bytes) 8, true) := by unfold longF; rw [if_pos (by rw [fillF_length, List.length_append]; omega)]
        rw [hl8, keep_is (by simp [fillF_length, linkP]; omega) (has64.2 (by omega)), Option.bind_some]
        unfold wholeF; rw [if_pos h3, b3]
  · have b0 : baseA r.ae = 0 := by
      rcases ae_cases ha with h | h | h | h
      · rw [h]; rfl
      · rw [h]; rfl
      · rw [h]; rfl
      · exact absurd h h3
    rw [if_pos ha, w64 (x := szA r.ae - 0) (by omega) (by omega), show szA r.ae - 0 = szA r.ae by omega]
    refine bq_step (fun h0 => ?_) (fun h0 => ?_)
    · rw [if_pos h0, if_pos (maxB_of (by omega)), List.nil_append, fill_is (by omega), Option.bind_some, keep_is (by rw [fillF_length]; omega) (has64.2 (by omega)), Option.bind_some]
      unfold wholeF; rw [if_neg h3]
    · rw [if_neg h0]
      refine be_step (fun he => ?_) (fun he => ?_)
      · rw [if_pos he]
      · have hpl := preC_len hc ha he
        have hcl : ((cut_ (preC c r.ae) 0 r.omitted).length : Int) = r.omitted := cut_length (by omega) ho (by omega)
        have hcut : (List.take (0 + r.omitted).toNat (preC c r.ae)).drop 0 = cut_ (preC c r.ae) 0 r.omitted := rfl
        rw [if_neg he, w64 (x := 0 + r.omitted) (by omega) (by omega), if_pos (by omega), hcut, if_pos (maxB_of (by omega)), fill_is (by omega), Option.bind_some, keep_is (by rw [fillF_length, List.length_append]; omega) (has64.2 (by omega)), Option.bind_some]
        unfold wholeF; rw [if_neg h3, b0]
/-- What an Update says to those behind it. -/
def flagsF (c : Ctx) (r : Raw) (a : Bs) : Ctx :=
  if r.ae = 0 then c else
    let i := if r.flags / 64 % 2 = 1 then (z4' ++ a).drop (a.length - 4) else c.id
    if 128 ≤ r.flags then ⟨(if r.ae = 0 then a else c.prefix_c0), (if r.ae = 1 then a else c.prefix_c1), (if r.ae = 2 then a else c.prefix_c2), (if r.ae = 3 then a else c.prefix_c3), c.next_c0, c.next_c1, i⟩ else setId c i
  where z4' : Bs := [0, 0, 0, 0]
theorem flag_bits : ∀ f : Fin 256, ((ibits .and .i64 (f.val : Int) 128 != 0) = decide (128 ≤ f.val)) ∧ ((ibits .and .i64 (f.val : Int) 64 != 0) = decide (f.val / 64 % 2 = 1)) := by decide +kernel
def toldB (c : Ctx) (r : Raw) : Bool := decide (r.have_ = 1) && (decide (r.metric = 65535) || (decide (0 < r.ae) && !(c.id == [])))
theorem told_is {c : Ctx} {r : Raw} : g_ctx_stepper_told (stp c, r, ()) = some ((toldB c r, ()), (stp c, ())) := by
  rw [g_ctx_stepper_told_eq]; unfold toldB
  refine bq_step (fun h => ?_) (fun h => ?_)
  · refine bq_step (fun h1 => ?_) (fun h1 => ?_)
    · simp [h, h1]
    · refine dq_step' (fun h2 => ?_) (fun h2 => ?_)
      · simp [h, h1, h2]
      · simp [h1, h2]
  · simp [h]
end Go.VP
