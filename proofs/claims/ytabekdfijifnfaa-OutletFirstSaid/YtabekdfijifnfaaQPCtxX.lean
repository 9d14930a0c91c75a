/- What a parser of Babel knows may be, TLV by TLV. -/
import Derived.Test.YtabekdfijifnfaaQPBase
import Derived.Test.YtabekdfijifnfaaQPCur
import Derived.Test.YtabekdfijifnfaaQPOct
import Derived.Test.YtabekdfijifnfaaQPTlv
import Derived.Test.YtabekdfijifnfaaQPSub
import Derived.Test.YtabekdfijifnfaaQPMsg
import Derived.Test.YtabekdfijifnfaaQPAddr
import Derived.Test.YtabekdfijifnfaaQPBits
import Derived.Test.YtabekdfijifnfaaQPField
import Derived.Test.YtabekdfijifnfaaQPFieldG
import Derived.Test.YtabekdfijifnfaaQPRoute
import Derived.Test.YtabekdfijifnfaaQPRouteG
import Derived.Test.YtabekdfijifnfaaQPTake
import Derived.Test.YtabekdfijifnfaaQPRouteB
import Derived.Test.YtabekdfijifnfaaQPCtx
import Derived.Test.YtabekdfijifnfaaQPCtxU
import Derived.Test.YtabekdfijifnfaaQPCtxV
import Derived.Test.YtabekdfijifnfaaQPCtxW
set_option linter.unusedVariables false
set_option linter.unusedSimpArgs false
set_option maxRecDepth 100000
namespace Go.VP
open Go Go.VI
theorem okC_none : okC ⟨[], [], [], [], [], [], []⟩ := ⟨rfl, .inl rfl, .inl rfl, .inl rfl, .inl rfl, .inl rfl, .inl rfl⟩
theorem okC_id {c : Ctx} {d : Bs} (h : okC c) : okC (idF c d).1 := by
  unfold idF
  cases hk : (countF d 10).1 with
  | false => rw [if_neg (by simp)]; exact h
  | true =>
    have := countF_known hk
    rw [if_pos rfl]
    obtain ⟨h0, h1, h2, h3, h4, h5, h6⟩ := h
    refine ⟨h0, h1, h2, h3, h4, h5, .inr ?_⟩
    have hl := cut_length (s := d) (p := 2) (n := 8) (by omega) (by omega) (by omega)
    show (cut_ d 2 8).length = 8
    omega
theorem okC_hop {c : Ctx} {d : Bs} (h : okC c) : okC (hopF c d).1 := by
  unfold hopF
  split
  · exact h
  split
  · exact h
  rename_i h2 hr
  cases hk : (countF d (2 + hopN (bt d 0))).1 with
  | false => rw [if_neg (by simp)]; exact h
  | true =>
    have hl := countF_known hk
    rw [if_pos rfl]
    obtain ⟨h0, h1, h2, h3, h4, h5, h6⟩ := h
    have hn := hopN_rng (bt d 0)
    have hc := cut_length (s := d) (p := 2) (n := hopN (bt d 0)) (by omega) (by omega) (by omega)
    have hv : bt d 0 = 1 ∨ bt d 0 = 2 ∨ bt d 0 = 3 := by omega
    have hlong : bt d 0 = 3 → (longF (cut_ d 2 (hopN (bt d 0)))).1.length = 16 := fun e => by
      have h8 : hopN (bt d 0) = 8 := by rw [e]; rfl
      rw [h8] at hc ⊢
      unfold longF
      rw [if_pos (by omega), List.length_append]
      show 8 + (cut_ d 2 8).length = 16
      omega
    refine ⟨h0, h1, h2, h3, ?_, ?_, h6⟩
    · show (if famE (bt d 0) = 0 then hopA d else c.next_c0) = [] ∨ (if famE (bt d 0) = 0 then hopA d else c.next_c0).length = 4
      rcases hv with e | e | e
      · rw [if_pos (by rw [e]; rfl)]
        right
        unfold hopA
        rw [if_neg (by omega)]
        have : hopN (bt d 0) = 4 := by rw [e]; rfl
        omega
      · rw [if_neg (by rw [e]; decide)]; exact h4
      · rw [if_neg (by rw [e]; decide)]; exact h4
    · show (if famE (bt d 0) = 1 then hopA d else c.next_c1) = [] ∨ (if famE (bt d 0) = 1 then hopA d else c.next_c1).length = 16
      rcases hv with e | e | e
      · rw [if_neg (by rw [e]; decide)]; exact h5
      · rw [if_pos (by rw [e]; rfl)]
        right
        unfold hopA
        rw [if_neg (by omega)]
        have : hopN (bt d 0) = 16 := by rw [e]; rfl
        omega
      · rw [if_pos (by rw [e]; rfl)]
        right
        unfold hopA
        rw [if_pos e]
        exact hlong e
theorem addrF_link {c : Ctx} {r : Raw} (hc : okC c) (hr : RawOk r) (h : (addrF c r).2 = true) (h3 : r.ae = 3) : linkB (addrF c r).1 = true := by
  have hl := hr.len
  have ho := hr.om
  have hlow := hr.low
  have hbs := baseA_rng r.ae
  have s3 : szA r.ae - baseA r.ae = 8 := by rw [h3]; rfl
  have hp : 64 ≤ r.plen := by rw [h3] at hlow; exact hlow
  unfold addrF at h ⊢
  by_cases h0 : r.omitted = 0
  · rw [if_pos h0, h3]; exact wholeF_link hp (by omega)
  · rw [if_neg h0] at h ⊢
    by_cases he : preC c r.ae = []
    · rw [if_pos he] at h; cases h
    · rw [if_neg he]
      have hpl := preC_len hc hr.ae he
      have hcl : ((cut_ (preC c r.ae) (baseA r.ae) r.omitted).length : Int) = r.omitted := cut_length (by omega) ho (by omega)
      rw [h3] at hcl ⊢
      exact wholeF_link hp (by rw [List.length_append]; omega)
theorem okC_flags {c : Ctx} {r : Raw} {a : Bs} (h : okC c) (hr : RawOk r) (hl : (a.length : Int) = szA r.ae) (h3 : r.ae = 3 → linkB a = true) : okC (flagsF c r a) := by
  unfold flagsF
  split
  · exact h
  rename_i a0
  have hae := hr.ae
  have hid : okC (setId c (if r.flags / 64 % 2 = 1 then (flagsF.z4' ++ a).drop (a.length - 4) else c.id)) ∧ ((if r.flags / 64 % 2 = 1 then (flagsF.z4' ++ a).drop (a.length - 4) else c.id) = [] ∨ (if r.flags / 64 % 2 = 1 then (flagsF.z4' ++ a).drop (a.length - 4) else c.id).length = 8) := by
    have h4 : 4 ≤ a.length := by
      rcases ae_cases hae with e | e | e | e
      · exact absurd e a0
      · rw [e] at hl; have : szA 1 = 4 := rfl; omega
      · rw [e] at hl; have : szA 2 = 16 := rfl; omega
      · rw [e] at hl; have : szA 3 = 16 := rfl; omega
    have h8 : (if r.flags / 64 % 2 = 1 then (flagsF.z4' ++ a).drop (a.length - 4) else c.id) = [] ∨ (if r.flags / 64 % 2 = 1 then (flagsF.z4' ++ a).drop (a.length - 4) else c.id).length = 8 := by
      split
      · right; rw [List.length_drop, List.length_append]; show 4 + a.length - (a.length - 4) = 8; omega
      · exact h.2.2.2.2.2.2
    obtain ⟨h0, h1, h2, h3, h4, h5, h6⟩ := h
    exact ⟨⟨h0, h1, h2, h3, h4, h5, h8⟩, h8⟩
  obtain ⟨h0, h1, h2, h3', h4, h5, h6⟩ := h
  dsimp only
  split
  · refine ⟨?_, ?_, ?_, ?_, h4, h5, hid.2⟩
    · exact h0
    · show (if r.ae = 1 then a else c.prefix_c1) = [] ∨ (if r.ae = 1 then a else c.prefix_c1).length = 4
      split
      · rename_i e; rw [e] at hl; have : szA 1 = 4 := rfl; right; omega
      · exact h1
    · show (if r.ae = 2 then a else c.prefix_c2) = [] ∨ (if r.ae = 2 then a else c.prefix_c2).length = 16
      split
      · rename_i e; rw [e] at hl; have : szA 2 = 16 := rfl; right; omega
      · exact h2
    · show (if r.ae = 3 then a else c.prefix_c3) = [] ∨ linkB (if r.ae = 3 then a else c.prefix_c3) = true
      split
      · rename_i e; exact .inr (h3 e)
      · exact h3'
  · exact hid.1
theorem okC_upd {c : Ctx} {d : Bs} (h : okC c) : okC (updF c d).1 := by
  unfold updF
  split
  · rename_i ht
    obtain ⟨hr, _⟩ := takeG_raw ht
    split
    · rename_i ha
      have := okC_flags h hr (addrF_len h hr ha) (addrF_link h hr ha)
      split <;> exact this
    · exact h
  · exact h
theorem okC_step {c : Ctx} {ty : Int} {d : Bs} (h : okC c) : okC (stepC c ty d).1 := by
  unfold stepC
  split
  · exact okC_id h
  split
  · exact okC_hop h
  split
  · exact okC_upd h
  · exact h
end Go.VP
