/- What a parser of Babel knows: whether it may be, router-ids and next hops. -/
import Derived.Test.YtabekdfijifnfaaQFQ1
import Derived.Test.YtabekdfijifnfaaQFQ3
import Derived.Test.YtabekdfijifnfaaQFQ5
import Derived.Test.YtabekdfijifnfaaQFQ9
import Derived.Test.YtabekdfijifnfaaQPBase
import Derived.Test.YtabekdfijifnfaaQPCur
import Derived.Test.YtabekdfijifnfaaQPOct
import Derived.Test.YtabekdfijifnfaaQPTlv
import Derived.Test.YtabekdfijifnfaaQPSub
import Derived.Test.YtabekdfijifnfaaQPMsg
import Derived.Test.YtabekdfijifnfaaQPAddr
import Derived.Test.YtabekdfijifnfaaQPBits
set_option linter.unusedVariables false
set_option linter.unusedSimpArgs false
set_option maxRecDepth 100000
namespace Go.VP
open Go Go.VI
abbrev Ctx := S_api_Ctx
def famE (ae : Int) : Int := if ae = 1 then 0 else if ae = 2 then 1 else if ae = 3 then 1 else -1
theorem cfam_is (ae : Int) : g_ctx_Family (ae, ()) = some ((famE ae, ()), ()) := by
  rw [g_ctx_Family_eq]; unfold famE
  by_cases h1 : ae = 1
  · rw [if_pos (by simp [h1]), if_pos h1]
  rw [if_neg (by simp [h1]), if_neg h1]
  by_cases h2 : ae = 2
  · rw [if_pos (by simp [h2]), if_pos (by simp [h2]), if_pos h2]
  rw [if_neg (by simp [h2]), if_neg h2]
  by_cases h3 : ae = 3
  · rw [if_pos (by simp [h3]), if_pos h3]
  · rw [if_neg (by simp [h3]), if_neg h3]
theorem rcfam_is (ae : Int) : g_ref22_Family (ae, ()) = some ((famE ae, ()), ()) := by
  rw [g_ref22_Family_eq]; unfold famE
  by_cases h1 : ae = 1
  · rw [if_pos (by simp [h1]), if_pos h1]
  rw [if_neg (by simp [h1]), if_neg h1]
  by_cases h2 : ae = 2
  · rw [if_pos (by simp [h2]), if_pos h2]
  rw [if_neg (by simp [h2]), if_neg h2]
  by_cases h3 : ae = 3
  · rw [if_pos (by simp [h3]), if_pos h3]
  · rw [if_neg (by simp [h3]), if_neg h3]
theorem famE_rng {ae : Int} (h : 1 ≤ ae ∧ ae ≤ 3) : 0 ≤ famE ae ∧ famE ae < 2 := by
  unfold famE; split
  · omega
  split
  · omega
  split <;> omega
theorem getS_known {s : Bs} (h : (getS s).2.1 = true) : (getS s).2.2 = 0 := by
  unfold getS at h ⊢
  split at h
  · rename_i l e
    unfold endS at h ⊢
    split at h
    · cases h
    · rename_i h0; rw [if_neg h0]
  · cases h
def countF (d : Bs) (n : Int) : Bool × Int := if (d.length : Int) < n then (false, 2) else ((getS (d.drop n.toNat)).2.1, (getS (d.drop n.toNat)).2.2)
theorem countF_known {d : Bs} {n : Int} (h : (countF d n).1 = true) : (countF d n).2 = 0 ∧ n ≤ d.length := by
  unfold countF at h ⊢
  split at h
  · cases h
  · rename_i h0; rw [if_neg h0]; exact ⟨getS_known h, by omega⟩
theorem rfixed_is {d : Bs} {n : Int} (hd : d.length ≤ 100000) (hn : 0 ≤ n) : g_ref22_fixed (d, n, ()) = some (((countF d n).1, (countF d n).2, ()), ()) := by
  rw [g_ref22_fixed_eq]; unfold countF
  by_cases h : (d.length : Int) < n
  · rw [ifd h, if_pos h]
  · rw [ifn h, if_neg h, if_pos (by omega), rsget_is (by simp; omega), Option.bind_some]
def setId (c : Ctx) (i : Bs) : Ctx := ⟨c.prefix_c0, c.prefix_c1, c.prefix_c2, c.prefix_c3, c.next_c0, c.next_c1, i⟩
def setN (c : Ctx) (k : Int) (a : Bs) : Ctx := ⟨c.prefix_c0, c.prefix_c1, c.prefix_c2, c.prefix_c3, (if k = 0 then a else c.next_c0), (if k = 1 then a else c.next_c1), c.id⟩
def idF (c : Ctx) (d : Bs) : Ctx × Int := if (countF d 10).1 = true then (setId c (cut_ d 2 8), 0) else (c, (countF d 10).2)
def hopN (ae : Int) : Int := if ae = 0 then (0 : Int) else (if ae = 1 then (4 : Int) else (if ae = 2 then (16 : Int) else (8 : Int)))
theorem hopN_rng (ae : Int) : 0 ≤ hopN ae ∧ hopN ae ≤ 16 := by
  unfold hopN; split
  · omega
  split
  · omega
  split <;> omega
def hopA (d : Bs) : Bs := if bt d 0 = 3 then (longF (cut_ d 2 (hopN (bt d 0)))).1 else cut_ d 2 (hopN (bt d 0))
def hopF (c : Ctx) (d : Bs) : Ctx × Int :=
  if (d.length : Int) < 2 then (c, 2) else if bt d 0 < 1 ∨ 3 < bt d 0 then (c, 0)
  else if (countF d (2 + hopN (bt d 0))).1 = true then (setN c (famE (bt d 0)) (hopA d), 0)
  else (c, (countF d (2 + hopN (bt d 0))).2)
theorem rlong20 {v : Int} (h : 0 ≤ v ∧ v ≤ 3) : g_ref20_Long (v, ()) = some ((hopN v, ()), ()) := by
  rw [g_ref20_Long_eq, if_pos h.1]
  have : v = 0 ∨ v = 1 ∨ v = 2 ∨ v = 3 := by omega
  rcases this with rfl | rfl | rfl | rfl <;> rfl
theorem rhop_is {c : Ctx} {d : Bs} (hd : d.length ≤ 100000) : g_ref22_hop (c, d, ()) = some (((hopF c d).1, (hopF c d).2, ()), ()) := by
  rw [g_ref22_hop_eq]
  unfold hopF
  by_cases h2 : (d.length : Int) < 2
  · rw [ifd h2, if_pos h2]
  rw [ifn h2, if_neg h2, get_bt (i := 0) (by omega), Option.bind_some, w64n]
  have e0 : bt d 0 = (((d[0]?.getD 0).toNat : Nat) : Int) := rfl
  have hb := bt_rng d 0
  rw [← e0]
  unfold hopA
  generalize bt d 0 = v at *
  refine bq_step (fun h0 => ?_) (fun h0 => ?_)
  · rw [if_pos (show v < 1 ∨ 3 < v by omega)]
  by_cases h3 : 3 < v
  · rw [ifd h3, if_pos (.inr h3)]
  have hr := hopN_rng v
  rw [ifn h3, if_neg (show ¬ (v < 1 ∨ 3 < v) by omega), rlong20 (by omega), Option.bind_some]
  dsimp only
  rw [w64 (x := 2 + hopN v) (by omega) (by omega), rfixed_is hd (by omega), Option.bind_some]
  dsimp only
  cases h : (countF d (2 + hopN v)).1 with
  | false => rw [ifnf, ite_self, if_neg (by simp)]
  | true =>
    have hk := countF_known h
    have hf := famE_rng (ae := v) (by omega)
    have hc : (List.take (2 + hopN v).toNat d).drop 2 = cut_ d 2 (hopN v) := rfl
    rw [hk.1, if_neg (by decide), ifnt, if_pos (show 0 ≤ (2 : Int) ∧ (2 : Int) ≤ 2 + hopN v ∧ 2 + hopN v ≤ (d.length : Int) by omega), if_pos rfl, hc]
    refine bq_step (fun hv => ?_) (fun hv => ?_)
    · rw [rlong_is, Option.bind_some, rcfam_is, Option.bind_some]
      dsimp only
      rw [if_pos hf, if_pos hv]; rfl
    · rw [rcfam_is, Option.bind_some]
      dsimp only
      rw [if_pos hf, if_neg hv]; rfl
end Go.VP
