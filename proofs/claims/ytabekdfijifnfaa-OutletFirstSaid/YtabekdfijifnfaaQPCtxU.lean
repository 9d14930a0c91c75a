/- What a parser of Babel knows: an Update's address, and what it leaves behind. -/
import Derived.Test.YtabekdfijifnfaaQFH
import Derived.Test.YtabekdfijifnfaaQFQ9
import Derived.Test.YtabekdfijifnfaaQPBase
import Derived.Test.YtabekdfijifnfaaQPCur
import Derived.Test.YtabekdfijifnfaaQPOct
import Derived.Test.YtabekdfijifnfaaQPTlv
import Derived.Test.YtabekdfijifnfaaQPSub
import Derived.Test.YtabekdfijifnfaaQPMsg
import Derived.Test.YtabekdfijifnfaaQPAddr
import Derived.Test.YtabekdfijifnfaaQPBits
import Derived.Test.YtabekdfijifnfaaQPField
import Derived.Test.YtabekdfijifnfaaQPFieldG
import Derived.Test.YtabekdfijifnfaaQPRoute
import Derived.Test.YtabekdfijifnfaaQPRouteG
import Derived.Test.YtabekdfijifnfaaQPTake
import Derived.Test.YtabekdfijifnfaaQPRouteB
import Derived.Test.YtabekdfijifnfaaQPCtx
set_option linter.unusedVariables false
set_option linter.unusedSimpArgs false
set_option maxRecDepth 100000
namespace Go.VP
open Go Go.VI
theorem dq_step' {R : Type} {p : Prop} [Decidable p] {t f r : R} (h : p → t = r) (h' : ¬ p → f = r) : (if decide p = true then t else f) = r := by
  by_cases hp : p
  · rw [ifd hp]; exact h hp
  · rw [ifn hp]; exact h' hp
theorem be_step {R : Type} {x y : Bs} {f t r : R} (heq : x = y → t = r) (hne : x ≠ y → f = r) : (if (x == y) = true then t else f) = r := by
  by_cases h : x = y
  · rw [if_pos (by simp [h])]; exact heq h
  · rw [if_neg (by simpa using h)]; exact hne h
def okC (c : Ctx) : Prop := c.prefix_c0 = [] ∧ (c.prefix_c1 = [] ∨ c.prefix_c1.length = 4) ∧ (c.prefix_c2 = [] ∨ c.prefix_c2.length = 16) ∧ (c.prefix_c3 = [] ∨ linkB c.prefix_c3 = true) ∧ (c.next_c0 = [] ∨ c.next_c0.length = 4) ∧ (c.next_c1 = [] ∨ c.next_c1.length = 16) ∧ (c.id = [] ∨ c.id.length = 8)
structure RawOk (r : Raw) : Prop where
  ae : 0 ≤ r.ae ∧ r.ae < 4
  om : 0 ≤ r.omitted
  plen : 0 ≤ r.plen ∧ r.plen ≤ 128
  len : r.omitted + r.bytes.length ≤ szA r.ae - baseA r.ae
  flags : 0 ≤ r.flags ∧ r.flags ≤ 255
  metric : 0 ≤ r.metric ∧ r.metric ≤ 65535
  have_ : r.have_ = 0 ∨ r.have_ = 1
  low : lowA r.ae ≤ r.plen
def preC (c : Ctx) (ae : Int) : Bs := if ae = 0 then c.prefix_c0 else (if ae = 1 then c.prefix_c1 else (if ae = 2 then c.prefix_c2 else c.prefix_c3))
theorem preC_len {c : Ctx} (h : okC c) {ae : Int} (ha : 0 ≤ ae ∧ ae < 4) (hn : preC c ae ≠ []) : ((preC c ae).length : Int) = szA ae := by
  obtain ⟨h0, h1, h2, h3, _⟩ := h
  rcases ae_cases ha with rfl | rfl | rfl | rfl
  · exact absurd h0 hn
  · rcases h1 with e | e
    · exact absurd e hn
    · show (c.prefix_c1.length : Int) = 4; omega
  · rcases h2 with e | e
    · exact absurd e hn
    · show (c.prefix_c2.length : Int) = 16; omega
  · rcases h3 with e | e
    · exact absurd e hn
    · have := (linkB_len e).1; show (c.prefix_c3.length : Int) = 16; omega
def addrF (c : Ctx) (r : Raw) : Bs × Bool :=
  if r.omitted = 0 then (wholeF r.ae r.bytes r.plen, true)
  else if preC c r.ae = [] then ([], false)
  else (wholeF r.ae (cut_ (preC c r.ae) (baseA r.ae) r.omitted ++ r.bytes) r.plen, true)
def flagsF (c : Ctx) (r : Raw) (a : Bs) : Ctx :=
  if r.ae = 0 then c else
    let i := if r.flags / 64 % 2 = 1 then (z4' ++ a).drop (a.length - 4) else c.id
    if 128 ≤ r.flags then ⟨(if r.ae = 0 then a else c.prefix_c0), (if r.ae = 1 then a else c.prefix_c1), (if r.ae = 2 then a else c.prefix_c2), (if r.ae = 3 then a else c.prefix_c3), c.next_c0, c.next_c1, i⟩ else setId c i
  where z4' : Bs := [0, 0, 0, 0]
def toldB (c : Ctx) (r : Raw) : Bool := decide (r.have_ = 1) && (decide (r.metric = 65535) || (decide (0 < r.ae) && !(c.id == [])))
end Go.VP
