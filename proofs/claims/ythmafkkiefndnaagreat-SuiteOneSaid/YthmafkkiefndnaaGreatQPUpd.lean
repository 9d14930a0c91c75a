/- An Update that may be, and what is laid of it: it comes back. -/
import Derived.Test.YthmafkkiefndnaaGreatQPBase
import Derived.Test.YthmafkkiefndnaaGreatQPCur
import Derived.Test.YthmafkkiefndnaaGreatQPOct
import Derived.Test.YthmafkkiefndnaaGreatQPTlv
import Derived.Test.YthmafkkiefndnaaGreatQPSub
import Derived.Test.YthmafkkiefndnaaGreatQPMsg
import Derived.Test.YthmafkkiefndnaaGreatQPAddr
import Derived.Test.YthmafkkiefndnaaGreatQPBits
import Derived.Test.YthmafkkiefndnaaGreatQPField
import Derived.Test.YthmafkkiefndnaaGreatQFH
import Derived.Test.YthmafkkiefndnaaGreatQPFieldB
import Derived.Test.YthmafkkiefndnaaGreatQPRoute
import Derived.Test.YthmafkkiefndnaaGreatQPRouteG
import Derived.Test.YthmafkkiefndnaaGreatQFQ3
import Derived.Test.YthmafkkiefndnaaGreatQPCtx
import Derived.Test.YthmafkkiefndnaaGreatQPCtxU
import Derived.Test.YthmafkkiefndnaaGreatQFQ2
import Derived.Test.YthmafkkiefndnaaGreatQPFold
import Derived.Test.YthmafkkiefndnaaGreatQPParts
set_option linter.unusedVariables false
set_option linter.unusedSimpArgs false
set_option maxRecDepth 100000
namespace Go.VP
open Go Go.VI
structure UpdR (m : Msg) : Prop where
  kind : m.kind = 11
  bare : bareB m = true
  subs : rightB m.subs = true
  inn : inB m.ae m.prefix_ m.plen = true
  iv : 0 ≤ m.interval ∧ m.interval < 65536
  sq : 0 ≤ m.seq ∧ m.seq < 65536
  me : 0 ≤ m.metric ∧ m.metric < 65536
  far : m.metric = 65535 → m.id = [] ∧ m.next = []
  near : m.metric ≠ 65535 → 0 < m.ae ∧ m.id.length = 8 ∧ (m.next = [] ∨ famF m.next = famE m.ae)
def tailB (m : Msg) : Bool := if m.metric = 65535 then (m.id == [] && m.next == []) else decide (0 < m.ae) && (decide (m.id.length = 8) && (m.next == [] || decide (famF m.next = famE m.ae)))
noncomputable def updB (m : Msg) : Bool := decide (m.kind = 11) && (bareB m && (rightB m.subs && (inB m.ae m.prefix_ m.plen && (fitsB m.interval 2 && (fitsB m.seq 2 && (fitsB m.metric 2 && tailB m))))))
def mk12 (ae : Int) (a : Bs) (plen : Int) : Msg := ⟨12, 0, 0, [], 0, ae, a, plen, 0, [], 0, [], 0, 0, 0, 0, 0, 0, 0, [], [], [], 0, [], []⟩
theorem UpdR.asR {m : Msg} (h : UpdR m) : RouteR (mk12 m.ae m.prefix_ m.plen) := by
  obtain ⟨a, b, c, d, e⟩ := inB_iff.1 h.inn
  have hb : bareOf (mk12 m.ae m.prefix_ m.plen) = some (mk12 m.ae m.prefix_ m.plen) := rfl
  exact ⟨by rw [bareB, hb]; exact eqB_refl _, rfl, a, b, c, d, e, rfl⟩
theorem UpdR.pre {m : Msg} (h : UpdR m) : (0 ≤ m.ae ∧ m.ae < 4) ∧ (0 ≤ m.plen ∧ m.plen ≤ 128) ∧ ((bytesP m).length : Int) = leastF m.plen - baseA m.ae ∧ (bytesP m).length ≤ 16 ∧ (0 ≤ baseA m.ae ∧ baseA m.ae ≤ 8) ∧ m.prefix_.length ≤ 16 := by
  have r := h.asR
  have hc : ((bytesP m).length : Int) = leastF m.plen - baseA m.ae := r.cut.2
  obtain ⟨l1, l2, l3, l4, l5, l6⟩ := least_base r.ae r.plen
  have hl : (m.prefix_.length : Int) = szA m.ae := r.len
  have hb := baseA_rng m.ae
  dsimp only [mk12] at l1 l2 l3 l4 l5 l6
  exact ⟨r.ae, ⟨l4, l5⟩, hc, by omega, hb, by omega⟩
theorem famF_cases {a : Bs} {f : Int} (hf : famF a = f) (h : f = 0 ∨ f = 1) : (f = 0 ∧ a.length = 4) ∨ (f = 1 ∧ a.length = 16) := by
  unfold famF at hf
  split at hf
  · exact .inl ⟨hf.symm, by assumption⟩
  split at hf
  · exact .inr ⟨hf.symm, by assumption⟩
  · omega
end Go.VP
