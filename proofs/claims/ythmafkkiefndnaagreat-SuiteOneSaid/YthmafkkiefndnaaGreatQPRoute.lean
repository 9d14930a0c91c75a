/- Requests' messages: whether one may be, its bytes. -/
import Derived.Test.YthmafkkiefndnaaGreatQFH
import Derived.Test.YthmafkkiefndnaaGreatQFQ3
import Derived.Test.YthmafkkiefndnaaGreatQFQ5
import Derived.Test.YthmafkkiefndnaaGreatQFQ6
import Derived.Test.YthmafkkiefndnaaGreatQFQ7
import Derived.Test.YthmafkkiefndnaaGreatQPBase
import Derived.Test.YthmafkkiefndnaaGreatQPCur
import Derived.Test.YthmafkkiefndnaaGreatQPOct
import Derived.Test.YthmafkkiefndnaaGreatQPTlv
import Derived.Test.YthmafkkiefndnaaGreatQPSub
import Derived.Test.YthmafkkiefndnaaGreatQPMsg
import Derived.Test.YthmafkkiefndnaaGreatQPAddr
import Derived.Test.YthmafkkiefndnaaGreatQPBits
import Derived.Test.YthmafkkiefndnaaGreatQPField
set_option linter.unusedVariables false
set_option linter.unusedSimpArgs false
set_option maxRecDepth 100000
namespace Go.VP
open Go Go.VI
def szA (ae : Int) : Int := if ae = 0 then 0 else (if ae = 1 then 4 else (if ae = 2 then 16 else 16))
def baseA (ae : Int) : Int := if ae = 0 then 0 else (if ae = 1 then 0 else (if ae = 2 then 0 else 8))
def lowA (ae : Int) : Int := if ae = 0 then 0 else (if ae = 1 then 0 else (if ae = 2 then 0 else 64))
def highA (ae : Int) : Int := if ae = 0 then 0 else (if ae = 1 then 32 else (if ae = 2 then 128 else 128))
theorem ae_cases {ae : Int} (h : 0 ≤ ae ∧ ae < 4) : ae = 0 ∨ ae = 1 ∨ ae = 2 ∨ ae = 3 := by omega
def inB (ae : Int) (a : Bs) (plen : Int) : Bool := decide (0 ≤ ae ∧ ae < 4) && (decide ((a.length : Int) = szA ae) && (decide (lowA ae ≤ plen ∧ plen ≤ highA ae) && (cleanB a plen && (decide (ae ≠ 3) || linkB a))))
theorem in_is {ae plen : Int} {a : Bs} (ha : a.length ≤ 1000000000) (hp : IntKind.has .i64 plen) : g_route_In (ae, a, plen, ()) = some ((inB ae a plen, ()), ()) := by
  rw [g_route_In_eq, g_route_shapes_eq, Option.bind_some]
  dsimp only
  unfold inB
  by_cases h0 : ae < 0
  · rw [ifd h0, decide_eq_false (by omega)]; rfl
  by_cases h3 : 3 < ae
  · rw [ifn h0, ifd h3, decide_eq_false (by omega)]; rfl
  have hae : 0 ≤ ae ∧ ae < 4 := by omega
  rw [ifn h0, ifn h3, if_pos hae, decide_eq_true hae, Bool.true_and]
  change (if ((a.length : Int) == szA ae) = true then (if decide (lowA ae ≤ plen) = true then (if decide (plen ≤ highA ae) = true then _ else _) else _) else _) = _
  by_cases h1 : (a.length : Int) = szA ae
  · rw [if_pos (by simp [h1]), decide_eq_true h1, Bool.true_and]
    by_cases h2 : lowA ae ≤ plen
    · rw [ifd h2]
      by_cases h4 : plen ≤ highA ae
      · rw [ifd h4, decide_eq_true ⟨h2, h4⟩, Bool.true_and, clean_is ha hp, Option.bind_some, link_is]
        dsimp only
        cases cleanB a plen
        · rfl
        · rw [ift, Bool.true_and]
          by_cases h5 : ae = 3
          · rw [if_neg (by simp [h5])]; simp [h5]
          · rw [if_pos (by simp [h5])]; simp [h5]
      · rw [ifn h4, decide_eq_false (by omega)]; rfl
    · rw [ifn h2, decide_eq_false (by omega)]; rfl
  · rw [if_neg (by simp [h1]), decide_eq_false h1]; rfl
def kindR (m : Msg) : Bool := if m.kind = 12 then true else if m.kind = 13 then (decide (0 < m.ae) && (fitsB m.seq 2 && (decide (1 ≤ m.hops ∧ m.hops ≤ 255) && decide (m.id.length = 8)))) else false
noncomputable def routeB (m : Msg) : Bool := bareB m && (rightB m.subs && (inB m.ae m.prefix_ m.plen && kindR m))
theorem len8 (l : Bs) : ((l.length : Int) == 8) = decide (l.length = 8) := by rw [Bool.eq_iff_iff]; simp; omega
theorem rtright_is {m : Msg} (g : GoodM m) : g_route_Right (m, ()) = some ((routeB m, ()), ()) := by
  have h2 : g_octet_Fits (m.seq, 2, ()) = some ((fitsB m.seq 2, ()), ()) := fits_is (k := 2) g.seq (by omega) (by omega)
  have h1 : g_octet_Fits (m.hops, 1, ()) = some ((fitsB m.hops 1, ()), ()) := fits_is (k := 1) g.hops (by omega) (by omega)
  rw [g_route_Right_eq, bare_is, Option.bind_some, sright_is g.few.fewS, Option.bind_some, in_is (by have := g.few.pre; omega) g.plen, Option.bind_some, h1, h2]
  dsimp only
  unfold routeB
  cases bareB m
  · rfl
  rw [ifnt, Bool.true_and]
  cases rightB m.subs
  · rfl
  rw [ifnt, Bool.true_and]
  cases inB m.ae m.prefix_ m.plen
  · rfl
  rw [ifnt, Bool.true_and]
  unfold kindR
  refine bq_step (fun h => ?_) (fun h => ?_)
  · rw [if_pos h]
  rw [if_neg h]
  refine bq_step (fun h => ?_) (fun h => ?_)
  · rw [if_pos h, Option.bind_some, Option.bind_some, len8]
    by_cases ha : 0 < m.ae
    · rw [ifd ha, decide_eq_true ha, Bool.true_and]
      cases fitsB m.seq 2
      · rfl
      rw [ift, Bool.true_and]
      by_cases hh : 0 < m.hops
      · rw [ifd hh]
        have : fitsB m.hops 1 = decide (1 ≤ m.hops ∧ m.hops ≤ 255) := by unfold fitsB; rw [Bool.eq_iff_iff]; simp; omega
        rw [this]
        cases decide (1 ≤ m.hops ∧ m.hops ≤ 255) <;> rfl
      · rw [ifn hh, decide_eq_false (by omega)]; rfl
    · rw [ifn ha, decide_eq_false ha]; rfl
  rw [if_neg h]
structure RouteR (m : Msg) : Prop where
  bare : bareB m = true
  subs : rightB m.subs = true
  ae : 0 ≤ m.ae ∧ m.ae < 4
  len : (m.prefix_.length : Int) = szA m.ae
  plen : lowA m.ae ≤ m.plen ∧ m.plen ≤ highA m.ae
  clean : keepF m.prefix_ m.plen = m.prefix_
  link : m.ae = 3 → linkB m.prefix_ = true
  kind : kindR m = true
theorem inB_iff {ae plen : Int} {a : Bs} : inB ae a plen = true ↔ (0 ≤ ae ∧ ae < 4) ∧ (a.length : Int) = szA ae ∧ (lowA ae ≤ plen ∧ plen ≤ highA ae) ∧ keepF a plen = a ∧ (ae = 3 → linkB a = true) := by
  unfold inB cleanB
  simp only [Bool.and_eq_true, decide_eq_true_eq, beq_iff_eq, Bool.or_eq_true]
  constructor
  · rintro ⟨a, b, c, d, e⟩; exact ⟨a, b, c, d, fun h => e.resolve_left (fun h2 => h2 h)⟩
  · rintro ⟨a, b, c, d, e⟩; exact ⟨a, b, c, d, by by_cases h : ae = 3 <;> simp [h, e]⟩
theorem RouteR.kinds {m : Msg} (h : RouteR m) : m.kind = 12 ∨ (m.kind = 13 ∧ 0 < m.ae ∧ (0 ≤ m.seq ∧ m.seq < 65536) ∧ (1 ≤ m.hops ∧ m.hops ≤ 255) ∧ m.id.length = 8) := by
  have := h.kind
  unfold kindR at this
  split at this
  · exact .inl (by assumption)
  · split at this
    · simp only [Bool.and_eq_true, decide_eq_true_eq, fitsB2] at this
      exact .inr ⟨by assumption, this⟩
    · cases this
def bytesP (m : Msg) : Bs := (cutF m.prefix_ m.plen).drop (baseA m.ae).toNat
theorem cutF_length (a : Bs) (n : Int) : (cutF a n).length = min (leastF n).toNat a.length := by unfold cutF; rw [keepF_length, List.length_take]
theorem least_base {ae plen : Int} (hae : 0 ≤ ae ∧ ae < 4) (hp : lowA ae ≤ plen ∧ plen ≤ highA ae) : 0 ≤ baseA ae ∧ baseA ae ≤ leastF plen ∧ leastF plen ≤ szA ae ∧ 0 ≤ plen ∧ plen ≤ 128 ∧ szA ae ≤ 16 := by
  have h8 : leastF plen = if plen < 0 then 0 else (plen + 7) / 8 := rfl
  rcases ae_cases hae with rfl | rfl | rfl | rfl
  · have : 0 ≤ plen ∧ plen ≤ 0 := hp
    rw [h8]; show 0 ≤ (0 : Int) ∧ (0 : Int) ≤ _ ∧ _ ≤ (0 : Int) ∧ _ ∧ _ ∧ (0 : Int) ≤ 16; rw [if_neg (by omega)]; omega
  · have : 0 ≤ plen ∧ plen ≤ 32 := hp
    rw [h8]; show 0 ≤ (0 : Int) ∧ (0 : Int) ≤ _ ∧ _ ≤ (4 : Int) ∧ _ ∧ _ ∧ (4 : Int) ≤ 16; rw [if_neg (by omega)]; omega
  · have : 0 ≤ plen ∧ plen ≤ 128 := hp
    rw [h8]; show 0 ≤ (0 : Int) ∧ (0 : Int) ≤ _ ∧ _ ≤ (16 : Int) ∧ _ ∧ _ ∧ (16 : Int) ≤ 16; rw [if_neg (by omega)]; omega
  · have : 64 ≤ plen ∧ plen ≤ 128 := hp
    rw [h8]; show 0 ≤ (8 : Int) ∧ (8 : Int) ≤ _ ∧ _ ≤ (16 : Int) ∧ _ ∧ _ ∧ (16 : Int) ≤ 16; rw [if_neg (by omega)]; omega
theorem RouteR.cut {m : Msg} (h : RouteR m) : ((cutF m.prefix_ m.plen).length : Int) = leastF m.plen ∧ ((bytesP m).length : Int) = leastF m.plen - baseA m.ae := by
  obtain ⟨h1, h2, h3, h4, h5, h6⟩ := least_base h.ae h.plen
  have := h.len
  have hc : ((cutF m.prefix_ m.plen).length : Int) = leastF m.plen := by rw [cutF_length]; omega
  exact ⟨hc, by unfold bytesP; rw [List.length_drop]; omega⟩
end Go.VP
