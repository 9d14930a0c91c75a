/- Requests' messages: whether one may be, its bytes. -/
import Derived.Test.YtabekdfijifnfaaQFQ0
import Derived.Test.YtabekdfijifnfaaQFQ1
import Derived.Test.YtabekdfijifnfaaQFQ3
import Derived.Test.YtabekdfijifnfaaQPBase
import Derived.Test.YtabekdfijifnfaaQPCur
import Derived.Test.YtabekdfijifnfaaQPOct
import Derived.Test.YtabekdfijifnfaaQPTlv
import Derived.Test.YtabekdfijifnfaaQPSub
import Derived.Test.YtabekdfijifnfaaQPMsg
import Derived.Test.YtabekdfijifnfaaQPAddr
import Derived.Test.YtabekdfijifnfaaQPBits
import Derived.Test.YtabekdfijifnfaaQPField
set_option linter.unusedVariables false
set_option linter.unusedSimpArgs false
set_option maxRecDepth 100000
namespace Go.VP
open Go Go.VI
def szA (ae : Int) : Int := if ae = 0 then 0 else (if ae = 1 then 4 else (if ae = 2 then 16 else 16))
def baseA (ae : Int) : Int := if ae = 0 then 0 else (if ae = 1 then 0 else (if ae = 2 then 0 else 8))
def lowA (ae : Int) : Int := if ae = 0 then 0 else (if ae = 1 then 0 else (if ae = 2 then 0 else 64))
def highA (ae : Int) : Int := if ae = 0 then 0 else (if ae = 1 then 32 else (if ae = 2 then 128 else 128))
theorem ae_cases {ae : Int} (h : 0 ≤ ae ∧ ae < 4) : ae = 0 ∨ ae = 1 ∨ ae = 2 ∨ ae = 3 := by omega
def inB (ae : Int) (a : Bs) (plen : Int) : Bool := decide (0 ≤ ae ∧ ae < 4) && (decide ((a.length : Int) = szA ae) && (decide (lowA ae ≤ plen ∧ plen ≤ highA ae) && (cleanB a plen && (decide (ae ≠ 3) || linkB a))))
theorem in_is {ae plen : Int} {a : Bs} (ha : a.length ≤ 1000000000) (hp : IntKind.has .i64 plen) : g_route_In (ae, a, plen, ()) = some ((inB ae a plen, ()), ()) := by
  rw [g_route_In_eq, g_route_shapes_eq, Option.bind_some]
  dsimp only
  unfold inB
  by_cases h0 : ae < 0
  · rw [ifd h0, decide_eq_false (by omega)]; rfl
  by_cases h3 : 3 < ae
  · rw [ifn h0, ifd h3, decide_eq_false (by omega)]; rfl
  have hae : 0 ≤ ae ∧ ae < 4 := by omega
  rw [ifn h0, ifn h3, if_pos hae, decide_eq_true hae, Bool.true_and]
  change (if ((a.length : Int) == szA ae) = true then (if decide (lowA ae ≤ plen) = true then (if decide (plen ≤ highA ae) = true then _ else _) else _) else _) = _
  by_cases h1 : (a.length : Int) = szA ae
  · rw [if_pos (by simp [h1]), decide_eq_true h1, Bool.true_and]
    by_cases h2 : lowA ae ≤ plen
    · rw [ifd h2]
      by_cases h4 : plen ≤ highA ae
      · rw [ifd h4, decide_eq_true ⟨h2, h4⟩, Bool.true_and, clean_is ha hp, Option.bind_some, link_is]
        dsimp only
        cases cleanB a plen
        · rfl
        · rw [ift, Bool.true_and]
          by_cases h5 : ae = 3
          · rw [if_neg (by simp [h5])]; simp [h5]
          · rw [if_pos (by simp [h5])]; simp [h5]
      · rw [ifn h4, decide_eq_false (by omega)]; rfl
    · rw [ifn h2, decide_eq_false (by omega)]; rfl
  · rw [if_neg (by simp [h1]), decide_eq_false h1]; rfl
theorem rright4_is {a : Bs} {n : Int} (ha : a.length ≤ 1000000000) (h : a.length = 4 ∨ a.length = 16) : g_ref04_Right (a, n, ()) = some ((decide (0 ≤ n ∧ n ≤ 8 * a.length) && cleanB a n, ()), ()) := by
  rw [g_ref04_Right_eq, w64 (x := 8 * (a.length : Int)) (by omega) (by omega), rclean_is ha, Option.bind_some]
  have go : (if decide (0 ≤ n) = true then (if decide (n ≤ 8 * (a.length : Int)) = true then (some ((cleanB a n, ()), ()) : Option ((Bool × Unit) × Unit)) else some ((false, ()), ())) else some ((false, ()), ())) = some ((decide (0 ≤ n ∧ n ≤ 8 * a.length) && cleanB a n, ()), ()) := by
    by_cases h1 : 0 ≤ n
    · rw [ifd h1]
      by_cases h2 : n ≤ 8 * (a.length : Int)
      · rw [ifd h2, decide_eq_true ⟨h1, h2⟩]; rfl
      · rw [ifn h2, decide_eq_false (by omega)]; rfl
    · rw [ifn h1, decide_eq_false (by omega)]; rfl
  rcases h with h | h
  · rw [if_pos (by simp; omega)]; exact go
  · rw [if_neg (by simp; omega), if_pos (by simp; omega)]; exact go
theorem rin_is {ae plen : Int} {a : Bs} (ha : a.length ≤ 1000000000) : g_ref21_In (ae, a, plen, ()) = some ((inB ae a plen, ()), ()) := by
  rw [g_ref21_In_eq, rlink_is]
  unfold inB
  refine bq_step (fun h => ?_) (fun h0 => ?_)
  · subst h
    by_cases h1 : a = []
    · subst h1
      rw [if_pos (show (([] : Bs) == []) = true from rfl)]
      have hc : cleanB [] plen = true := rfl
      rw [hc]
      by_cases h2 : plen = 0
      · subst h2; rfl
      · have : (plen == 0) = false := by simpa using h2
        have h3 : ¬ (lowA 0 ≤ plen ∧ plen ≤ highA 0) := by show ¬ (0 ≤ plen ∧ plen ≤ 0); omega
        rw [this, decide_eq_false h3]; simp
    · have hl : ¬ ((a.length : Int) = szA 0) := by show ¬ ((a.length : Int) = 0); intro h; exact h1 (List.length_eq_zero_iff.1 (by omega))
      rw [if_neg (by simpa using h1), decide_eq_false hl]; simp
  refine bq_step (fun h => ?_) (fun h1 => ?_)
  · subst h
    by_cases h4 : a.length = 4
    · rw [if_pos (by simp; omega), rright4_is ha (.inl h4), Option.bind_some, h4]
      rw [decide_eq_true (show (0 : Int) ≤ 1 ∧ (1 : Int) < 4 by omega), decide_eq_true (show ((4 : Nat) : Int) = szA 1 from rfl), decide_eq_true (show (1 : Int) ≠ 3 by omega)]
      show some ((decide (0 ≤ plen ∧ plen ≤ 32) && cleanB a plen, ()), ()) = some ((true && (true && (decide (0 ≤ plen ∧ plen ≤ 32) && (cleanB a plen && (true || linkB a)))), ()), ())
      simp
    · have hl : ¬ ((a.length : Int) = szA 1) := by show ¬ ((a.length : Int) = 4); omega
      rw [if_neg (by simp; omega), decide_eq_false hl]; simp
  refine bq_step (fun h => ?_) (fun h2 => ?_)
  · subst h
    by_cases h4 : a.length = 16
    · rw [if_pos (by simp; omega), rright4_is ha (.inr h4), Option.bind_some, h4]
      rw [decide_eq_true (show (0 : Int) ≤ 2 ∧ (2 : Int) < 4 by omega), decide_eq_true (show ((16 : Nat) : Int) = szA 2 from rfl), decide_eq_true (show (2 : Int) ≠ 3 by omega)]
      show some ((decide (0 ≤ plen ∧ plen ≤ 128) && cleanB a plen, ()), ()) = some ((true && (true && (decide (0 ≤ plen ∧ plen ≤ 128) && (cleanB a plen && (true || linkB a)))), ()), ())
      simp
    · have hl : ¬ ((a.length : Int) = szA 2) := by show ¬ ((a.length : Int) = 16); omega
      rw [if_neg (by simp; omega), decide_eq_false hl]; simp
  refine bq_step (fun h => ?_) (fun h3 => ?_)
  · subst h
    rw [Option.bind_some]
    dsimp only
    by_cases hb : linkB a = true
    · have h16 := (linkB_len hb).1
      rw [hb, ift, rright4_is ha (.inr h16), Option.bind_some, h16]
      rw [decide_eq_true (show (0 : Int) ≤ 3 ∧ (3 : Int) < 4 by omega), decide_eq_true (show ((16 : Nat) : Int) = szA 3 from rfl)]
      by_cases h6 : 64 ≤ plen
      · have : decide (lowA 3 ≤ plen ∧ plen ≤ highA 3) = decide (0 ≤ plen ∧ plen ≤ 8 * ((16 : Nat) : Int)) := by
          rw [Bool.eq_iff_iff]; show decide (64 ≤ plen ∧ plen ≤ 128) = true ↔ _; simp; omega
        rw [ifd h6, this]; simp
      · have : decide (lowA 3 ≤ plen ∧ plen ≤ highA 3) = false := decide_eq_false (by show ¬ (64 ≤ plen ∧ plen ≤ 128); omega)
        rw [ifn h6, this]; simp
    · rw [Bool.not_eq_true] at hb
      rw [hb, iff_]; simp
  rw [decide_eq_false (by omega)]; rfl
def kindR (m : Msg) : Bool := if m.kind = 12 then true else if m.kind = 13 then (decide (0 < m.ae) && (fitsB m.seq 2 && (decide (1 ≤ m.hops ∧ m.hops ≤ 255) && decide (m.id.length = 8)))) else false
noncomputable def routeB (m : Msg) : Bool := bareB m && (rightB m.subs && (inB m.ae m.prefix_ m.plen && kindR m))
theorem len8 (l : Bs) : ((l.length : Int) == 8) = decide (l.length = 8) := by rw [Bool.eq_iff_iff]; simp; omega
theorem rtright_is {m : Msg} (g : GoodM m) : g_route_Right (m, ()) = some ((routeB m, ()), ()) := by
  have h2 : g_octet_Fits (m.seq, 2, ()) = some ((fitsB m.seq 2, ()), ()) := fits_is (k := 2) g.seq (by omega) (by omega)
  have h1 : g_octet_Fits (m.hops, 1, ()) = some ((fitsB m.hops 1, ()), ()) := fits_is (k := 1) g.hops (by omega) (by omega)
  rw [g_route_Right_eq, bare_is, Option.bind_some, sright_is g.few.fewS, Option.bind_some, in_is (by have := g.few.pre; omega) g.plen, Option.bind_some, h1, h2]
  dsimp only
  unfold routeB
  cases bareB m
  · rfl
  rw [ifnt, Bool.true_and]
  cases rightB m.subs
  · rfl
  rw [ifnt, Bool.true_and]
  cases inB m.ae m.prefix_ m.plen
  · rfl
  rw [ifnt, Bool.true_and]
  unfold kindR
  refine bq_step (fun h => ?_) (fun h => ?_)
  · rw [if_pos h]
  rw [if_neg h]
  refine bq_step (fun h => ?_) (fun h => ?_)
  · rw [if_pos h, Option.bind_some, Option.bind_some, len8]
    by_cases ha : 0 < m.ae
    · rw [ifd ha, decide_eq_true ha, Bool.true_and]
      cases fitsB m.seq 2
      · rfl
      rw [ift, Bool.true_and]
      by_cases hh : 0 < m.hops
      · rw [ifd hh]
        have : fitsB m.hops 1 = decide (1 ≤ m.hops ∧ m.hops ≤ 255) := by unfold fitsB; rw [Bool.eq_iff_iff]; simp; omega
        rw [this]
        cases decide (1 ≤ m.hops ∧ m.hops ≤ 255) <;> rfl
      · rw [ifn hh, decide_eq_false (by omega)]; rfl
    · rw [ifn ha, decide_eq_false ha]; rfl
  rw [if_neg h]
theorem rrtright_is {m : Msg} (g : GoodM m) : g_ref21_Right (m, ()) = some ((routeB m, ()), ()) := by
  have h2 : g_ref02_Fits (m.seq, 2, ()) = some ((fitsB m.seq 2, ()), ()) := rfits_is (k := 2) (by omega) (by omega)
  rw [g_ref21_Right_eq, rbare_is (by have := g.few.list; omega) (by have := g.few.subs; omega), Option.bind_some, rsright_is g.few.fewS, Option.bind_some, rin_is (by have := g.few.pre; omega), Option.bind_some, h2]
  dsimp only
  unfold routeB
  cases bareB m
  · rfl
  rw [ifnt, Bool.true_and]
  cases rightB m.subs
  · rfl
  rw [ifnt, Bool.true_and]
  cases hin : inB m.ae m.prefix_ m.plen
  · rfl
  have hae : 0 ≤ m.ae ∧ m.ae < 4 := by
    unfold inB at hin
    simp only [Bool.and_eq_true, decide_eq_true_eq] at hin
    exact hin.1
  rw [ifnt, Bool.true_and]
  unfold kindR
  refine bq_step (fun h => ?_) (fun h => ?_)
  · rw [if_pos h]
  rw [if_neg h]
  refine bq_step (fun h => ?_) (fun h => ?_)
  · rw [if_pos h, Option.bind_some, len8]
    by_cases ha : m.ae = 0
    · rw [if_neg (by simp [ha]), decide_eq_false (by omega)]; rfl
    · rw [if_pos (by simp [ha]), decide_eq_true (show 0 < m.ae by omega), Bool.true_and]
      cases fitsB m.seq 2
      · rfl
      rw [ift, Bool.true_and]
      by_cases hh : 1 ≤ m.hops
      · rw [ifd hh]
        by_cases h5 : m.hops ≤ 255
        · rw [ifd h5, decide_eq_true (show 1 ≤ m.hops ∧ m.hops ≤ 255 from ⟨hh, h5⟩)]; rfl
        · rw [ifn h5, decide_eq_false (by omega)]; rfl
      · rw [ifn hh, decide_eq_false (by omega)]; rfl
  rw [if_neg h]
structure RouteR (m : Msg) : Prop where
  bare : bareB m = true
  subs : rightB m.subs = true
  ae : 0 ≤ m.ae ∧ m.ae < 4
  len : (m.prefix_.length : Int) = szA m.ae
  plen : lowA m.ae ≤ m.plen ∧ m.plen ≤ highA m.ae
  clean : keepF m.prefix_ m.plen = m.prefix_
  link : m.ae = 3 → linkB m.prefix_ = true
  kind : kindR m = true
theorem inB_iff {ae plen : Int} {a : Bs} : inB ae a plen = true ↔ (0 ≤ ae ∧ ae < 4) ∧ (a.length : Int) = szA ae ∧ (lowA ae ≤ plen ∧ plen ≤ highA ae) ∧ keepF a plen = a ∧ (ae = 3 → linkB a = true) := by
  unfold inB cleanB
  simp only [Bool.and_eq_true, decide_eq_true_eq, beq_iff_eq, Bool.or_eq_true]
  constructor
  · rintro ⟨a, b, c, d, e⟩; exact ⟨a, b, c, d, fun h => e.resolve_left (fun h2 => h2 h)⟩
  · rintro ⟨a, b, c, d, e⟩; exact ⟨a, b, c, d, by by_cases h : ae = 3 <;> simp [h, e]⟩
theorem routeR_iff {m : Msg} : routeB m = true ↔ RouteR m := by
  unfold routeB
  simp only [Bool.and_eq_true, inB_iff]
  exact ⟨fun ⟨a, b, ⟨c, d, e, f, g⟩, h⟩ => ⟨a, b, c, d, e, f, g, h⟩, fun h => ⟨h.1, h.2, ⟨h.3, h.4, h.5, h.6, h.7⟩, h.8⟩⟩
theorem RouteR.kinds {m : Msg} (h : RouteR m) : m.kind = 12 ∨ (m.kind = 13 ∧ 0 < m.ae ∧ (0 ≤ m.seq ∧ m.seq < 65536) ∧ (1 ≤ m.hops ∧ m.hops ≤ 255) ∧ m.id.length = 8) := by
  have := h.kind
  unfold kindR at this
  split at this
  · exact .inl (by assumption)
  · split at this
    · simp only [Bool.and_eq_true, decide_eq_true_eq, fitsB2] at this
      exact .inr ⟨by assumption, this⟩
    · cases this
def bytesP (m : Msg) : Bs := (cutF m.prefix_ m.plen).drop (baseA m.ae).toNat
theorem cutF_length (a : Bs) (n : Int) : (cutF a n).length = min (leastF n).toNat a.length := by unfold cutF; rw [keepF_length, List.length_take]
theorem least_base {ae plen : Int} (hae : 0 ≤ ae ∧ ae < 4) (hp : lowA ae ≤ plen ∧ plen ≤ highA ae) : 0 ≤ baseA ae ∧ baseA ae ≤ leastF plen ∧ leastF plen ≤ szA ae ∧ 0 ≤ plen ∧ plen ≤ 128 ∧ szA ae ≤ 16 := by
  have h8 : leastF plen = if plen < 0 then 0 else (plen + 7) / 8 := rfl
  rcases ae_cases hae with rfl | rfl | rfl | rfl
  · have : 0 ≤ plen ∧ plen ≤ 0 := hp
    rw [h8]; show 0 ≤ (0 : Int) ∧ (0 : Int) ≤ _ ∧ _ ≤ (0 : Int) ∧ _ ∧ _ ∧ (0 : Int) ≤ 16; rw [if_neg (by omega)]; omega
  · have : 0 ≤ plen ∧ plen ≤ 32 := hp
    rw [h8]; show 0 ≤ (0 : Int) ∧ (0 : Int) ≤ _ ∧ _ ≤ (4 : Int) ∧ _ ∧ _ ∧ (4 : Int) ≤ 16; rw [if_neg (by omega)]; omega
  · have : 0 ≤ plen ∧ plen ≤ 128 := hp
    rw [h8]; show 0 ≤ (0 : Int) ∧ (0 : Int) ≤ _ ∧ _ ≤ (16 : Int) ∧ _ ∧ _ ∧ (16 : Int) ≤ 16; rw [if_neg (by omega)]; omega
  · have : 64 ≤ plen ∧ plen ≤ 128 := hp
    rw [h8]; show 0 ≤ (8 : Int) ∧ (8 : Int) ≤ _ ∧ _ ≤ (16 : Int) ∧ _ ∧ _ ∧ (16 : Int) ≤ 16; rw [if_neg (by omega)]; omega
theorem RouteR.cut {m : Msg} (h : RouteR m) : ((cutF m.prefix_ m.plen).length : Int) = leastF m.plen ∧ ((bytesP m).length : Int) = leastF m.plen - baseA m.ae := by
  obtain ⟨h1, h2, h3, h4, h5, h6⟩ := least_base h.ae h.plen
  have := h.len
  have hc : ((cutF m.prefix_ m.plen).length : Int) = leastF m.plen := by rw [cutF_length]; omega
  exact ⟨hc, by unfold bytesP; rw [List.length_drop]; omega⟩
def headF (m : Msg) : Bs := if m.kind = 13 then u8of m.ae :: u8of m.plen :: (be 2 m.seq ++ (u8of m.hops :: 0 :: (m.id ++ bytesP m))) else u8of m.ae :: u8of m.plen :: bytesP m
noncomputable def routePut (m : Msg) : Bs × Bool := if routeB m = true then tput (if m.kind = 13 then 10 else 9) (headF m ++ encS m.subs) else ([], false)
theorem u8w {n : Int} (h : 0 ≤ n) : u8of (IntKind.wrap .u8 n) = u8of n := by rw [wu8, u8of_emod' h]
theorem be2' {n : Int} (h : 0 ≤ n ∧ n < 65536) : be 2 n = [u8of (IntKind.wrap .u8 (ishr .i64 n 8)), u8of (IntKind.wrap .u8 n)] := (be2 h).symm
theorem rtput_is' {m : Msg} (g : GoodM m) : g_route_Put (m, ()) = some (((routePut m).1, (routePut m).2, ()), ()) := by
  rw [g_route_Put_eq, rtright_is g, Option.bind_some]
  unfold routePut
  dsimp only
  by_cases h : routeB m = true
  · have r := routeR_iff.1 h
    have hs := sput_is g.few.fewS (by have := g.few.subs; omega)
    rw [putS_r r.subs] at hs
    have hz := encS_small r.subs
    obtain ⟨c1, c2⟩ := r.cut
    obtain ⟨l1, l2, l3, l4, l5, l6⟩ := least_base r.ae r.plen
    have hcut := pcut_is (a := m.prefix_) (n := m.plen) (by have := g.few.pre; omega) g.plen (by omega)
    rw [if_neg (by simp [h]), if_pos h, hs, Option.bind_some, hcut, g_route_shapes_eq, u8w r.ae.1, u8w l4]
    simp only [Option.bind_some]
    have hd : ((cutF m.prefix_ m.plen).drop (baseA m.ae).toNat) = bytesP m := rfl
    have hae : 0 ≤ m.ae ∧ m.ae < 4 := r.ae
    rcases r.kinds with hk | ⟨hk, _, hq, hh, hi⟩
    · rw [if_neg (show ¬ (m.kind == 13) = true by simp [hk]), if_pos hae]
      change (if 0 ≤ baseA m.ae ∧ baseA m.ae ≤ ((cutF m.prefix_ m.plen).length : Int) then (if roomB ([u8of m.ae, u8of m.plen].length + (bytesP m).length) = true then (if maxB (([u8of m.ae, u8of m.plen] ++ bytesP m).length + (encS m.subs).length) = true then ((g_frame_Put (9, (([u8of m.ae, u8of m.plen] ++ bytesP m) ++ encS m.subs), ())).bind _) else none) else none) else none) = _
      rw [if_pos (by omega), if_pos (roomB_of (by simp; omega)), if_pos (maxB_of (by simp; omega)), tput_is, Option.bind_some, if_neg (show ¬ m.kind = 13 by omega)]
      unfold headF
      rw [if_neg (show ¬ m.kind = 13 by omega)]; rfl
    · rw [if_pos (show (m.kind == 13) = true by simp [hk]), if_pos (roomB_of (by simp)), if_pos (roomB_of (by simp; omega)), if_pos hae, u8w (n := m.hops) (by omega)]
      change (if 0 ≤ baseA m.ae ∧ baseA m.ae ≤ ((cutF m.prefix_ m.plen).length : Int) then (if roomB ((([u8of m.ae, u8of m.plen] ++ [u8of (IntKind.wrap .u8 (ishr .i64 m.seq 8)), u8of (IntKind.wrap .u8 m.seq), u8of m.hops, 0]) ++ m.id).length + (bytesP m).length) = true then (if maxB (((([u8of m.ae, u8of m.plen] ++ [u8of (IntKind.wrap .u8 (ishr .i64 m.seq 8)), u8of (IntKind.wrap .u8 m.seq), u8of m.hops, 0]) ++ m.id) ++ bytesP m).length + (encS m.subs).length) = true then ((g_frame_Put (10, (((([u8of m.ae, u8of m.plen] ++ [u8of (IntKind.wrap .u8 (ishr .i64 m.seq 8)), u8of (IntKind.wrap .u8 m.seq), u8of m.hops, 0]) ++ m.id) ++ bytesP m) ++ encS m.subs), ())).bind _) else none) else none) else none) = _
      rw [if_pos (by omega), if_pos (roomB_of (by simp; omega)), if_pos (maxB_of (by simp; omega)), tput_is, Option.bind_some, if_pos hk]
      unfold headF
      rw [if_pos hk, be2' hq]
      simp
  · rw [Bool.not_eq_true] at h
    rw [h, ifnf, iff_]
theorem rbase_is {ae : Int} (h : 0 ≤ ae ∧ ae < 4) : g_ref21_Base (ae, ()) = some ((baseA ae, ()), ()) := by
  rw [g_ref21_Base_eq]
  rcases ae_cases h with rfl | rfl | rfl | rfl <;> rfl
theorem rbytes21_is {m : Msg} (g : GoodM m) (r : RouteR m) : g_ref21_Bytes (m, ()) = some ((bytesP m, ()), ()) := by
  obtain ⟨c1, c2⟩ := r.cut
  obtain ⟨l1, l2, l3, l4, l5, l6⟩ := least_base r.ae r.plen
  rw [g_ref21_Bytes_eq, rcut_is (by have := g.few.pre; omega) (by omega), Option.bind_some, rbase_is r.ae, Option.bind_some]
  dsimp only
  rw [if_pos (by omega)]; rfl
theorem rrtput_is {m : Msg} (g : GoodM m) : g_ref21_Put (m, ()) = some (((routePut m).1, (routePut m).2, ()), ()) := by
  rw [g_ref21_Put_eq, rrtright_is g, Option.bind_some]
  unfold routePut
  dsimp only
  by_cases h : routeB m = true
  · have r := routeR_iff.1 h
    have hs := rsput_is g.few.fewS (by have := g.few.subs; omega)
    rw [putS_r r.subs] at hs
    have hz := encS_small r.subs
    obtain ⟨c1, c2⟩ := r.cut
    obtain ⟨l1, l2, l3, l4, l5, l6⟩ := least_base r.ae r.plen
    rw [if_neg (by simp [h]), if_pos h, hs, Option.bind_some, rbytes21_is g r, u8w r.ae.1, u8w l4]
    rcases r.kinds with hk | ⟨hk, _, hq, hh, hi⟩
    · rw [if_pos (by simp [hk]), Option.bind_some]
      dsimp only
      rw [if_pos (maxB_of (by simp; omega)), if_pos (maxB_of (by simp; omega)), rtput_is, Option.bind_some, if_neg (show ¬ m.kind = 13 by omega)]
      unfold headF
      rw [if_neg (show ¬ m.kind = 13 by omega)]; rfl
    · rw [if_neg (by simp [hk]), rof2 hq, Option.bind_some]
      dsimp only
      rw [if_pos (maxB_of (by simp [be_length])), if_pos (maxB_of (by simp [be_length])), if_pos (maxB_of (by simp [be_length]; omega)), Option.bind_some]
      dsimp only
      rw [if_pos (maxB_of (by simp [be_length]; omega)), if_pos (maxB_of (by simp [be_length]; omega)), rtput_is, Option.bind_some, if_pos hk, u8w (n := m.hops) (by omega)]
      unfold headF
      rw [if_pos hk]
      simp
  · rw [Bool.not_eq_true] at h
    rw [h, ifnf, iff_]
end Go.VP
