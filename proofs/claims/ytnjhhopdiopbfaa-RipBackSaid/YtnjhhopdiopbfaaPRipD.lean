/- RIP: a datagram's head, and the routes of a datagram. -/
import Derived.Test.YtnjhhopdiopbfaaFQ0
import Derived.Test.YtnjhhopdiopbfaaFQ2
import Derived.Test.YtnjhhopdiopbfaaFQ3
import Derived.Test.YtnjhhopdiopbfaaPBase
import Derived.Test.YtnjhhopdiopbfaaPCur
import Derived.Test.YtnjhhopdiopbfaaPOct
import Derived.Test.YtnjhhopdiopbfaaPTlv
import Derived.Test.YtnjhhopdiopbfaaPSub
import Derived.Test.YtnjhhopdiopbfaaPMsg
import Derived.Test.YtnjhhopdiopbfaaPBits
import Derived.Test.YtnjhhopdiopbfaaPRipA
import Derived.Test.YtnjhhopdiopbfaaPRipB
import Derived.Test.YtnjhhopdiopbfaaPRipC
set_option linter.unusedVariables false
set_option linter.unusedSimpArgs false
set_option maxRecDepth 100000
namespace Go.VP
open Go Go.VI
def headR (b : Bs) : Int × Int :=
  if b.length < 4 then (b.length, 2) else if ¬ (bt b 0 = 1 ∨ bt b 0 = 2) then (0, 4) else if ¬ (bt b 1 = 1 ∨ bt b 1 = 2) then (1, 4)
  else if ¬ (bt b 2 = 0 ∧ bt b 3 = 0) then (2, 5) else if ((b.length : Int) - 4) % 20 ≠ 0 then (b.length, 2) else if b.length = 4 then (b.length, 8) else if 504 < b.length then (504, 8) else (0, 0)
theorem headR_ok {b : Bs} (h : (headR b).2 = 0) : 24 ≤ b.length ∧ b.length ≤ 504 ∧ (bt b 0 = 1 ∨ bt b 0 = 2) ∧ (bt b 1 = 1 ∨ bt b 1 = 2) ∧ bt b 2 = 0 ∧ bt b 3 = 0 ∧ ((b.length : Int) - 4) % 20 = 0 := by
  unfold headR at h
  split at h
  · simp at h
  split at h
  · simp at h
  split at h
  · simp at h
  split at h
  · simp at h
  split at h
  · simp at h
  split at h
  · simp at h
  split at h
  · simp at h
  · rename_i h1 h2 h3 h4 h5 h6 h7
    exact ⟨by omega, by omega, by omega, by omega, by omega, by omega, by omega⟩
theorem four_of {b : Bs} (h : ¬ b.length < 4) : ∃ w x y z r, b = w :: x :: y :: z :: r := by
  match b, h with
  | w :: x :: y :: z :: r, _ => exact ⟨w, x, y, z, r, rfl⟩
  | [], h => simp at h
  | [_], h => simp at h
  | [_, _], h => simp at h
  | [_, _, _], h => simp at h
theorem head_is {b : Bs} (hb : b.length ≤ 100000) : g_rip_head (b, ()) = some (((headR b).1, (headR b).2, ()), ()) := by
  rw [g_rip_head_eq]
  by_cases h4 : b.length < 4
  · rw [ifd (by omega)]; unfold headR; rw [if_pos h4]
  obtain ⟨w, x, y, z, r, rfl⟩ := four_of h4
  rw [ifn (by omega)]
  have e0 : bt (w :: x :: y :: z :: r) 0 = (w.toNat : Int) := rfl
  have e1 : bt (w :: x :: y :: z :: r) 1 = (x.toNat : Int) := rfl
  have e2 : bt (w :: x :: y :: z :: r) 2 = (y.toNat : Int) := rfl
  have e3 : bt (w :: x :: y :: z :: r) 3 = (z.toNat : Int) := rfl
  simp only [List.getElem?_cons_zero, List.getElem?_cons_succ, Option.bind_some]
  refine two_step (fun h => ?_) (fun ha => ?_)
  · unfold headR; rw [if_neg h4, if_pos (by rw [e0]; exact h)]
  refine two_step (fun h => ?_) (fun hb' => ?_)
  · unfold headR; rw [if_neg h4, if_neg (by rw [e0]; exact fun c => c ha), if_pos (by rw [e1]; exact h)]
  rw [if_pos (by omega), show (List.take 4 (w :: x :: y :: z :: r)).drop 2 = [y, z] from rfl, zero_is (by simp), Option.bind_some]
  have hz : zeroB [y, z] = true ↔ ((y.toNat : Int) = 0 ∧ (z.toNat : Int) = 0) := by
    simp only [zeroB, List.all_cons, List.all_nil, Bool.and_true, Bool.and_eq_true, beq_iff_eq]
    constructor
    · rintro ⟨rfl, rfl⟩; exact ⟨rfl, rfl⟩
    · rintro ⟨h1, h2⟩; exact ⟨u8_eq h1, u8_eq h2⟩
  refine nb_step (fun h => ?_) (fun hzz => ?_)
  · unfold headR; rw [if_neg h4, if_neg (by rw [e0]; exact fun c => c ha), if_neg (by rw [e1]; exact fun c => c hb'), if_pos (by rw [e2, e3, ← hz]; dsimp only at h; rw [h]; simp)]
  have hzz' := hz.1 hzz
  have hL : (4 : Int) ≤ ((w :: x :: y :: z :: r).length : Int) := by omega
  generalize hLL : (w :: x :: y :: z :: r).length = L at *
  rw [w64 (by omega) (by omega), Int.tmod_eq_emod_of_nonneg (by omega), Int.tdiv_eq_ediv_of_nonneg (by omega), w64 (by omega) (by omega)]
  have hd : headR (w :: x :: y :: z :: r) = (if ((L : Int) - 4) % 20 ≠ 0 then ((L : Int), 2) else if L = 4 then ((L : Int), 8) else if 504 < L then (504, 8) else (0, 0)) := by
    unfold headR; rw [hLL, if_neg (by omega), if_neg (by rw [e0]; exact fun c => c ha), if_neg (by rw [e1]; exact fun c => c hb'), if_neg (by rw [e2, e3]; exact fun c => c hzz')]
  rw [hd]
  refine dq_step (fun h => ?_) (fun h5 => ?_)
  · rw [if_pos (by omega)]
  rw [if_neg (show ¬ ((L : Int) - 4) % 20 ≠ 0 by omega)]
  refine bq_step (fun h => ?_) (fun h6 => ?_)
  · rw [if_pos (by omega)]
  rw [if_neg (show ¬ L = 4 by omega)]
  refine dq_step (fun h => ?_) (fun h7 => ?_)
  · rw [if_pos (by omega)]
  · rw [if_neg (by omega)]
theorem rhead_is {b : Bs} (hb : b.length ≤ 100000) : g_ref10_head (b, ()) = some (((headR b).1, (headR b).2, ()), ()) := by
  rw [g_ref10_head_eq]
  by_cases h4 : b.length < 4
  · rw [ifd (by omega)]; unfold headR; rw [if_pos h4]
  obtain ⟨w, x, y, z, r, rfl⟩ := four_of h4
  rw [ifn (by omega)]
  have e0 : bt (w :: x :: y :: z :: r) 0 = (w.toNat : Int) := rfl
  have e1 : bt (w :: x :: y :: z :: r) 1 = (x.toNat : Int) := rfl
  have e2 : bt (w :: x :: y :: z :: r) 2 = (y.toNat : Int) := rfl
  have e3 : bt (w :: x :: y :: z :: r) 3 = (z.toNat : Int) := rfl
  simp only [List.getElem?_cons_zero, List.getElem?_cons_succ, Option.bind_some]
  have bad0 : ¬ ((w.toNat : Int) = 1 ∨ (w.toNat : Int) = 2) → headR (w :: x :: y :: z :: r) = (0, 4) := fun h => by
    unfold headR; rw [if_neg h4, if_pos (by rw [e0]; exact h)]
  refine dq_step (fun h => ?_) (fun ha => ?_)
  · rw [bad0 (by omega)]
  refine dq_step (fun h => ?_) (fun ha2 => ?_)
  · rw [bad0 (by omega)]
  have bad1 : ¬ ((x.toNat : Int) = 1 ∨ (x.toNat : Int) = 2) → headR (w :: x :: y :: z :: r) = (1, 4) := fun h => by
    unfold headR; rw [if_neg h4, if_neg (by rw [e0]; omega), if_pos (by rw [e1]; exact h)]
  refine dq_step (fun h => ?_) (fun hb1 => ?_)
  · rw [bad1 (by omega)]
  refine dq_step (fun h => ?_) (fun hb2 => ?_)
  · rw [bad1 (by omega)]
  have bad2 : ¬ ((y.toNat : Int) = 0 ∧ (z.toNat : Int) = 0) → headR (w :: x :: y :: z :: r) = (2, 5) := fun h => by
    unfold headR; rw [if_neg h4, if_neg (by rw [e0]; omega), if_neg (by rw [e1]; omega), if_pos (by rw [e2, e3]; exact h)]
  refine ne_step (fun h => ?_) (fun hy => ?_)
  · rw [bad2 (by omega)]
  refine ne_step (fun h => ?_) (fun hz => ?_)
  · rw [bad2 (by omega)]
  generalize hLL : (w :: x :: y :: z :: r).length = L at *
  rw [w64 (by omega) (by omega), Int.tmod_eq_emod_of_nonneg (by omega)]
  have hd : headR (w :: x :: y :: z :: r) = (if ((L : Int) - 4) % 20 ≠ 0 then ((L : Int), 2) else if L = 4 then ((L : Int), 8) else if 504 < L then (504, 8) else (0, 0)) := by
    unfold headR; rw [hLL, if_neg (by omega), if_neg (by rw [e0]; omega), if_neg (by rw [e1]; omega), if_neg (by rw [e2, e3]; exact fun c => c ⟨hy, hz⟩)]
  rw [hd]
  refine ne_step (fun h => ?_) (fun h5 => ?_)
  · rw [if_pos (by omega)]
  rw [if_neg (show ¬ ((L : Int) - 4) % 20 ≠ 0 by omega)]
  refine bq_step (fun h => ?_) (fun h6 => ?_)
  · rw [if_pos (by omega)]
  rw [if_neg (show ¬ L = 4 by omega)]
  refine dq_step (fun h => ?_) (fun h7 => ?_)
  · rw [if_pos (by omega)]
  · rw [if_neg (by omega)]
/-- k entries from a place on. -/
def goR (f : Ent → Msg × Int) (b : Bs) : Nat → Nat → List Msg → List Msg × Int × Int
  | 0, _, acc => (acc, 0, 0)
  | k + 1, at_, acc => if (f (entF (cut_ b at_ 20))).2 ≠ 0 then ([], (at_ : Int), (f (entF (cut_ b at_ 20))).2) else goR f b k (at_ + 20) (acc ++ [(f (entF (cut_ b at_ 20))).1])
noncomputable def rt (cmd ver : Int) (says : Bs) (alone : Bool) (e : Ent) : Msg × Int := (routeM cmd ver says e, errR cmd ver says alone e)
theorem msgBo : bo_api_Msg ≤ 100000 := Nat.le_of_ble_eq_true (by kernel_rfl)
theorem parse_loop {n : Nat} {b : Bs} {cmd ver : Int} {says : Bs} {alone : Bool} (hb : b.length ≤ 100000) : ∀ (k m at_ : Nat) (acc : List Msg), at_ + 20 * k = b.length → k < m → acc.length + k ≤ 10000 →
    L_rip_Parse_0 n m b at_ acc cmd ver says alone = some (((goR (rt cmd ver says alone) b k at_ acc).1, (goR (rt cmd ver says alone) b k at_ acc).2.1, (goR (rt cmd ver says alone) b k at_ acc).2.2, ()), ()) := by
  intro k
  induction k with
  | zero =>
    intro m at_ acc h hm ha
    obtain ⟨m, rfl⟩ : ∃ k, m = k + 1 := ⟨m - 1, by omega⟩
    rw [L_rip_Parse_0_eq, ifn (by omega)]; rfl
  | succ k ih =>
    intro m at_ acc h hm ha
    obtain ⟨m, rfl⟩ : ∃ k, m = k + 1 := ⟨m - 1, by omega⟩
    have hl : (cut_ b at_ 20).length = 20 := cut_len (n := 20) (by omega)
    obtain ⟨m', er, hm'⟩ := route_is (cmd := cmd) (ver := ver) (says := says) (alone := alone) (entF_ok hl)
    rw [L_rip_Parse_0_eq, ifd (by omega), w64 (by omega) (by omega), if_pos (by omega)]
    rw [show (List.take ((at_ : Int) + 20).toNat b).drop ((at_ : Int)).toNat = cut_ b at_ 20 from rfl, entGet_is hl, Option.bind_some]
    dsimp only
    rw [er, Option.bind_some]
    dsimp only
    refine ne_step (fun he => ?_) (fun he => ?_)
    · rw [goR, if_pos (show (rt cmd ver says alone (entF (cut_ b at_ 20))).2 ≠ 0 from he)]; rfl
    · have := ih m (at_ + 20) (acc ++ [m']) (by omega) (by omega) (by simp; omega)
      rw [show ((at_ + 20 : Nat) : Int) = (at_ : Int) + 20 by omega] at this
      have hbo := msgBo
      rw [if_pos (roomB_of (by rw [show (acc.length + [m'].length) = acc.length + 1 from rfl]; exact Nat.le_trans (Nat.mul_le_mul (show acc.length + 1 ≤ 10000 by omega) hbo) (by decide))), this, goR, if_neg (show ¬ (rt cmd ver says alone (entF (cut_ b at_ 20))).2 ≠ 0 from fun c => c he), hm' he]; rfl
theorem rparse_loop {n : Nat} {b : Bs} {cmd ver : Int} {says : Bs} {alone : Bool} {st : Int} (hb : b.length ≤ 100000) (h2 : 2 ≤ b.length) (hs : 0 ≤ st ∧ st ≤ 100000) (hc : cmd = bt b 0) (hv : ver = bt b 1) (hal : alone = (((b.length : Int) - st) == 20)) : ∀ (k m at_ : Nat) (acc : List Msg), at_ + 20 * k = b.length → k < m → acc.length + k ≤ 10000 →
    L_ref10_Parse_0 n m b st says acc at_ = some (((goR (rt cmd ver says alone) b k at_ acc).1, (goR (rt cmd ver says alone) b k at_ acc).2.1, (goR (rt cmd ver says alone) b k at_ acc).2.2, ()), ()) := by
  intro k
  induction k with
  | zero =>
    intro m at_ acc h hm ha
    obtain ⟨m, rfl⟩ : ∃ k, m = k + 1 := ⟨m - 1, by omega⟩
    rw [L_ref10_Parse_0_eq, ifn (by omega)]; rfl
  | succ k ih =>
    intro m at_ acc h hm ha
    obtain ⟨m, rfl⟩ : ∃ k, m = k + 1 := ⟨m - 1, by omega⟩
    have hl : (cut_ b at_ 20).length = 20 := cut_len (n := 20) (by omega)
    obtain ⟨m', er, hm'⟩ := rroute_is (cmd := cmd) (ver := ver) (says := says) (alone := alone) (entF_ok hl)
    rw [L_ref10_Parse_0_eq, ifd (by omega), w64 (x := (at_ : Int) + 20) (by omega) (by omega), if_pos (by omega)]
    rw [show (List.take ((at_ : Int) + 20).toNat b).drop ((at_ : Int)).toNat = cut_ b at_ 20 from rfl, rentGet_is hl, Option.bind_some, get_bt (i := 0) (by omega), Option.bind_some, get_bt (i := 1) (by omega), Option.bind_some]
    rw [w64n, w64n, w64 (x := (b.length : Int) - st) (by omega) (by omega), ← hal]
    have e0 : (((b[0]?.getD 0).toNat : Nat) : Int) = cmd := hc.symm
    have e1 : (((b[1]?.getD 0).toNat : Nat) : Int) = ver := hv.symm
    rw [e0, e1]
    dsimp only
    rw [er, Option.bind_some]
    dsimp only
    refine ne_step (fun he => ?_) (fun he => ?_)
    · rw [goR, if_pos (show (rt cmd ver says alone (entF (cut_ b at_ 20))).2 ≠ 0 from he)]; rfl
    · have := ih m (at_ + 20) (acc ++ [m']) (by omega) (by omega) (by simp; omega)
      rw [show ((at_ + 20 : Nat) : Int) = (at_ : Int) + 20 by omega] at this
      have hbo := msgBo
      rw [if_pos (roomB_of (by rw [show (acc.length + [m'].length) = acc.length + 1 from rfl]; exact Nat.le_trans (Nat.mul_le_mul (show acc.length + 1 ≤ 10000 by omega) hbo) (by decide))), this, goR, if_neg (show ¬ (rt cmd ver says alone (entF (cut_ b at_ 20))).2 ≠ 0 from fun c => c he), hm' he]; rfl
def authB (b : Bs) : Bool := b.take 2 == [255, 255]
theorem auth_is {s : Bs} (h : s.length = 20) : g_auth_Get (s, ()) = some (((if authB s = true then s.drop 2 else []), authB s, ()), ()) := by
  rw [g_auth_Get_eq, g_strings_CutPrefix_eq, g_internal_stringslite_CutPrefix_eq, g_internal_stringslite_HasPrefix_eq]
  rw [ifd (by simp; omega), if_pos (by simp; omega), Option.bind_some]
  rw [show (([255, 255] : Bs).length : Int).toNat = 2 from rfl]
  cases ha : authB s with
  | false =>
    have : (s.take 2 == [255, 255]) = false := ha
    rw [this]; rfl
  | true =>
    have : (s.take 2 == [255, 255]) = true := ha
    rw [this]
    dsimp only
    rw [ifnt, if_pos (by simp; omega), Option.bind_some, Option.bind_some]
    dsimp only
    rw [ifnt, if_neg (by simp; omega), if_pos rfl]
theorem ris_is {s : Bs} (h : s.length = 20) : g_ref09_Is (s, ()) = some ((authB s, ()), ()) := by
  match s, h with
  | x :: y :: r, h =>
    rw [g_ref09_Is_eq, if_pos (by simp at h ⊢; omega)]
    simp only [List.getElem?_cons_zero, List.getElem?_cons_succ, Option.bind_some]
    have e : authB (x :: y :: r) = ((x == 255) && (y == 255)) := by simp [authB]
    have k : ∀ v : UInt8, (((v.toNat : Int) == 255) : Bool) = (v == 255) := fun v => by
      rw [Bool.eq_iff_iff, beq_iff_eq, beq_iff_eq]
      exact ⟨fun h => u8_eq h, fun h => by rw [h]; rfl⟩
    rw [k, k, e]
    cases (x == 255) <;> rfl
theorem rauth_is {s : Bs} (h : s.length = 20) (ha : authB s = true) : g_ref09_Get (s, ()) = some ((s.drop 2, true, ()), ()) := by
  rw [g_ref09_Get_eq, ris_is h, Option.bind_some, ha]
  dsimp only
  rw [ifnt, if_pos (by omega)]
/-- The routes of bytes. -/
noncomputable def parseR (b : Bs) : List Msg × Int × Int :=
  if (headR b).2 ≠ 0 then ([], (headR b).1, (headR b).2)
  else if bt b 1 = 2 ∧ authB (cut_ b 4 20) = true then
    (if b.length = 24 then ([], 24, 8) else goR (rt (bt b 0) (bt b 1) ((cut_ b 4 20).drop 2) (decide (b.length = 44))) b ((b.length - 24) / 20) 24 [])
  else goR (rt (bt b 0) (bt b 1) [] (decide (b.length = 24))) b ((b.length - 4) / 20) 4 []
theorem beq_dec (a c : Nat) : (((a : Int) == (c : Int)) : Bool) = decide (a = c) := by
  rw [Bool.eq_iff_iff, beq_iff_eq, decide_eq_true_eq]; omega
theorem parse_is {b : Bs} (hb : b.length ≤ 100000) : g_rip_Parse (b, ()) = some (((parseR b).1, (parseR b).2.1, (parseR b).2.2, ()), ()) := by
  show h_rip_Parse fuel (b, ()) = _
  rw [h_rip_Parse_eq, head_is hb, Option.bind_some]
  dsimp only
  refine ne_step (fun he => ?_) (fun he => ?_)
  · unfold parseR; rw [if_pos he]
  obtain ⟨h1, h2, h3, h4, _, _, h5⟩ := headR_ok he
  have hl : (cut_ b 4 20).length = 20 := cut_len (p := 4) (n := 20) (by omega)
  rw [get_bt (i := 0) (by omega), Option.bind_some, get_bt (i := 1) (by omega), Option.bind_some, if_pos (by omega), show (List.take 24 b).drop 4 = cut_ b 4 20 from rfl, auth_is hl, Option.bind_some, w64n, w64n]
  have e0 : bt b 0 = (((b[0]?.getD 0).toNat : Nat) : Int) := rfl
  have e1 : bt b 1 = (((b[1]?.getD 0).toNat : Nat) : Int) := rfl
  rw [← e0, ← e1]
  have L4 := parse_loop (n := fuel) (cmd := bt b 0) (ver := bt b 1) (says := []) (alone := decide (b.length = 24)) hb ((b.length - 4) / 20) fuel 4 [] (by omega) (fuel_ge (by omega)) (by simp; omega)
  have no : ¬ (bt b 1 = 2 ∧ authB (cut_ b 4 20) = true) → (if ((4 : Int) == (b.length : Int)) = true then (some (([], 4, 8, ()), ()) : Option ((List Msg × Int × Int × Unit) × Unit)) else (L_rip_Parse_0 fuel fuel b 4 [] (bt b 0) (bt b 1) ([] : List UInt8) ((b.length : Int) == 24))) = some (((parseR b).1, (parseR b).2.1, (parseR b).2.2, ()), ()) := fun hn => by
    rw [if_neg (by simp; omega), show (((b.length : Int) == 24) : Bool) = decide (b.length = 24) from beq_dec _ 24, show (4 : Int) = ((4 : Nat) : Int) from rfl, L4]
    unfold parseR; rw [if_neg (fun c => c he), if_neg hn]
  dsimp only
  cases ha : authB (cut_ b 4 20) with
  | false => rw [iff_]; exact no (by rw [ha]; simp)
  | true =>
    rw [ift]
    refine bq_step (fun hv => ?_) (fun hv => no (fun c => hv c.1))
    have hp : parseR b = (if b.length = 24 then ([], 24, 8) else goR (rt (bt b 0) (bt b 1) ((cut_ b 4 20).drop 2) (decide (b.length = 44))) b ((b.length - 24) / 20) 24 []) := by
      unfold parseR; rw [if_neg (fun c => c he), if_pos ⟨hv, ha⟩]
    rw [hp]
    refine bq_step (fun hq => ?_) (fun hq => ?_)
    · rw [if_pos (by omega)]
    · have L24 := parse_loop (n := fuel) (cmd := bt b 0) (ver := bt b 1) (says := (cut_ b 4 20).drop 2) (alone := decide (b.length = 44)) hb ((b.length - 24) / 20) fuel 24 [] (by omega) (fuel_ge (by omega)) (by simp; omega)
      rw [ift, if_neg (show ¬ b.length = 24 by omega), show (((b.length : Int) == 44) : Bool) = decide (b.length = 44) from beq_dec _ 44, show (24 : Int) = ((24 : Nat) : Int) from rfl, L24]
theorem rparse_is {b : Bs} (hb : b.length ≤ 100000) : g_ref10_Parse (b, ()) = some (((parseR b).1, (parseR b).2.1, (parseR b).2.2, ()), ()) := by
  show h_ref10_Parse fuel (b, ()) = _
  rw [h_ref10_Parse_eq, rhead_is hb, Option.bind_some]
  dsimp only
  refine ne_step (fun he => ?_) (fun he => ?_)
  · unfold parseR; rw [if_pos he]
  obtain ⟨h1, h2, h3, h4, _, _, h5⟩ := headR_ok he
  have hl : (cut_ b 4 20).length = 20 := cut_len (p := 4) (n := 20) (by omega)
  rw [get_bt (i := 1) (by omega), Option.bind_some]
  have e1 : bt b 1 = (((b[1]?.getD 0).toNat : Nat) : Int) := rfl
  rw [← e1]
  have L4 := rparse_loop (n := fuel) (cmd := bt b 0) (ver := bt b 1) (says := []) (alone := decide (b.length = 24)) (st := 4) hb (by omega) (by omega) rfl rfl (by rw [Bool.eq_iff_iff, beq_iff_eq, decide_eq_true_eq]; omega) ((b.length - 4) / 20) fuel 4 [] (by omega) (fuel_ge (by omega)) (by simp; omega)
  have no : ¬ (bt b 1 = 2 ∧ authB (cut_ b 4 20) = true) → (L_ref10_Parse_0 fuel fuel b 4 ([] : List UInt8) [] 4) = some (((parseR b).1, (parseR b).2.1, (parseR b).2.2, ()), ()) := fun hn => by
    have := L4
    rw [show (((4 : Nat) : Int)) = 4 from rfl] at this
    rw [this]
    unfold parseR; rw [if_neg (fun c => c he), if_neg hn]
  refine bq_step (fun hv => ?_) (fun hv => no (fun c => hv c.1))
  rw [if_pos (by omega), show (List.take 24 b).drop 4 = cut_ b 4 20 from rfl, ris_is hl, Option.bind_some]
  dsimp only
  cases ha : authB (cut_ b 4 20) with
  | false => rw [iff_]; exact no (by rw [ha]; simp)
  | true =>
    rw [ift, if_pos (by omega), rauth_is hl ha, Option.bind_some]
    have hp : parseR b = (if b.length = 24 then ([], 24, 8) else goR (rt (bt b 0) (bt b 1) ((cut_ b 4 20).drop 2) (decide (b.length = 44))) b ((b.length - 24) / 20) 24 []) := by
      unfold parseR; rw [if_neg (fun c => c he), if_pos ⟨hv, ha⟩]
    rw [hp]
    refine bq_step (fun hq => ?_) (fun hq => ?_)
    · rw [if_pos (by omega)]
    · have L24 := rparse_loop (n := fuel) (cmd := bt b 0) (ver := bt b 1) (says := (cut_ b 4 20).drop 2) (alone := decide (b.length = 44)) (st := 24) hb (by omega) (by omega) rfl rfl (by rw [Bool.eq_iff_iff, beq_iff_eq, decide_eq_true_eq]; omega) ((b.length - 24) / 20) fuel 24 [] (by omega) (fuel_ge (by omega)) (by simp; omega)
      rw [show (((24 : Nat) : Int)) = 24 from rfl] at L24
      dsimp only
      rw [if_neg (show ¬ b.length = 24 by omega), L24]
end Go.VP
