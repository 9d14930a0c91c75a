import Derived.Test.YtbjjekbhopgonaaGreatG4FQ0
import Derived.Test.YtbjjekbhopgonaaGreatG4FQ2
import Derived.Test.YtbjjekbhopgonaaGreatG4FQ8
import Derived.Test.YtbjjekbhopgonaaGreatG4M0
import Derived.Test.YtbjjekbhopgonaaGreatG4M1
import Derived.Test.YtbjjekbhopgonaaGreatG4FQ11
import Derived.Test.YtbjjekbhopgonaaGreatG4FH
import Derived.Test.YtbjjekbhopgonaaGreatG4FQ4
import Derived.Test.YtbjjekbhopgonaaGreatG4FQ15
import Derived.Test.YtbjjekbhopgonaaGreatG4FGood
import Derived.Test.YtbjjekbhopgonaaGreatG4FQ7
import Derived.Test.YtbjjekbhopgonaaGreatG4FQ1
import Derived.Test.YtbjjekbhopgonaaGreatG4FQ3
import Derived.Test.YtbjjekbhopgonaaGreatG4FQ9
set_option linter.unusedVariables false
set_option linter.unusedSimpArgs false
set_option maxRecDepth 100000
namespace Go.VP
open Go Go.VI
def headR (b : Bs) : Int × Int :=
  if b.length < 4 then (b.length, 2) else if ¬ (bt b 0 = 1 ∨ bt b 0 = 2) then (0, 4) else if ¬ (bt b 1 = 1 ∨ bt b 1 = 2) then (1, 4)
  else if ¬ (bt b 2 = 0 ∧ bt b 3 = 0) then (2, 5) else if ((b.length : Int) - 4) % 20 ≠ 0 then (b.length, 2) else if b.length = 4 then (b.length, 8) else if 504 < b.length then (504, 8) else (0, 0)
theorem headR_ok {b : Bs} (h : (headR b).2 = 0) : 24 ≤ b.length ∧ b.length ≤ 504 ∧ (bt b 0 = 1 ∨ bt b 0 = 2) ∧ (bt b 1 = 1 ∨ bt b 1 = 2) ∧ bt b 2 = 0 ∧ bt b 3 = 0 ∧ ((b.length : Int) - 4) % 20 = 0 := by
  unfold headR at h
  split at h
  · simp at h
  split at h
  · simp at h
  split at h
  · simp at h
  split at h
  · simp at h
  split at h
  · simp at h
  split at h
  · simp at h
  split at h
  · simp at h
  · rename_i h1 h2 h3 h4 h5 h6 h7
    exact ⟨by omega, by omega, by omega, by omega, by omega, by omega, by omega⟩
theorem four_of {b : Bs} (h : ¬ b.length < 4) : ∃ w x y z r, b = w :: x :: y :: z :: r := by
  match b, h with
  | w :: x :: y :: z :: r, _ => exact ⟨w, x, y, z, r, rfl⟩
  | [], h => simp at h
  | [_], h => simp at h
  | [_, _], h => simp at h
  | [_, _, _], h => simp at h
theorem head_is {b : Bs} (hb : b.length ≤ 100000) : g_rip_head (b, ()) = some (((headR b).1, (headR b).2, ()), ()) := by
  rw [g_rip_head_eq]
  by_cases h4 : b.length < 4
  · rw [ifd (by omega)]; unfold headR; rw [if_pos h4]
  obtain ⟨w, x, y, z, r, rfl⟩ := four_of h4
  rw [ifn (by omega)]
  have e0 : bt (w :: x :: y :: z :: r) 0 = (w.toNat : Int) := rfl
  have e1 : bt (w :: x :: y :: z :: r) 1 = (x.toNat : Int) := rfl
  have e2 : bt (w :: x :: y :: z :: r) 2 = (y.toNat : Int) := rfl
  have e3 : bt (w :: x :: y :: z :: r) 3 = (z.toNat : Int) := rfl
  simp only [List.getElem?_cons_zero, List.getElem?_cons_succ, Option.bind_some]
  refine two_step (fun h => ?_) (fun ha => ?_)
  · unfold headR; rw [if_neg h4, if_pos (by rw [e0]; exact h)]
  refine two_step (fun h => ?_) (fun hb' => ?_)
  · unfold headR; rw [if_neg h4, if_neg (by rw [e0]; exact fun c => c ha), if_pos (by rw [e1]; exact h)]
  rw [if_pos (by omega), show (List.take 4 (w :: x :: y :: z :: r)).drop 2 = [y, z] from rfl, zero_is (by simp), Option.bind_some]
  have hz : zeroB [y, z] = true ↔ ((y.toNat : Int) = 0 ∧ (z.toNat : Int) = 0) := by
    simp only [zeroB, List.all_cons, List.all_nil, Bool.and_true, Bool.and_eq_true, beq_iff_eq]
    constructor
    · rintro ⟨rfl, rfl⟩; exact ⟨rfl, rfl⟩
    · rintro ⟨h1, h2⟩; exact ⟨u8_eq h1, u8_eq h2⟩
  refine nb_step (fun h => ?_) (fun hzz => ?_)
  · unfold headR; rw [if_neg h4, if_neg (by rw [e0]; exact fun c => c ha), if_neg (by rw [e1]; exact fun c => c hb'), if_pos (by rw [e2, e3, ← hz]; dsimp only at h; rw [h]; simp)]
  have hzz' := hz.1 hzz
  have hL : (4 : Int) ≤ ((w :: x :: y :: z :: r).length : Int) := by omega
  generalize hLL : (w :: x :: y :: z :: r).length = L at *
  rw [w64 (by omega) (by omega), Int.tmod_eq_emod_of_nonneg (by omega), Int.tdiv_eq_ediv_of_nonneg (by omega), w64 (by omega) (by omega)]
  have hd : headR (w :: x :: y :: z :: r) = (if ((L : Int) - 4) % 20 ≠ 0 then ((L : Int), 2) else if L = 4 then ((L : Int), 8) else if 504 < L then (504, 8) else (0, 0)) := by
    unfold headR; rw [hLL, if_neg (by omega), if_neg (by rw [e0]; exact fun c => c ha), if_neg (by rw [e1]; exact fun c => c hb'), if_neg (by rw [e2, e3]; exact fun c => c hzz')]
  rw [hd]
  refine dq_step (fun h => ?_) (fun h5 => ?_)
  · rw [if_pos (by omega)]
  rw [if_neg (show ¬ ((L : Int) - 4) % 20 ≠ 0 by omega)]
  refine bq_step (fun h => ?_) (fun h6 => ?_)
  · rw [if_pos (by omega)]
  rw [if_neg (show ¬ L = 4 by omega)]
  refine dq_step (fun h => ?_) (fun h7 => ?_)
  · rw [if_pos (by omega)]
  · rw [if_neg (by omega)]
theorem rhead_is {b : Bs} (hb : b.length ≤ 100000) : g_ref10_head (b, ()) = some (((headR b).1, (headR b).2, ()), ()) := by
  rw [g_ref10_head_eq]
  by_cases h4 : b.length < 4
  · rw [ifd (by omega)]; unfold headR; rw [if_pos h4]
  obtain ⟨w, x, y, z, r, rfl⟩ := four_of h4
  rw [ifn (by omega)]
  have e0 : bt (w :: x :: y :: z :: r) 0 = (w.toNat : Int) := rfl
  have e1 : bt (w :: x :: y :: z :: r) 1 = (x.toNat : Int) := rfl
  have e2 : bt (w :: x :: y :: z :: r) 2 = (y.toNat : Int) := rfl
  have e3 : bt (w :: x :: y :: z :: r) 3 = (z.toNat : Int) := rfl
  simp only [List.getElem?_cons_zero, List.getElem?_cons_succ, Option.bind_some]
  have bad0 : ¬ ((w.toNat : Int) = 1 ∨ (w.toNat : Int) = 2) → headR (w :: x :: y :: z :: r) = (0, 4) := fun h => by
    unfold headR; rw [if_neg h4, if_pos (by rw [e0]; exact h)]
  refine dq_step (fun h => ?_) (fun ha => ?_)
  · rw [bad0 (by omega)]
  refine dq_step (fun h => ?_) (fun ha2 => ?_)
  · rw [bad0 (by omega)]
  have bad1 : ¬ ((x.toNat : Int) = 1 ∨ (x.toNat : Int) = 2) → headR (w :: x :: y :: z :: r) = (1, 4) := fun h => by
    unfold headR; rw [if_neg h4, if_neg (by rw [e0]; omega), if_pos (by rw [e1]; exact h)]
  refine dq_step (fun h => ?_) (fun hb1 => ?_)
  · rw [bad1 (by omega)]
  refine dq_step (fun h => ?_) (fun hb2 => ?_)
  · rw [bad1 (by omega)]
  have bad2 : ¬ ((y.toNat : Int) = 0 ∧ (z.toNat : Int) = 0) → headR (w :: x :: y :: z :: r) = (2, 5) := fun h => by
    unfold headR; rw [if_neg h4, if_neg (by rw [e0]; omega), if_neg (by rw [e1]; omega), if_pos (by rw [e2, e3]; exact h)]
  refine ne_step (fun h => ?_) (fun hy => ?_)
  · rw [bad2 (by omega)]
  refine ne_step (fun h => ?_) (fun hz => ?_)
  · rw [bad2 (by omega)]
  generalize hLL : (w :: x :: y :: z :: r).length = L at *
  rw [w64 (by omega) (by omega), Int.tmod_eq_emod_of_nonneg (by omega)]
  have hd : headR (w :: x :: y :: z :: r) = (if ((L : Int) - 4) % 20 ≠ 0 then ((L : Int), 2) else if L = 4 then ((L : Int), 8) else if 504 < L then (504, 8) else (0, 0)) := by
    unfold headR; rw [hLL, if_neg (by omega), if_neg (by rw [e0]; omega), if_neg (by rw [e1]; omega), if_neg (by rw [e2, e3]; exact fun c => c ⟨hy, hz⟩)]
  rw [hd]
  refine ne_step (fun h => ?_) (fun h5 => ?_)
  · rw [if_pos (by omega)]
  rw [if_neg (show ¬ ((L : Int) - 4) % 20 ≠ 0 by omega)]
  refine bq_step (fun h => ?_) (fun h6 => ?_)
  · rw [if_pos (by omega)]
  rw [if_neg (show ¬ L = 4 by omega)]
  refine dq_step (fun h => ?_) (fun h7 => ?_)
  · rw [if_pos (by omega)]
  · rw [if_neg (by omega)]
def goR (f : Ent → Msg × Int) (b : Bs) : Nat → Nat → List Msg → List Msg × Int × Int
  | 0, _, acc => (acc, 0, 0)
  | k + 1, at_, acc => if (f (entF (cut_ b at_ 20))).2 ≠ 0 then ([], (at_ : Int), (f (entF (cut_ b at_ 20))).2) else goR f b k (at_ + 20) (acc ++ [(f (entF (cut_ b at_ 20))).1])
noncomputable def rt (cmd ver : Int) (says : Bs) (alone : Bool) (e : Ent) : Msg × Int := (routeM cmd ver says e, errR cmd ver says alone e)
theorem msgBo : bo_api_Msg ≤ 100000 := Nat.le_of_ble_eq_true (by kernel_rfl)
theorem parse_loop {n : Nat} {b : Bs} {cmd ver : Int} {says : Bs} {alone : Bool} (hb : b.length ≤ 100000) : ∀ (k m at_ : Nat) (acc : List Msg), at_ + 20 * k = b.length → k < m → acc.length + k ≤ 10000 →
    L_rip_Parse_0 n m b at_ acc cmd ver says alone = some (((goR (rt cmd ver says alone) b k at_ acc).1, (goR (rt cmd ver says alone) b k at_ acc).2.1, (goR (rt cmd ver says alone) b k at_ acc).2.2, ()), ()) := by
  intro k
  induction k with
  | zero =>
    intro m at_ acc h hm ha
    obtain ⟨m, rfl⟩ : ∃ k, m = k + 1 := ⟨m - 1, by omega⟩
    rw [L_rip_Parse_0_eq, ifn (by omega)]; rfl
  | succ k ih =>
    intro m at_ acc h hm ha
    obtain ⟨m, rfl⟩ : ∃ k, m = k + 1 := ⟨m - 1, by omega⟩
    have hl : (cut_ b at_ 20).length = 20 := cut_len (n := 20) (by omega)
    obtain ⟨m', er, hm'⟩ := route_is (cmd := cmd) (ver := ver) (says := says) (alone := alone) (entF_ok hl)
    rw [L_rip_Parse_0_eq, ifd (by omega), w64 (by omega) (by omega), if_pos (by omega)]
    rw [show (List.take ((at_ : Int) + 20).toNat b).drop ((at_ : Int)).toNat = cut_ b at_ 20 from rfl, entGet_is hl, Option.bind_some]
    dsimp only
    rw [er, Option.bind_some]
    dsimp only
    refine ne_step (fun he => ?_) (fun he => ?_)
    · rw [goR, if_pos (show (rt cmd ver says alone (entF (cut_ b at_ 20))).2 ≠ 0 from he)]; rfl
    · have := ih m (at_ + 20) (acc ++ [m']) (by omega) (by omega) (by simp; omega)
      rw [show ((at_ + 20 : Nat) : Int) = (at_ : Int) + 20 by omega] at this
      have hbo := msgBo
      rw [if_pos (roomB_of (by rw [show (acc.length + [m'].length) = acc.length + 1 from rfl]; exact Nat.le_trans (Nat.mul_le_mul (show acc.length + 1 ≤ 10000 by omega) hbo) (by decide))), this, goR, if_neg (show ¬ (rt cmd ver says alone (entF (cut_ b at_ 20))).2 ≠ 0 from fun c => c he), hm' he]; rfl
theorem rparse_loop {n : Nat} {b : Bs} {cmd ver : Int} {says : Bs} {alone : Bool} {st : Int} (hb : b.length ≤ 100000) (h2 : 2 ≤ b.length) (hs : 0 ≤ st ∧ st ≤ 100000) (hc : cmd = bt b 0) (hv : ver = bt b 1) (hal : alone = (((b.length : Int) - st) == 20)) : ∀ (k m at_ : Nat) (acc : List Msg), at_ + 20 * k = b.length → k < m → acc.length + k ≤ 10000 →
    L_ref10_Parse_0 n m b st says acc at_ = some (((goR (rt cmd ver says alone) b k at_ acc).1, (goR (rt cmd ver says alone) b k at_ acc).2.1, (goR (rt cmd ver says alone) b k at_ acc).2.2, ()), ()) := by
  intro k
  induction k with
  | zero =>
    intro m at_ acc h hm ha
    obtain ⟨m, rfl⟩ : ∃ k, m = k + 1 := ⟨m - 1, by omega⟩
    rw [L_ref10_Parse_0_eq, ifn (by omega)]; rfl
  | succ k ih =>
    intro m at_ acc h hm ha
    obtain ⟨m, rfl⟩ : ∃ k, m = k + 1 := ⟨m - 1, by omega⟩
    have hl : (cut_ b at_ 20).length = 20 := cut_len (n := 20) (by omega)
    obtain ⟨m', er, hm'⟩ := rroute_is (cmd := cmd) (ver := ver) (says := says) (alone := alone) (entF_ok hl)
    rw [L_ref10_Parse_0_eq, ifd (by omega), w64 (x := (at_ : Int) + 20) (by omega) (by omega), if_pos (by omega)]
    rw [show (List.take ((at_ : Int) + 20).toNat b).drop ((at_ : Int)).toNat = cut_ b at_ 20 from rfl, rentGet_is hl, Option.bind_some, get_bt (i := 0) (by omega), Option.bind_some, get_bt (i := 1) (by omega), Option.bind_some]
    rw [w64n, w64n, w64 (x := (b.length : Int) - st) (by omega) (by omega), ← hal]
    have e0 : (((b[0]?.getD 0).toNat : Nat) : Int) = cmd := hc.symm
    have e1 : (((b[1]?.getD 0).toNat : Nat) : Int) = ver := hv.symm
    rw [e0, e1]
    dsimp only
    rw [er, Option.bind_some]
    dsimp only
    refine ne_step (fun he => ?_) (fun he => ?_)
    · rw [goR, if_pos (show (rt cmd ver says alone (entF (cut_ b at_ 20))).2 ≠ 0 from he)]; rfl
    · have := ih m (at_ + 20) (acc ++ [m']) (by omega) (by omega) (by simp; omega)
      rw [show ((at_ + 20 : Nat) : Int) = (at_ : Int) + 20 by omega] at this
      have hbo := msgBo
      rw [if_pos (roomB_of (by rw [show (acc.length + [m'].length) = acc.length + 1 from rfl]; exact Nat.le_trans (Nat.mul_le_mul (show acc.length + 1 ≤ 10000 by omega) hbo) (by decide))), this, goR, if_neg (show ¬ (rt cmd ver says alone (entF (cut_ b at_ 20))).2 ≠ 0 from fun c => c he), hm' he]; rfl
def authB (b : Bs) : Bool := b.take 2 == [255, 255]
theorem auth_is {s : Bs} (h : s.length = 20) : g_auth_Get (s, ()) = some (((if authB s = true then s.drop 2 else []), authB s, ()), ()) := by
  rw [g_auth_Get_eq, g_strings_CutPrefix_eq, g_internal_stringslite_CutPrefix_eq, g_internal_stringslite_HasPrefix_eq]
  rw [ifd (by simp; omega), if_pos (by simp; omega), Option.bind_some]
  rw [show (([255, 255] : Bs).length : Int).toNat = 2 from rfl]
  cases ha : authB s with
  | false =>
    have : (s.take 2 == [255, 255]) = false := ha
    rw [this]; rfl
  | true =>
    have : (s.take 2 == [255, 255]) = true := ha
    rw [this]
    dsimp only
    rw [ifnt, if_pos (by simp; omega), Option.bind_some, Option.bind_some]
    dsimp only
    rw [ifnt, if_neg (by simp; omega), if_pos rfl]
theorem ris_is {s : Bs} (h : s.length = 20) : g_ref09_Is (s, ()) = some ((authB s, ()), ()) := by
  match s, h with
  | x :: y :: r, h =>
    rw [g_ref09_Is_eq, if_pos (by simp at h ⊢; omega)]
    simp only [List.getElem?_cons_zero, List.getElem?_cons_succ, Option.bind_some]
    have e : authB (x :: y :: r) = ((x == 255) && (y == 255)) := by simp [authB]
    have k : ∀ v : UInt8, (((v.toNat : Int) == 255) : Bool) = (v == 255) := fun v => by
      rw [Bool.eq_iff_iff, beq_iff_eq, beq_iff_eq]
      exact ⟨fun h => u8_eq h, fun h => by rw [h]; rfl⟩
    rw [k, k, e]
    cases (x == 255) <;> rfl
theorem rauth_is {s : Bs} (h : s.length = 20) (ha : authB s = true) : g_ref09_Get (s, ()) = some ((s.drop 2, true, ()), ()) := by
  rw [g_ref09_Get_eq, ris_is h, Option.bind_some, ha]
  dsimp only
  rw [ifnt, if_pos (by omega)]
noncomputable def parseR (b : Bs) : List Msg × Int × Int :=
  if (headR b).2 ≠ 0 then ([], (headR b).1, (headR b).2)
  else if bt b 1 = 2 ∧ authB (cut_ b 4 20) = true then
    (if b.length = 24 then ([], 24, 8) else goR (rt (bt b 0) (bt b 1) ((cut_ b 4 20).drop 2) (decide (b.length = 44))) b ((b.length - 24) / 20) 24 [])
  else goR (rt (bt b 0) (bt b 1) [] (decide (b.length = 24))) b ((b.length - 4) / 20) 4 []
theorem beq_dec (a c : Nat) : (((a : Int) == (c : Int)) : Bool) = decide (a = c) := by
  rw [Bool.eq_iff_iff, beq_iff_eq, decide_eq_true_eq]; omega
theorem parse_is {b : Bs} (hb : b.length ≤ 100000) : g_rip_Parse (b, ()) = some (((parseR b).1, (parseR b).2.1, (parseR b).2.2, ()), ()) := by
  show h_rip_Parse fuel (b, ()) = _
  rw [h_rip_Parse_eq, head_is hb, Option.bind_some]
  dsimp only
  refine ne_step (fun he => ?_) (fun he => ?_)
  · unfold parseR; rw [if_pos he]
  obtain ⟨h1, h2, h3, h4, _, _, h5⟩ := headR_ok he
  have hl : (cut_ b 4 20).length = 20 := cut_len (p := 4) (n := 20) (by omega)
  rw [get_bt (i := 0) (by omega), Option.bind_some, get_bt (i := 1) (by omega), Option.bind_some, if_pos (by omega), show (List.take 24 b).drop 4 = cut_ b 4 20 from rfl, auth_is hl, Option.bind_some, w64n, w64n]
  have e0 : bt b 0 = (((b[0]?.getD 0).toNat : Nat) : Int) := rfl
  have e1 : bt b 1 = (((b[1]?.getD 0).toNat : Nat) : Int) := rfl
  rw [← e0, ← e1]
  have L4 := parse_loop (n := fuel) (cmd := bt b 0) (ver := bt b 1) (says := []) (alone := decide (b.length = 24)) hb ((b.length - 4) / 20) fuel 4 [] (by omega) (fuel_ge (by omega)) (by simp; omega)
  have no : ¬ (bt b 1 = 2 ∧ authB (cut_ b 4 20) = true) → (if ((4 : Int) == (b.length : Int)) = true then (some (([], 4, 8, ()), ()) : Option ((List Msg × Int × Int × Unit) × Unit)) else (L_rip_Parse_0 fuel fuel b 4 [] (bt b 0) (bt b 1) ([] : List UInt8) ((b.length : Int) == 24))) = some (((parseR b).1, (parseR b).2.1, (parseR b).2.2, ()), ()) := fun hn => by
    rw [if_neg (by simp; omega), show (((b.length : Int) == 24) : Bool) = decide (b.length = 24) from beq_dec _ 24, show (4 : Int) = ((4 : Nat) : Int) from rfl, L4]
    unfold parseR; rw [if_neg (fun c => c he), if_neg hn]
  dsimp only
  cases ha : authB (cut_ b 4 20) with
  | false => rw [iff_]; exact no (by rw [ha]; simp)
  | true =>
    rw [ift]
    refine bq_step (fun hv => ?_) (fun hv => no (fun c => hv c.1))
    have hp : parseR b = (if b.length = 24 then ([], 24, 8) else goR (rt (bt b 0) (bt b 1) ((cut_ b 4 20).drop 2) (decide (b.length = 44))) b ((b.length - 24) / 20) 24 []) := by
      unfold parseR; rw [if_neg (fun c => c he), if_pos ⟨hv, ha⟩]
    rw [hp]
    refine bq_step (fun hq => ?_) (fun hq => ?_)
    · rw [if_pos (by omega)]
    · have L24 := parse_loop (n := fuel) (cmd := bt b 0) (ver := bt b 1) (says := (cut_ b 4 20).drop 2) (alone := decide (b.length = 44)) hb ((b.length - 24) / 20) fuel 24 [] (by omega) (fuel_ge (by omega)) (by simp; omega)
      rw [ift, if_neg (show ¬ b.length = 24 by omega), show (((b.length : Int) == 44) : Bool) = decide (b.length = 44) from beq_dec _ 44, show (24 : Int) = ((24 : Nat) : Int) from rfl, L24]
theorem rparse_is {b : Bs} (hb : b.length ≤ 100000) : g_ref10_Parse (b, ()) = some (((parseR b).1, (parseR b).2.1, (parseR b).2.2, ()), ()) := by
  show h_ref10_Parse fuel (b, ()) = _
  rw [h_ref10_Parse_eq, rhead_is hb, Option.bind_some]
  dsimp only
  refine ne_step (fun he => ?_) (fun he => ?_)
  · unfold parseR; rw [if_pos he]
  obtain ⟨h1, h2, h3, h4, _, _, h5⟩ := headR_ok he
  have hl : (cut_ b 4 20).length = 20 := cut_len (p := 4) (n := 20) (by omega)
  rw [get_bt (i := 1) (by omega), Option.bind_some]
  have e1 : bt b 1 = (((b[1]?.getD 0).toNat : Nat) : Int) := rfl
  rw [← e1]
  have L4 := rparse_loop (n := fuel) (cmd := bt b 0) (ver := bt b 1) (says := []) (alone := decide (b.length = 24)) (st := 4) hb (by omega) (by omega) rfl rfl (by rw [Bool.eq_iff_iff, beq_iff_eq, decide_eq_true_eq]; omega) ((b.length - 4) / 20) fuel 4 [] (by omega) (fuel_ge (by omega)) (by simp; omega)
  have no : ¬ (bt b 1 = 2 ∧ authB (cut_ b 4 20) = true) → (L_ref10_Parse_0 fuel fuel b 4 ([] : List UInt8) [] 4) = some (((parseR b).1, (parseR b).2.1, (parseR b).2.2, ()), ()) := fun hn => by
    have := L4
    rw [show (((4 : Nat) : Int)) = 4 from rfl] at this
    rw [this]
    unfold parseR; rw [if_neg (fun c => c he), if_neg hn]
  refine bq_step (fun hv => ?_) (fun hv => no (fun c => hv c.1))
  rw [if_pos (by omega), show (List.take 24 b).drop 4 = cut_ b 4 20 from rfl, ris_is hl, Option.bind_some]
  dsimp only
  cases ha : authB (cut_ b 4 20) with
  | false => rw [iff_]; exact no (by rw [ha]; simp)
  | true =>
    rw [ift, if_pos (by omega), rauth_is hl ha, Option.bind_some]
    have hp : parseR b = (if b.length = 24 then ([], 24, 8) else goR (rt (bt b 0) (bt b 1) ((cut_ b 4 20).drop 2) (decide (b.length = 44))) b ((b.length - 24) / 20) 24 []) := by
      unfold parseR; rw [if_neg (fun c => c he), if_pos ⟨hv, ha⟩]
    rw [hp]
    refine bq_step (fun hq => ?_) (fun hq => ?_)
    · rw [if_pos (by omega)]
    · have L24 := rparse_loop (n := fuel) (cmd := bt b 0) (ver := bt b 1) (says := (cut_ b 4 20).drop 2) (alone := decide (b.length = 44)) (st := 24) hb (by omega) (by omega) rfl rfl (by rw [Bool.eq_iff_iff, beq_iff_eq, decide_eq_true_eq]; omega) ((b.length - 24) / 20) fuel 24 [] (by omega) (fuel_ge (by omega)) (by simp; omega)
      rw [show (((24 : Nat) : Int)) = 24 from rfl] at L24
      dsimp only
      rw [if_neg (show ¬ b.length = 24 by omega), L24]
end Go.VP
set_option linter.unusedVariables false
set_option linter.unusedSimpArgs false
set_option maxRecDepth 100000
namespace Go.VP
open Go Go.VI
def entB (e : Ent) : Bs := be 2 e.family ++ be 2 e.tag ++ e.addr ++ e.mask ++ e.next ++ be 4 e.metric
def entM (m : Msg) : Ent := ⟨m.family, m.tag, m.prefix_, (if m.family = 2 ∧ m.ver = 2 then maskF m.plen else z4), m.next, m.metric⟩
def lineF (m : Msg) : Bs := entB (entM m)
def togP (f m : Msg) : Prop := m.cmd = f.cmd ∧ m.ver = f.ver ∧ m.auth = f.auth ∧ m.family ≠ 0 ∧ f.family ≠ 0
instance (f m : Msg) : Decidable (togP f m) := by unfold togP; infer_instance
def encGo (f : Msg) (most : Int) : List Msg → Nat → Bs → Bs × Int × Int
  | [], _, acc => (acc, 0, 0)
  | m :: r, i, acc => if (i : Int) = most then ([], (i : Int), 8) else if 0 < i ∧ ¬ togP f m then ([], (i : Int), 7) else encGo f most r (i + 1) (acc ++ lineF m)
open Classical in
noncomputable def badR : List Msg → Nat → Option Nat
  | [], _ => none
  | m :: r, i => if okR m then badR r (i + 1) else some i
def mostR (f : Msg) : Int := if f.auth = [] then 25 else 24
def headE (f : Msg) : Bs := [u8of (f.cmd % 256), u8of (f.ver % 256), 0, 0] ++ (if f.auth = [] then [] else [255, 255] ++ f.auth)
noncomputable def encR (l : List Msg) : Bs × Int × Int := match badR l 0 with
  | some i => ([], (i : Int), 1)
  | none => match l with
    | [] => ([], 0, 8)
    | f :: _ => encGo f (mostR f) l 0 (headE f)
theorem badR_ok : ∀ {l : List Msg} {i : Nat}, (∀ m ∈ l, okR m) → badR l i = none
  | [], _, _ => rfl
  | x :: r, i, h => by
    unfold badR; rw [if_pos (h x (by simp))]; exact badR_ok (fun m hm => h m (by simp [hm]))
end Go.VP
set_option linter.unusedVariables false
set_option linter.unusedSimpArgs false
set_option maxRecDepth 100000
namespace Go.VP
open Go Go.VI
theorem goR_all {P : Msg → Prop} {f : Ent → Msg × Int} {b : Bs} (hf : ∀ e, P (f e).1) : ∀ (k at_ : Nat) (acc : List Msg), (∀ m ∈ acc, P m) → ∀ m ∈ (goR f b k at_ acc).1, P m
  | 0, _, acc, h => h
  | k + 1, at_, acc, h => by
    rw [goR]
    split
    · intro m hm; cases hm
    · exact goR_all hf k (at_ + 20) _ (fun m hm => by
        rcases List.mem_append.1 hm with hm | hm
        · exact h m hm
        · rw [List.mem_singleton] at hm; rw [hm]; exact hf _)
theorem parseR_all {P : Msg → Prop} {b : Bs} (hP : ∀ c v s e, P (routeM c v s e)) : ∀ m ∈ (parseR b).1, P m := by
  unfold parseR
  split
  · intro m hm; cases hm
  split
  · split
    · intro m hm; cases hm
    · exact goR_all (fun e => hP _ _ _ e) _ _ _ (fun m hm => by cases hm)
  · exact goR_all (fun e => hP _ _ _ e) _ _ _ (fun m hm => by cases hm)
end Go.VP
set_option linter.unusedVariables false
set_option linter.unusedSimpArgs false
set_option maxRecDepth 100000
namespace Go.VP
open Go Go.VI
theorem bare_routeM (c v : Int) (s : Bs) (e : Ent) : bareB (routeM c v s e) = true := by
  have : bareOf (routeM c v s e) = some (routeM c v s e) := by unfold bareOf; rw [if_pos (show (routeM c v s e).kind = 1 from rfl)]; rfl
  unfold bareB; rw [this]; exact eqB_refl _
theorem cut_app (s : Bs) (p q : Nat) (n m : Nat) (h : q = p + n) : cut_ s p n ++ cut_ s q m = cut_ s p (n + m : Nat) := by
  subst h
  unfold cut_
  rw [show ((p : Int) + (n : Int)).toNat = p + n by omega, show (((p + n : Nat) : Int) + (m : Int)).toNat = p + n + m by omega, show ((p : Int) + ((n + m : Nat) : Int)).toNat = p + n + m by omega, Int.toNat_natCast, Int.toNat_natCast]
  rw [List.drop_take, List.drop_take, List.drop_take, ← List.drop_drop, show p + n - p = n by omega, show p + n + m - (p + n) = m by omega, show p + n + m - p = n + m by omega, List.take_add]
theorem be2_cut {s : Bs} {p : Nat} (h : p + 2 ≤ s.length) : be 2 (num (cut_ s p 2)) = cut_ s p 2 := be_num 2 _ (cut_len (n := 2) h)
theorem be4_cut {s : Bs} {p : Nat} (h : p + 4 ≤ s.length) : be 4 (num (cut_ s p 4)) = cut_ s p 4 := be_num 4 _ (cut_len (n := 4) h)
theorem entB_entF {s : Bs} (h : s.length = 20) : entB (entF s) = s := by
  unfold entB entF
  dsimp only
  have a := be2_cut (s := s) (p := 0) (by omega)
  have b := be2_cut (s := s) (p := 2) (by omega)
  have c := be4_cut (s := s) (p := 16) (by omega)
  rw [show ((0 : Nat) : Int) = 0 from rfl] at a
  rw [show ((2 : Nat) : Int) = 2 from rfl] at b
  rw [show ((16 : Nat) : Int) = 16 from rfl] at c
  rw [a, b, c]
  have e1 : cut_ s 0 2 ++ cut_ s 2 2 = cut_ s 0 4 := cut_app s 0 2 2 2 rfl
  have e2 : cut_ s 0 4 ++ cut_ s 4 4 = cut_ s 0 8 := cut_app s 0 4 4 4 rfl
  have e3 : cut_ s 0 8 ++ cut_ s 8 4 = cut_ s 0 12 := cut_app s 0 8 8 4 rfl
  have e4 : cut_ s 0 12 ++ cut_ s 12 4 = cut_ s 0 16 := cut_app s 0 12 12 4 rfl
  have e5 : cut_ s 0 16 ++ cut_ s 16 4 = cut_ s 0 20 := cut_app s 0 16 16 4 rfl
  have f : cut_ s 0 20 = s := by unfold cut_; simp [← h]
  rw [e1, e2, e3, e4, e5, f]
theorem route_good {c v : Int} {s : Bs} {al : Bool} {e : Ent} (h : EntOk e) (hc : c = 1 ∨ c = 2) (hv : v = 1 ∨ v = 2) (hs : s = [] ∨ (v = 2 ∧ s.length = 18)) (he : errR c v s al e = 0) : okR (routeM c v s e) ∧ entM (routeM c v s e) = e ∧ (e.family = 0 → al = true) := by
  unfold errR at he
  by_cases f0 : e.family = 0
  · rw [if_pos f0] at he
    split at he
    · rename_i hh
      obtain ⟨ha, hm, ho⟩ := hh
      refine ⟨ho, ?_, fun _ => ha⟩
      unfold entM routeM
      dsimp only
      rw [if_neg (by omega), ← hm]
    · simp at he
  rw [if_neg f0] at he
  split at he
  · simp at he
  rename_i f2
  have f2 : e.family = 2 := by omega
  have h1 := h.tag
  by_cases v1 : v = 1
  · rw [if_pos v1] at he
    split at he
    · simp at he
    rename_i hz
    split at he
    · simp at he
    rename_i hm
    have hz1 : e.tag = 0 := by grind
    have hz2 : e.mask = z4 := by grind
    have hz3 : e.next = z4 := by grind
    refine ⟨⟨rfl, bare_routeM .., hc, hv, h.addr, h.next, hs, .inr ⟨f2, ?_, ?_, .inl ⟨v1, hz1, ?_, hz3⟩⟩⟩, ?_, fun c => absurd c f0⟩
    · show 1 ≤ e.metric; omega
    · show e.metric ≤ 16; omega
    · show (if e.family = 0 then (0 : Int) else if v = 1 then 32 else (plenF e.mask).1) = 32
      rw [if_neg f0, if_pos v1]
    · unfold entM routeM
      dsimp only
      rw [if_neg (by omega), ← hz2]
  · rw [if_neg v1] at he
    split at he
    · simp at he
    rename_i hp
    split at he
    · simp at he
    rename_i hm
    have hp1 : (plenF e.mask).2 = true := by grind
    have hp2 : cleanB e.addr (plenF e.mask).1 = true := by grind
    have hk := plenF_ok hp1
    have hpl : (routeM c v s e).plen = (plenF e.mask).1 := by
      show (if e.family = 0 then (0 : Int) else if v = 1 then 32 else (plenF e.mask).1) = _
      rw [if_neg f0, if_neg v1]
    refine ⟨⟨rfl, bare_routeM .., hc, hv, h.addr, h.next, hs, .inr ⟨f2, ?_, ?_, .inr ⟨?_, ?_, ?_, ?_, ?_, ?_⟩⟩⟩, ?_, fun c => absurd c f0⟩
    · show 1 ≤ e.metric; omega
    · show e.metric ≤ 16; omega
    · show v = 2; omega
    · show 0 ≤ e.tag; omega
    · show e.tag ≤ 65535; omega
    · rw [hpl]; omega
    · rw [hpl]; omega
    · rw [hpl]; exact hp2
    · unfold entM
      rw [hpl, if_pos (show (routeM c v s e).family = 2 ∧ (routeM c v s e).ver = 2 from ⟨f2, by show v = 2; omega⟩), hk.2.2]; rfl
theorem go_good {c v : Int} {s : Bs} {al : Bool} {b : Bs} (hc : c = 1 ∨ c = 2) (hv : v = 1 ∨ v = 2) (hs : s = [] ∨ (v = 2 ∧ s.length = 18)) : ∀ (k at_ : Nat) (acc : List Msg), at_ + 20 * k = b.length → (goR (rt c v s al) b k at_ acc).2.2 = 0 →
    ∃ r, (goR (rt c v s al) b k at_ acc) = (acc ++ r, 0, 0) ∧ r.length = k ∧ (∀ m ∈ r, okR m ∧ m.cmd = c ∧ m.ver = v ∧ m.auth = s ∧ (m.family = 0 → al = true)) ∧ r.flatMap lineF = b.drop at_
  | 0, at_, acc, h, _ => ⟨[], by simp [goR], rfl, by simp, by simp; omega⟩
  | k + 1, at_, acc, h, he => by
    have hl : (cut_ b at_ 20).length = 20 := cut_len (n := 20) (by omega)
    rw [goR] at he ⊢
    by_cases h0 : (rt c v s al (entF (cut_ b at_ 20))).2 = 0
    · rw [if_neg (fun c => c h0)] at he ⊢
      obtain ⟨r, h1, h2, h3, h4⟩ := go_good hc hv hs k (at_ + 20) _ (by omega) he
      obtain ⟨o1, o2, o3⟩ := route_good (al := al) (entF_ok hl) hc hv hs h0
      refine ⟨routeM c v s (entF (cut_ b at_ 20)) :: r, by rw [h1]; simp [rt], by simp [h2], fun m hm => ?_, ?_⟩
      · rcases List.mem_cons.1 hm with rfl | hm
        · exact ⟨o1, rfl, rfl, rfl, o3⟩
        · exact h3 m hm
      · rw [List.flatMap_cons, h4]
        unfold lineF
        rw [o2, entB_entF hl]
        have : cut_ b at_ 20 = (b.drop at_).take 20 := by
          unfold cut_
          rw [show ((at_ : Int) + 20).toNat = at_ + 20 by omega, Int.toNat_natCast, List.drop_take, show at_ + 20 - at_ = 20 by omega]
        rw [this, ← List.drop_drop, List.take_append_drop]
    · rw [if_pos h0] at he; exact absurd he h0
theorem enc_good {f : Msg} {most : Int} : ∀ (l : List Msg) (i : Nat) (acc : Bs), (i + l.length : Nat) ≤ most → (∀ (j : Nat) (h : j < l.length), 0 < i + j → togP f l[j]) → encGo f most l i acc = (acc ++ l.flatMap lineF, 0, 0)
  | [], i, acc, _, _ => by simp [encGo]
  | m :: r, i, acc, h, ht => by
    rw [encGo, if_neg (by simp at h; omega), if_neg (fun c => c.2 (ht 0 (by simp) (by omega))), enc_good r (i + 1) _ (by simp at h ⊢; omega) (fun j hj _ => by
      have := ht (j + 1) (by simp; omega) (by omega)
      simpa using this)]
    simp
end Go.VP
set_option linter.unusedVariables false
set_option linter.unusedSimpArgs false
set_option maxRecDepth 100000
namespace Go.VP
open Go Go.VI
theorem headR_rng (b : Bs) : 0 ≤ (headR b).1 ∧ (headR b).1 ≤ b.length := by
  unfold headR
  split
  · simp
  split
  · simp
  split
  · dsimp only; omega
  split
  · dsimp only; omega
  split
  · simp
  split
  · simp
  split
  · dsimp only; omega
  · simp
theorem goR_err {f : Ent → Msg × Int} {b : Bs} : ∀ (k at_ : Nat) (acc : List Msg), at_ + 20 * k ≤ b.length → (goR f b k at_ acc).2.2 ≠ 0 → (goR f b k at_ acc).1 = [] ∧ 0 ≤ (goR f b k at_ acc).2.1 ∧ (goR f b k at_ acc).2.1 ≤ b.length
  | 0, at_, acc, h, he => absurd rfl he
  | k + 1, at_, acc, h, he => by
    rw [goR] at he ⊢
    split
    · exact ⟨rfl, by dsimp only; omega, by dsimp only; omega⟩
    · rename_i h0
      rw [if_neg h0] at he
      exact goR_err k (at_ + 20) _ (by omega) he
theorem parseR_err {b : Bs} (h : (parseR b).2.2 ≠ 0) : (parseR b).1 = [] ∧ 0 ≤ (parseR b).2.1 ∧ (parseR b).2.1 ≤ b.length := by
  unfold parseR at h ⊢
  by_cases h0 : (headR b).2 = 0
  · have hk := headR_ok h0
    rw [if_neg (fun c => c h0)] at h ⊢
    by_cases h1 : bt b 1 = 2 ∧ authB (cut_ b 4 20) = true
    · rw [if_pos h1] at h ⊢
      by_cases h2 : b.length = 24
      · rw [if_pos h2]; exact ⟨rfl, by dsimp only; omega, by dsimp only; omega⟩
      · rw [if_neg h2] at h ⊢; exact goR_err _ _ _ (by omega) h
    · rw [if_neg h1] at h ⊢; exact goR_err _ _ _ (by omega) h
  · rw [if_pos h0]; exact ⟨rfl, headR_rng b⟩
theorem parse_good {b : Bs} (h : (parseR b).2.2 = 0) : ∃ r, parseR b = (r, 0, 0) ∧ 1 ≤ r.length ∧ r.length ≤ 25 ∧ (∀ m ∈ r, okR m) ∧ encR r = (b, 0, 0) := by
  unfold parseR at h ⊢
  by_cases h0 : (headR b).2 = 0
  rotate_left
  · rw [if_pos h0] at h; exact absurd h h0
  obtain ⟨k1, k2, k3, k4, k5, k6, k7⟩ := headR_ok h0
  rw [if_neg (fun c => c h0)] at h ⊢
  obtain ⟨w, x, y, z, t, rfl⟩ := four_of (b := b) (by omega)
  have e0 : bt (w :: x :: y :: z :: t) 0 = (w.toNat : Int) := rfl
  have e1 : bt (w :: x :: y :: z :: t) 1 = (x.toNat : Int) := rfl
  have hy : y = 0 := u8_eq (show (y.toNat : Int) = ((0 : UInt8).toNat : Int) from k5)
  have hz : z = 0 := u8_eq (show (z.toNat : Int) = ((0 : UInt8).toNat : Int) from k6)
  subst hy; subst hz
  have fin : ∀ (r : List Msg) (s : Bs) (al : Bool) (at_ : Nat), (s = [] ∨ (bt (w :: x :: 0 :: 0 :: t) 1 = 2 ∧ s.length = 18)) → (al = true → r.length = 1) → 1 ≤ r.length → r.length + (if s = [] then 0 else 1) ≤ 25 →
      (∀ m ∈ r, okR m ∧ m.cmd = bt (w :: x :: 0 :: 0 :: t) 0 ∧ m.ver = bt (w :: x :: 0 :: 0 :: t) 1 ∧ m.auth = s ∧ (m.family = 0 → al = true)) → r.flatMap lineF = (w :: x :: 0 :: 0 :: t).drop at_ → [w, x, 0, 0] ++ (if s = [] then [] else [255, 255] ++ s) = (w :: x :: 0 :: 0 :: t).take at_ → encR r = (w :: x :: 0 :: 0 :: t, 0, 0) := by
    intro r s al at_ hs hal hr1 hr2 hm hfl htk
    unfold encR
    rw [badR_ok (fun m h => (hm m h).1)]
    cases r with
    | nil => simp at hr1
    | cons f r =>
      obtain ⟨f1, f2, f3, f4, f5⟩ := hm f (by simp)
      dsimp only
      have hmo : (((f :: r).length : Nat) : Int) ≤ mostR f := by
        unfold mostR
        rw [f4]
        by_cases hs0 : s = []
        · rw [if_pos hs0] at hr2 ⊢; omega
        · rw [if_neg hs0] at hr2 ⊢; omega
      rw [enc_good (f :: r) 0 _ (by simpa using hmo) (fun j hj h0 => ?_)]
      · have : headE f = (w :: x :: 0 :: 0 :: t).take at_ := by
          rw [← htk]
          unfold headE
          rw [f2, f3, f4, e0, e1, u8of_emod' (by omega), u8of_emod' (by omega), u8of_nat, u8of_nat]
        rw [this, hfl, List.take_append_drop]
      · obtain ⟨g1, g2, g3, g4, g5⟩ := hm ((f :: r)[j]) (List.getElem_mem hj)
        have nal : ¬ al = true := fun c => by have := hal c; omega
        exact ⟨by rw [g2, f2], by rw [g3, f3], by rw [g4, f4], fun c => nal (g5 c), fun c => nal (f5 c)⟩
  generalize hB : (w :: x :: 0 :: 0 :: t) = B at *
  have hl : (cut_ B 4 20).length = 20 := cut_len (p := 4) (n := 20) (by omega)
  have tk4 : B.take 4 = [w, x, 0, 0] := by rw [← hB]; rfl
  by_cases h1 : bt B 1 = 2 ∧ authB (cut_ B 4 20) = true
  · rw [if_pos h1] at h ⊢
    by_cases h2 : B.length = 24
    · rw [if_pos h2] at h; simp at h
    rw [if_neg h2] at h ⊢
    have hs : ((cut_ B 4 20).drop 2).length = 18 := by simp [hl]
    obtain ⟨r, r1, r2, r3, r4⟩ := go_good k3 k4 (.inr ⟨h1.1, hs⟩) ((B.length - 24) / 20) 24 [] (by omega) h
    rw [r1]
    refine ⟨r, by simp, by omega, by omega, fun m hm => (r3 m hm).1, fin r _ _ 24 (.inr ⟨h1.1, hs⟩) (fun c => by simp at c; omega) (by omega) (by split <;> omega) r3 r4 ?_⟩
    have hne : ¬ ((cut_ B 4 20).drop 2 = []) := fun c => by rw [c] at hs; simp at hs
    rw [if_neg hne, ← tk4]
    have h2 : (cut_ B 4 20).take 2 = [255, 255] := by have := h1.2; unfold authB at this; simpa using this
    rw [← h2, List.take_append_drop]
    have : cut_ B 4 20 = (B.take 24).drop 4 := rfl
    rw [this]
    have := List.take_append_drop 4 (B.take 24)
    rw [List.take_take, show min 4 24 = 4 by decide] at this
    exact this
  · rw [if_neg h1] at h ⊢
    obtain ⟨r, r1, r2, r3, r4⟩ := go_good k3 k4 (.inl rfl) ((B.length - 4) / 20) 4 [] (by omega) h
    rw [r1]
    exact ⟨r, by simp, by omega, by omega, fun m hm => (r3 m hm).1, fin r _ _ 4 (.inl rfl) (fun c => by simp at c; omega) (by omega) (by simp; omega) r3 r4 (by rw [if_pos rfl, tk4]; rfl)⟩
end Go.VP
set_option linter.unusedVariables false
set_option linter.unusedSimpArgs false
set_option maxRecDepth 100000
namespace Go.VP
open Go Go.VI
def extB (l : List Sub) : Bool := l.all (subB 0 255)
def AllE (l : List Sub) : Prop := ∀ y ∈ l, 0 ≤ y.type_ ∧ y.type_ ≤ 255 ∧ y.data.length ≤ 255
theorem allE_iff {l : List Sub} : extB l = true ↔ AllE l := by simp [extB, subB, AllE]
def goE (s : Bs) : Nat → Nat → List Sub → List Sub × Int × Int
  | 0, _, acc => (acc, 0, 0)
  | d + 1, p, acc =>
    if p < s.length then
      if (s.length : Int) < p + 2 + bt s (p + 1) then ([], p, 2)
      else goE s d (p + 2 + (bt s (p + 1)).toNat) (acc ++ [⟨bt s p, cut_ s (p + 2) (bt s (p + 1))⟩])
    else (acc, 0, 0)
def getE (s : Bs) : List Sub × Int × Int := goE s (s.length + 1) 0 []
theorem eget_loop {s : Bs} {n : Nat} (hs : s.length ≤ 1000000) : ∀ (d m p : Nat) (acc : List Sub), s.length < p + d → p ≤ s.length → d < m → acc.length ≤ p →
    L_ext_Get_0 n m acc s p s.length false = some (trip (goE s d p acc), ()) := by
  intro d
  induction d with
  | zero => intro m p acc h1 h2; omega
  | succ d ih =>
    intro m p acc h1 h2 hm ha
    obtain ⟨m, rfl⟩ : ∃ k, m = k + 1 := ⟨m - 1, by omega⟩
    have w : WfC s p s.length := ⟨by omega, by omega, by omega, by omega⟩
    rw [L_ext_Get_0_eq]
    rw [show g_cursor_Left (⟨s, (p : Int), (s.length : Int), false⟩, ()) = _ from left_is w, Option.bind_some]
    dsimp only
    unfold goE
    by_cases hp : p < s.length
    · rw [ifd (by omega), if_pos hp]
      rw [show g_cursor_Num (⟨s, (p : Int), (s.length : Int), false⟩, 1, ()) = _ from num_ok w (by omega) (by omega) (by omega), Option.bind_some]
      dsimp only
      have w1 := w.fwd (n := 1) (by omega) (by omega)
      rw [num1 (by omega)]
      by_cases h2' : p + 2 ≤ s.length
      · rw [num_ok w1 (by omega) (by omega) (by omega), Option.bind_some]
        dsimp only
        have hb := bt_rng s (p + 1)
        have w2 := w1.fwd (n := 1) (by omega) (by omega)
        rw [show (p : Int) + 1 = ((p + 1 : Nat) : Int) by omega, num1 (s := s) (p := p + 1) (by omega)]
        by_cases h3 : (s.length : Int) < p + 2 + bt s (p + 1)
        · rw [if_pos h3, text_bad (by rw [show (((p + 1 : Nat) : Int)) = (p : Int) + 1 by omega]; exact w2) (.inr (.inr (by omega))), Option.bind_some]
          rfl
        · rw [if_neg h3, text_ok (by rw [show (((p + 1 : Nat) : Int)) = (p : Int) + 1 by omega]; exact w2) (by omega) (by omega), Option.bind_some]
          dsimp only
          rw [iff_, if_pos (room_mul (by simp; omega) subBo)]
          have := ih m (p + 2 + (bt s (p + 1)).toNat) (acc ++ [⟨bt s p, cut_ s (p + 2) (bt s (p + 1))⟩]) (by omega) (by omega) (by omega) (by simp; omega)
          rw [← this, show ((p + 1 : Nat) : Int) + 1 = (p : Int) + 2 by omega]
          congr 1
      · have hb : bt s (p + 1) = 0 := by unfold bt; rw [List.getElem?_eq_none (by omega)]; rfl
        rw [num_bad w1 (by omega) (by omega) (.inr (by omega)), Option.bind_some]
        dsimp only
        rw [text_bad w1 (.inl rfl), Option.bind_some, hb, if_pos (show (s.length : Int) < p + 2 + 0 by omega)]
        rfl
    · rw [ifn (by omega), if_neg hp]
theorem eget_is {s : Bs} (hs : s.length ≤ 1000000) : g_ext_Get (s, ()) = some (trip (getE s), ()) := by
  show h_ext_Get fuel _ = _
  rw [h_ext_Get_eq, new_is, Option.bind_some]
  exact eget_loop (n := fuel) hs (s.length + 1) fuel 0 [] (by omega) (by omega) (fuel_ge (by omega)) (by simp)
theorem reget_loop {s : Bs} {n : Nat} (hs : s.length ≤ 1000000) : ∀ (d m p : Nat) (acc : List Sub), s.length < p + d → p ≤ s.length → d < m → acc.length ≤ p →
    L_ref13_Get_0 n m s acc p = some (trip (goE s d p acc), ()) := by
  intro d
  induction d with
  | zero => intro m p acc h1 h2; omega
  | succ d ih =>
    intro m p acc h1 h2 hm ha
    obtain ⟨m, rfl⟩ : ∃ k, m = k + 1 := ⟨m - 1, by omega⟩
    rw [L_ref13_Get_0_eq]
    unfold goE
    by_cases hp : p < s.length
    · rw [ifd (by omega), if_pos hp, w64 (x := (s.length : Int) - p) (by omega) (by omega), w64 (x := (p : Int) + 1) (by omega) (by omega), w64 (x := (s.length : Int) - p - 2) (by omega) (by omega), w64 (x := (p : Int) + 2) (by omega) (by omega)]
      by_cases h2' : p + 2 ≤ s.length
      · have hb := bt_rng s (p + 1)
        have e1 : s[((p : Int) + 1).toNat]? = some (s[p + 1]?.getD 0) := by rw [show ((p : Int) + 1).toNat = p + 1 by omega]; exact get_bt (by omega)
        have e2 : s[(p : Int).toNat]? = some (s[p]?.getD 0) := by rw [Int.toNat_natCast]; exact get_bt hp
        have hw : IntKind.wrap .i64 ((s[p + 1]?.getD 0).toNat : Int) = bt s (p + 1) := w64n _
        have hw0 : IntKind.wrap .i64 ((s[p]?.getD 0).toNat : Int) = bt s p := w64n _
        rw [ifn (by omega), if_pos (by omega), e1, Option.bind_some, hw]
        by_cases h3 : (s.length : Int) < p + 2 + bt s (p + 1)
        · rw [if_pos h3, ifd (by omega)]
        · rw [if_neg h3, ifn (by omega), if_pos (by omega), Option.bind_some, if_pos (by omega), e2, Option.bind_some, hw, hw0, w64 (x := (p : Int) + 2 + bt s (p + 1)) (by omega) (by omega), if_pos (by omega), if_pos (room_mul (by simp; omega) subBo)]
          have := ih m (p + 2 + (bt s (p + 1)).toNat) (acc ++ [⟨bt s p, cut_ s (p + 2) (bt s (p + 1))⟩]) (by omega) (by omega) (by omega) (by simp; omega)
          rw [← this, show (p : Int) + 2 + bt s (p + 1) = ((p + 2 + (bt s (p + 1)).toNat : Nat) : Int) by omega]
          rfl
      · have hb := bt_rng s (p + 1)
        rw [ifd (by omega), if_pos (by omega)]
    · rw [ifn (by omega), if_neg hp]
theorem reget_is {s : Bs} (hs : s.length ≤ 1000000) : g_ref13_Get (s, ()) = some (trip (getE s), ()) := by
  show h_ref13_Get fuel _ = _
  rw [h_ref13_Get_eq]
  exact reget_loop (n := fuel) hs (s.length + 1) fuel 0 [] (by omega) (by omega) (fuel_ge (by omega)) (by simp)
end Go.VP
set_option linter.unusedVariables false
set_option linter.unusedSimpArgs false
set_option maxRecDepth 100000
namespace Go.VP
open Go Go.VI
theorem cut_dropN (b : Bs) (p k : Nat) : cut_ b p (k : Int) = (b.drop p).take k := by
  unfold cut_
  rw [show ((p : Int) + (k : Int)).toNat = p + k by omega, Int.toNat_natCast, List.drop_take]
  congr 1
  omega
theorem goE_place {s : Bs} : ∀ (d p : Nat) (acc : List Sub), 0 ≤ (goE s d p acc).2.1 ∧ (goE s d p acc).2.1 ≤ s.length ∧ ((goE s d p acc).2.2 = 0 ∨ (goE s d p acc).2.2 = 2)
  | 0, p, acc => by simp [goE]
  | d + 1, p, acc => by
    unfold goE
    split
    · split
      · dsimp only; omega
      · exact goE_place d _ _
    · simp
theorem getE_place (s : Bs) : 0 ≤ (getE s).2.1 ∧ (getE s).2.1 ≤ s.length ∧ ((getE s).2.2 = 0 ∨ (getE s).2.2 = 2) := goE_place _ _ _
theorem goE_ok {s : Bs} : ∀ (d p : Nat) (acc : List Sub), s.length < p + d → (goE s d p acc).2.2 = 0 → (goE s d p acc).2.1 = 0 ∧ ∃ l, (goE s d p acc).1 = acc ++ l ∧ AllE l ∧ encS l = s.drop p ∧ 2 * l.length + p ≤ s.length + p
  | 0, p, acc, hd, h => ⟨rfl, [], by simp [goE], (fun y hy => by cases hy), by rw [List.drop_eq_nil_of_le (by omega)]; rfl, by simp⟩
  | d + 1, p, acc, hd, h => by
    unfold goE at h ⊢
    by_cases h1 : p < s.length
    · rw [if_pos h1] at h ⊢
      by_cases h2 : (s.length : Int) < p + 2 + bt s (p + 1)
      · rw [if_pos h2] at h; cases h
      · rw [if_neg h2] at h ⊢
        have hb := bt_rng s (p + 1)
        have hb0 := bt_rng s p
        obtain ⟨k0, l, k1, k2, k3, k4⟩ := goE_ok d _ _ (by omega) h
        have hcl : (cut_ s (p + 2) (bt s (p + 1))).length = (bt s (p + 1)).toNat := by
          have := cut_length (s := s) (p := (p : Int) + 2) (n := bt s (p + 1)) (by omega) (by omega) (by omega)
          omega
        refine ⟨k0, ⟨bt s p, cut_ s (p + 2) (bt s (p + 1))⟩ :: l, by rw [k1]; simp, fun y hy => ?_, ?_, ?_⟩
        · rcases List.mem_cons.1 hy with rfl | hy
          · exact ⟨hb0.1, by show bt s p ≤ 255; omega, by show (cut_ s (p + 2) (bt s (p + 1))).length ≤ 255; omega⟩
          · exact k2 y hy
        · unfold encS
          rw [k3]
          dsimp only
          rw [hcl]
          have e1 : u8of (bt s p) = s[p] := by
            have : bt s p = (s[p].toNat : Int) := by unfold bt; simp [h1]
            rw [this, u8of_nat]
          have hp1 : p + 1 < s.length := by omega
          have e2 : u8of (((bt s (p + 1)).toNat : Nat) : Int) = s[p + 1] := by
            have : bt s (p + 1) = (s[p + 1].toNat : Int) := by unfold bt; simp [hp1]
            rw [this, Int.toNat_natCast, u8of_nat]
          have e3 : cut_ s ((p : Int) + 2) (bt s (p + 1)) = (s.drop (p + 2)).take (bt s (p + 1)).toNat := by
            have := cut_dropN s (p + 2) (bt s (p + 1)).toNat
            rw [show ((p + 2 : Nat) : Int) = (p : Int) + 2 by omega, show (((bt s (p + 1)).toNat : Nat) : Int) = bt s (p + 1) by omega] at this
            exact this
          rw [e1, e2, e3, List.drop_eq_getElem_cons h1, List.drop_eq_getElem_cons hp1, show p + 1 + 1 = p + 2 by omega, show s.drop (p + 2 + (bt s (p + 1)).toNat) = (s.drop (p + 2)).drop (bt s (p + 1)).toNat by rw [List.drop_drop], List.take_append_drop]
        · have := congrArg List.length k3
          simp only [List.length_cons]
          have e := encS_length l
          have hlen : ∀ l : List Sub, 2 * (l.length : Int) ≤ sumN l := fun l => by
            induction l with
            | nil => simp [sumN]
            | cons y l ih => simp only [sumN, List.length_cons]; omega
          have := hlen l
          rw [List.length_drop] at *
          omega
    · rw [if_neg h1] at h ⊢
      exact ⟨rfl, [], by simp, (fun y hy => by cases hy), by rw [List.drop_eq_nil_of_le (by omega)]; rfl, by simp⟩
theorem getE_ok {s : Bs} (h : (getE s).2.2 = 0) : (getE s).2.1 = 0 ∧ AllE (getE s).1 ∧ encS (getE s).1 = s ∧ 2 * (getE s).1.length ≤ s.length := by
  obtain ⟨k0, l, k1, k2, k3, k4⟩ := goE_ok (s := s) (s.length + 1) 0 [] (by omega) h
  rw [List.nil_append] at k1
  unfold getE
  rw [k1]
  exact ⟨k0, k2, by rw [k3]; rfl, by omega⟩
end Go.VP
set_option linter.unusedVariables false
set_option linter.unusedSimpArgs false
set_option maxRecDepth 100000
namespace Go.VP
open Go Go.VI
def z16 : Bs := [0, 0, 0, 0, 0, 0, 0, 0, 0, 0, 0, 0, 0, 0, 0, 0]
theorem zeros16 : g_octet_Zeros (16, ()) = some ((z16, ()), ()) := by
  rw [g_octet_Zeros_eq, if_pos (by unfold roomI; decide)]; rfl
theorem none12_is : g_ref12_none () = some ((z16, ()), ()) := by
  rw [g_ref12_none_eq, g_ref02_Zeros_eq, ifn (by decide), if_pos (by unfold roomI; decide), Option.bind_some]; rfl
def preB (a : Bs) (n : Int) : Bool := decide (0 ≤ n ∧ n ≤ 128) && cleanB a n
theorem pright16_is {a : Bs} {n : Int} (h : a.length = 16) (hn : IntKind.has .i64 n) : g_prefix_Right (a, n, ()) = some ((preB a n, ()), ()) := by
  have h8 : IntKind.wrap .i64 (8 * (a.length : Int)) = 128 := by rw [h]; rfl
  rw [g_prefix_Right_eq, h8]
  unfold preB
  refine bq_step (fun q => by omega) (fun _ => ?_)
  refine bq_step (fun _ => ?_) (fun q => by omega)
  refine dq_step' (fun h0 => ?_) (fun h0 => ?_)
  · refine dq_step' (fun h1 => ?_) (fun h1 => ?_)
    · rw [clean_is (by omega) hn, Option.bind_some, decide_eq_true ⟨h0, h1⟩, Bool.true_and]
    · rw [decide_eq_false (fun q => h1 q.2), Bool.false_and]
  · rw [decide_eq_false (fun q => h0 q.1), Bool.false_and]
theorem rright16_is {a : Bs} {n : Int} (h : a.length = 16) : g_ref04_Right (a, n, ()) = some ((preB a n, ()), ()) := by
  rw [rright4_is (by omega) (.inr h), h]; rfl
structure NgR (m : Msg) : Prop where
  kind : m.kind = 2
  bare : bareB m = true
  cmd : m.cmd = 1 ∨ m.cmd = 2
  tag : 0 ≤ m.tag ∧ m.tag < 65536
  metric : 1 ≤ m.metric ∧ m.metric ≤ 16
  len : m.prefix_.length = 16
  pre : preB m.prefix_ m.plen = true
  next : m.next = z16 ∨ linkB m.next = true
open Classical in
noncomputable def ngB (m : Msg) : Bool := decide (NgR m)
theorem ngR_iff {m : Msg} : ngB m = true ↔ NgR m := by simp [ngB]
theorem NgR.next16 {m : Msg} (h : NgR m) : m.next.length = 16 := by
  rcases h.next with e | e
  · rw [e]; rfl
  · exact (linkB_len e).1
theorem NgR.plen {m : Msg} (h : NgR m) : 0 ≤ m.plen ∧ m.plen ≤ 128 := by
  have := h.pre; unfold preB at this; simp at this; exact this.1
structure GoodG (m : Msg) : Prop where
  tag : IntKind.has .i64 m.tag
  plen : IntKind.has .i64 m.plen
  cmd : IntKind.has .i64 m.cmd
  list : m.list.length ≤ 1000000000
  subs : m.subs.length ≤ 1000000000
abbrev EntN := S_api_Entry
def entN (s : Bs) : EntN := ⟨bt s 18, num (cut_ s 16 2), s.take 16, [], [], bt s 19⟩
theorem bt_drop (s : Bs) (k i : Nat) : bt (s.drop k) i = bt s (k + i) := by unfold bt; rw [List.getElem?_drop]
theorem rteget_is {s : Bs} (h : s.length = 20) : g_rte_Get (s, ()) = some ((entN s, true, ()), ()) := by
  have hl : (s.drop 16).length = 4 := by rw [List.length_drop]; omega
  have b0 := bt_rng (s.drop 16) 0
  have b1 := bt_rng (s.drop 16) 1
  rw [g_rte_Get_eq]
  refine ne_step (fun q => by omega) (fun _ => ?_)
  rw [if_pos (by omega), if_pos (by omega), get_bt (i := 0) (by omega), Option.bind_some, get_bt (i := 1) (by omega), Option.bind_some, get_bt (i := 2) (by omega), Option.bind_some, get_bt (i := 3) (by omega), Option.bind_some, w64n, w64n, w64n, w64n]
  show some ((S_api_Entry.mk (bt (s.drop 16) 2) (ibits .or .i64 (ishl .i64 (bt (s.drop 16) 0) 8) (bt (s.drop 16) 1)) (s.take 16) [] [] (bt (s.drop 16) 3), true, ()), ()) = _
  rw [ib_or (by omega) (by omega), bt_drop, bt_drop, bt_drop, bt_drop]
  unfold entN
  rw [show ((16 : Int)) = ((16 : Nat) : Int) from rfl, num2 (by omega)]
theorem rget11_is {s : Bs} (h : s.length = 20) : g_ref11_Get (s, ()) = some ((entN s, true, ()), ()) := by
  rw [g_ref11_Get_eq]
  refine ne_step (fun q => by omega) (fun _ => ?_)
  rw [if_pos (by omega), if_pos (by omega), number_is (by simp; omega), Option.bind_some, get_bt (i := 18) (by omega), Option.bind_some, get_bt (i := 19) (by omega), Option.bind_some, w64n, w64n]
  rfl
def entG (a : Bs) (t f m : Int) : Bs := a ++ (be 2 t ++ [u8of f, u8of m])
theorem entG_len {a : Bs} (h : a.length = 16) (t f m : Int) : (entG a t f m).length = 20 := by unfold entG; simp [be_length]; omega
end Go.VP
set_option linter.unusedVariables false
set_option linter.unusedSimpArgs false
set_option maxRecDepth 100000
namespace Go.VP
open Go Go.VI
def headG (b : Bs) : Int × Int :=
  if 65535 < b.length then (65535, 10) else if b.length < 4 then (b.length, 2) else if ¬ (bt b 0 = 1 ∨ bt b 0 = 2) then (0, 4) else if ¬ bt b 1 = 1 then (1, 4)
  else if ¬ (bt b 2 = 0 ∧ bt b 3 = 0) then (2, 5) else if ((b.length : Int) - 4) % 20 ≠ 0 then (b.length, 2) else (0, 0)
theorem headG_ok {b : Bs} (h : (headG b).2 = 0) : 4 ≤ b.length ∧ b.length ≤ 65535 ∧ (bt b 0 = 1 ∨ bt b 0 = 2) ∧ bt b 1 = 1 ∧ bt b 2 = 0 ∧ bt b 3 = 0 ∧ ((b.length : Int) - 4) % 20 = 0 := by
  unfold headG at h
  repeat (split at h; · simp at h)
  rename_i h1 h2 h3 h4 h5 h6
  exact ⟨by omega, by omega, by omega, by omega, by omega, by omega, by omega⟩
theorem headG_place {b : Bs} : 0 ≤ (headG b).1 ∧ (headG b).1 ≤ b.length := by
  unfold headG
  repeat (split; · dsimp only; omega)
  dsimp only; omega
theorem nghead_is {b : Bs} (hb : b.length ≤ 1000000000) : g_ripng_head (b, ()) = some (((headG b).1, (headG b).2, ()), ()) := by
  rw [g_ripng_head_eq]
  refine dq_step (fun h => by unfold headG; rw [if_pos (by omega)]) (fun hl => ?_)
  refine dq_step (fun h => by unfold headG; rw [if_neg (by omega), if_pos (by omega)]) (fun h4 => ?_)
  have h4' : ¬ b.length < 4 := by omega
  obtain ⟨w, x, y, z, r, rfl⟩ := four_of h4'
  have e0 : bt (w :: x :: y :: z :: r) 0 = (w.toNat : Int) := rfl
  have e1 : bt (w :: x :: y :: z :: r) 1 = (x.toNat : Int) := rfl
  have e2 : bt (w :: x :: y :: z :: r) 2 = (y.toNat : Int) := rfl
  have e3 : bt (w :: x :: y :: z :: r) 3 = (z.toNat : Int) := rfl
  rw [show (w :: x :: y :: z :: r)[0]? = some w from rfl, show (w :: x :: y :: z :: r)[1]? = some x from rfl, show (List.take 4 (w :: x :: y :: z :: r)).drop 2 = [y, z] from rfl]
  simp only [Option.bind_some]
  have hL : (4 : Int) ≤ ((w :: x :: y :: z :: r).length : Int) := by omega
  have hz : zeroB [y, z] = true ↔ ((y.toNat : Int) = 0 ∧ (z.toNat : Int) = 0) := by
    simp only [zeroB, List.all_cons, List.all_nil, Bool.and_true, Bool.and_eq_true, beq_iff_eq]
    constructor
    · rintro ⟨rfl, rfl⟩; exact ⟨rfl, rfl⟩
    · rintro ⟨h1, h2⟩; exact ⟨u8_eq h1, u8_eq h2⟩
  generalize hLL : (w :: x :: y :: z :: r).length = L at *
  have tail : ((w.toNat : Int) = 1 ∨ (w.toNat : Int) = 2) → (if ((x.toNat : Int) != 1) = true then some ((1, 4, ()), ()) else (if 0 ≤ (2 : Int) ∧ (2 : Int) ≤ (4 : Int) ∧ (4 : Int) ≤ (L : Int) then ((g_octet_Zero ([y, z], ())).bind fun r4 => (if (!r4.1.1) = true then some ((2, 5, ()), ()) else (if ((L : Int).tmod 20 != 4) = true then some (((L : Int), 2, ()), ()) else some ((0, 0, ()), ())))) else none)) = some (((headG (w :: x :: y :: z :: r)).1, (headG (w :: x :: y :: z :: r)).2, ()), ()) := by
    intro ha
    unfold headG
    rw [hLL, if_neg (show ¬ 65535 < L by omega), if_neg (show ¬ L < 4 by omega), if_neg (show ¬ ¬ (bt (w :: x :: y :: z :: r) 0 = 1 ∨ bt (w :: x :: y :: z :: r) 0 = 2) by rw [e0]; exact fun c => c ha)]
    refine ne_step (fun h => ?_) (fun h1 => ?_)
    · rw [if_pos (show ¬ bt (w :: x :: y :: z :: r) 1 = 1 by rw [e1]; exact h)]
    rw [if_neg (show ¬ ¬ bt (w :: x :: y :: z :: r) 1 = 1 by rw [e1]; exact fun c => c h1), if_pos ⟨by omega, by omega, hL⟩, zero_is (by simp), Option.bind_some]
    refine nb_step (fun h => ?_) (fun hzz => ?_)
    · rw [if_pos (show ¬ (bt (w :: x :: y :: z :: r) 2 = 0 ∧ bt (w :: x :: y :: z :: r) 3 = 0) by rw [e2, e3, ← hz]; dsimp only at h; rw [h]; simp)]
    rw [if_neg (show ¬ ¬ (bt (w :: x :: y :: z :: r) 2 = 0 ∧ bt (w :: x :: y :: z :: r) 3 = 0) by rw [e2, e3]; exact fun c => c (hz.1 hzz)), Int.tmod_eq_emod_of_nonneg (by omega)]
    refine ne_step (fun h => ?_) (fun h5 => ?_)
    · rw [if_pos (show ((L : Int) - 4) % 20 ≠ 0 by omega)]
    · rw [if_neg (show ¬ ((L : Int) - 4) % 20 ≠ 0 by omega)]
  refine ne_step (fun ha => ?_) (fun ha => tail (.inl ha))
  refine ne_step (fun hb => ?_) (fun ha2 => tail (.inr ha2))
  unfold headG
  rw [hLL, if_neg (show ¬ 65535 < L by omega), if_neg (show ¬ L < 4 by omega), if_pos (show ¬ (bt (w :: x :: y :: z :: r) 0 = 1 ∨ bt (w :: x :: y :: z :: r) 0 = 2) by rw [e0]; omega)]
def errN (e : EntN) : Int := if e.metric = 255 then (if e.tag = 0 ∧ e.family = 0 then 0 else 5) else if ¬ preB e.addr e.family = true then 7 else if e.metric < 1 ∨ 16 < e.metric then 6 else 0
def nextN (nx : Bs) (e : EntN) : Bs := if e.metric = 255 then (if linkB e.addr = true then e.addr else z16) else nx
def msgN (c : Int) (nx : Bs) (e : EntN) : Msg := S_api_Msg.mk 2 c 0 [] 0 0 e.addr e.family e.tag nx e.metric [] 0 0 0 0 0 0 0 [] [] [] 0 [] []
def outN (c : Int) (nx : Bs) (e : EntN) : List Msg := if e.metric = 255 then [] else [msgN c nx e]
structure EntKN (e : EntN) : Prop where
  addr : e.addr.length = 16
  tag : 0 ≤ e.tag ∧ e.tag < 65536
  fam : 0 ≤ e.family ∧ e.family < 256
  met : 0 ≤ e.metric ∧ e.metric < 256
theorem entN_ok {s : Bs} (h : s.length = 20) : EntKN (entN s) := by
  have h1 := bt_rng s 18
  have h2 := bt_rng s 19
  have h3 := num_rng (cut_ s 16 2)
  have hl : (cut_ s 16 2).length = 2 := by have := cut_length (s := s) (p := 16) (n := 2) (by omega) (by omega) (by omega); omega
  rw [hl] at h3
  exact ⟨by show (s.take 16).length = 16; rw [List.length_take]; omega, by show 0 ≤ num (cut_ s 16 2) ∧ num (cut_ s 16 2) < 65536; exact ⟨h3.1, by have := h3.2; omega⟩, h1, h2⟩
theorem or_zero {x y : Int} (hx : 0 ≤ x ∧ x < 65536) (hy : 0 ≤ y ∧ y < 256) : ibits .or .i64 x y = 0 ↔ (x = 0 ∧ y = 0) := by
  obtain ⟨a, rfl⟩ : ∃ a : Nat, x = a := ⟨x.toNat, by omega⟩
  obtain ⟨b, rfl⟩ : ∃ b : Nat, y = b := ⟨y.toNat, by omega⟩
  unfold ibits
  show IntKind.wrap .i64 (((BitVec.ofInt 64 (a : Int) ||| BitVec.ofInt 64 (b : Int)).toNat : Nat) : Int) = 0 ↔ _
  have h1 : a ||| b < 2 ^ 16 := Nat.or_lt_two_pow (by omega) (by omega)
  rw [BitVec.toNat_or, BitVec.ofInt_natCast, BitVec.ofInt_natCast, BitVec.toNat_ofNat, BitVec.toNat_ofNat, Nat.mod_eq_of_lt (by omega), Nat.mod_eq_of_lt (by omega), w64 (by omega) (by omega)]
  constructor
  · intro h
    have h0 : a ||| b = 0 := by omega
    rw [Nat.or_eq_zero_iff] at h0
    omega
  · intro h
    have e1 : a = 0 := by omega
    have e2 : b = 0 := by omega
    subst e1; subst e2; rfl
theorem nghop_is {c : Int} {nx : Bs} {out : List Msg} {e : EntN} (h : EntKN e) (hm : e.metric = 255) : g_ripng_reader_hop (⟨c, nx, out⟩, e, ()) = some ((errN e, ()), (⟨c, if errN e = 0 then nextN nx e else nx, out⟩, ())) := by
  rw [g_ripng_reader_hop_eq]
  have hz := or_zero h.tag h.fam
  unfold errN nextN
  rw [if_pos hm, if_pos hm]
  refine ne_step (fun q => ?_) (fun q => ?_)
  · rw [if_neg (fun c => q (hz.2 c))]; try rfl
  · rw [hz] at q
    rw [if_pos q, zeros16, Option.bind_some, link_is, Option.bind_some]
    dsimp only
    cases linkB e.addr <;> rfl
theorem ngentry_is {c : Int} {nx : Bs} {out : List Msg} {e : EntN} (h : EntKN e) (hr : out.length ≤ 10000) : g_ripng_reader_entry (⟨c, nx, out⟩, e, ()) = some ((errN e, ()), (⟨c, if errN e = 0 then nextN nx e else nx, if errN e = 0 then out ++ outN c nx e else out⟩, ())) := by
  rw [g_ripng_reader_entry_eq]
  refine bq_step (fun hm => ?_) (fun hm => ?_)
  · rw [nghop_is h hm, Option.bind_some]
    have : outN c nx e = [] := by unfold outN; rw [if_pos hm]
    rw [this, List.append_nil, ite_self]
  · have hn : nextN nx e = nx := by unfold nextN; rw [if_neg hm]
    have ho : outN c nx e = [msgN c nx e] := by unfold outN; rw [if_neg hm]
    rw [hn, ho, ite_self]
    have hf : IntKind.has .i64 e.family := has64.2 (by have := h.fam; omega)
    rw [pright16_is h.addr hf, Option.bind_some]
    unfold errN
    rw [if_neg hm]
    refine nb_step (fun q => ?_) (fun q => ?_)
    · dsimp only at q
      rw [if_pos (show ¬ preB e.addr e.family = true by rw [q]; simp)]; try rfl
    · dsimp only at q
      rw [if_neg (show ¬ ¬ preB e.addr e.family = true by rw [q]; simp)]
      refine dq_step (fun q1 => ?_) (fun q1 => ?_)
      · rw [if_pos (show e.metric < 1 ∨ 16 < e.metric from .inl q1)]; try rfl
      refine dq_step (fun q2 => ?_) (fun q2 => ?_)
      · rw [if_pos (show e.metric < 1 ∨ 16 < e.metric from .inr q2)]; try rfl
      rw [if_neg (show ¬ (e.metric < 1 ∨ 16 < e.metric) by omega)]
      show (if roomB ((out.length + [msgN c nx e].length) * bo_api_Msg) = true then some ((0, ()), ((S_ripng_reader.mk c nx (out ++ [msgN c nx e])), ())) else none) = _
      rw [if_pos (roomB_of (Nat.le_trans (Nat.mul_le_mul (show out.length + [msgN c nx e].length ≤ 10001 by simp; omega) msgBo) (by decide)))]
      rfl
def goN (c : Int) (b : Bs) : Nat → Nat → Bs → List Msg → List Msg × Int × Int
  | 0, _, _, acc => if acc = [] then ([], b.length, 8) else (acc, 0, 0)
  | k + 1, p, nx, acc => if errN (entN (cut_ b p 20)) ≠ 0 then ([], (p : Int), errN (entN (cut_ b p 20))) else goN c b k (p + 20) (nextN nx (entN (cut_ b p 20))) (acc ++ outN c nx (entN (cut_ b p 20)))
theorem outN_len (c : Int) (nx : Bs) (e : EntN) : (outN c nx e).length ≤ 1 := by unfold outN; split <;> simp
theorem ngparse_loop {n : Nat} {b : Bs} {c : Int} (hb : b.length ≤ 65535) : ∀ (k m p : Nat) (nx : Bs) (acc : List Msg), p + 20 * k = b.length → k < m → acc.length + k ≤ 10000 →
    L_ripng_Parse_0 n m b p c nx acc = some (trip (goN c b k p nx acc), ()) := by
  intro k
  induction k with
  | zero =>
    intro m p nx acc h hm ha
    obtain ⟨m, rfl⟩ : ∃ k, m = k + 1 := ⟨m - 1, by omega⟩
    rw [L_ripng_Parse_0_eq, ifn (by omega), goN]
    refine bq_step (fun q => ?_) (fun q => ?_)
    · rw [if_pos ((len_nil acc).1 q)]; try rfl
    · rw [if_neg (fun q' => q ((len_nil acc).2 q'))]; try rfl
  | succ k ih =>
    intro m p nx acc h hm ha
    obtain ⟨m, rfl⟩ : ∃ k, m = k + 1 := ⟨m - 1, by omega⟩
    have hl : (cut_ b p 20).length = 20 := cut_len (n := 20) (by omega)
    have hol := outN_len c nx (entN (cut_ b p 20))
    rw [L_ripng_Parse_0_eq, ifd (by omega), w64 (by omega) (by omega), if_pos (by omega), show (List.take ((p : Int) + 20).toNat b).drop ((p : Int)).toNat = cut_ b p 20 from rfl, rteget_is hl, Option.bind_some]
    dsimp only
    rw [ngentry_is (entN_ok hl) (by omega), Option.bind_some, goN]
    refine ne_step (fun he => ?_) (fun he => ?_)
    · rw [if_pos he]; try rfl
    · dsimp only at he
      have := ih m (p + 20) (nextN nx (entN (cut_ b p 20))) (acc ++ outN c nx (entN (cut_ b p 20))) (by omega) (by omega) (by rw [List.length_append]; omega)
      rw [show ((p + 20 : Nat) : Int) = (p : Int) + 20 by omega] at this
      rw [if_neg (show ¬ errN (entN (cut_ b p 20)) ≠ 0 by omega), ← this]
      dsimp only
      rw [if_pos he, if_pos he]
noncomputable def parseN (b : Bs) : List Msg × Int × Int := if (headG b).2 ≠ 0 then ([], headG b) else goN (bt b 0) b ((b.length - 4) / 20) 4 z16 []
theorem ngparse_is {b : Bs} (hb : b.length ≤ 1000000000) : g_ripng_Parse (b, ()) = some (trip (parseN b), ()) := by
  show h_ripng_Parse fuel _ = _
  rw [h_ripng_Parse_eq, nghead_is hb, Option.bind_some]
  unfold parseN
  refine ne_step (fun h => ?_) (fun h => ?_)
  · rw [if_pos h]; try rfl
  · dsimp only at h
    obtain ⟨h1, h2, h3, h4, h5, h6, h7⟩ := headG_ok h
    rw [if_neg (show ¬ (headG b).2 ≠ 0 by omega), get_bt (i := 0) (by omega), Option.bind_some, zeros16, Option.bind_some, w64n]
    exact ngparse_loop (n := fuel) h2 ((b.length - 4) / 20) fuel 4 z16 [] (by omega) (fuel_ge (by omega)) (by simp; omega)
theorem rngparse_loop {n : Nat} {b : Bs} (h4 : 1 ≤ b.length) (hb : b.length ≤ 65535) : ∀ (k m p : Nat) (nx : Bs) (acc : List Msg), p + 20 * k = b.length → k < m → acc.length + k ≤ 10000 →
    L_ref12_Parse_0 n m b acc nx p = some (trip (goN (bt b 0) b k p nx acc), ()) := by
  intro k
  induction k with
  | zero =>
    intro m p nx acc h hm ha
    obtain ⟨m, rfl⟩ : ∃ k, m = k + 1 := ⟨m - 1, by omega⟩
    rw [L_ref12_Parse_0_eq, ifn (by omega), goN]
    refine bq_step (fun q => ?_) (fun q => ?_)
    · rw [if_pos ((len_nil acc).1 q)]; try rfl
    · rw [if_neg (fun q' => q ((len_nil acc).2 q'))]; try rfl
  | succ k ih =>
    intro m p nx acc h hm ha
    obtain ⟨m, rfl⟩ : ∃ k, m = k + 1 := ⟨m - 1, by omega⟩
    have hl : (cut_ b p 20).length = 20 := cut_len (n := 20) (by omega)
    have hol := outN_len (bt b 0) nx (entN (cut_ b p 20))
    have hok := entN_ok hl
    have go := ih m (p + 20) (nextN nx (entN (cut_ b p 20))) (acc ++ outN (bt b 0) nx (entN (cut_ b p 20))) (by omega) (by omega) (by rw [List.length_append]; omega)
    rw [show ((p + 20 : Nat) : Int) = (p : Int) + 20 by omega] at go
    rw [L_ref12_Parse_0_eq, ifd (by omega), w64 (by omega) (by omega), if_pos (by omega), show (List.take ((p : Int) + 20).toNat b).drop ((p : Int)).toNat = cut_ b p 20 from rfl, rget11_is hl, Option.bind_some]
    generalize hE : entN (cut_ b p 20) = e at *
    rw [goN, hE]
    refine bq_step (fun hm => ?_) (fun hm => ?_)
    · have ho : outN (bt b 0) nx e = [] := by unfold outN; rw [if_pos hm]
      refine ne_step (fun q => ?_) (fun q => ?_)
      · have : errN e = 5 := by unfold errN; rw [if_pos hm, if_neg (fun c => q c.1)]
        rw [this, if_pos (by decide)]; try rfl
      refine ne_step (fun q2 => ?_) (fun q2 => ?_)
      · have : errN e = 5 := by unfold errN; rw [if_pos hm, if_neg (fun c => q2 c.2)]
        rw [this, if_pos (by decide)]; try rfl
      have : errN e = 0 := by unfold errN; rw [if_pos hm, if_pos ⟨q, q2⟩]
      rw [this, if_neg (by decide), none12_is, Option.bind_some, rlink_is, Option.bind_some, ← go, ho, List.append_nil]
      dsimp only
      unfold nextN
      rw [if_pos hm]
      cases linkB e.addr <;> rfl
    · have hn : nextN nx e = nx := by unfold nextN; rw [if_neg hm]
      have ho : outN (bt b 0) nx e = [msgN (bt b 0) nx e] := by unfold outN; rw [if_neg hm]
      rw [hn, ho] at go
      rw [hn, ho, rright16_is hok.addr, Option.bind_some]
      refine nb_step (fun q => ?_) (fun q => ?_)
      · dsimp only at q
        have : errN e = 7 := by unfold errN; rw [if_neg hm, if_pos (by rw [q]; simp)]
        rw [this, if_pos (by decide)]; try rfl
      dsimp only at q
      refine dq_step (fun q1 => ?_) (fun q1 => ?_)
      · have : errN e = 6 := by unfold errN; rw [if_neg hm, if_neg (by rw [q]; simp), if_pos (.inl q1)]
        rw [this, if_pos (by decide)]; try rfl
      refine dq_step (fun q2 => ?_) (fun q2 => ?_)
      · have : errN e = 6 := by unfold errN; rw [if_neg hm, if_neg (by rw [q]; simp), if_pos (.inr q2)]
        rw [this, if_pos (by decide)]; try rfl
      have : errN e = 0 := by unfold errN; rw [if_neg hm, if_neg (by rw [q]; simp), if_neg (by dsimp only at q1 q2; omega)]
      rw [this, if_neg (by decide), get_bt (i := 0) (by omega), Option.bind_some, w64n, ← go]
      show (if roomB ((acc.length + [msgN (bt b 0) nx e].length) * bo_api_Msg) = true then L_ref12_Parse_0 n m b (acc ++ [msgN (bt b 0) nx e]) nx ((p : Int) + 20) else none) = _
      rw [if_pos (roomB_of (Nat.le_trans (Nat.mul_le_mul (show acc.length + [msgN (bt b 0) nx e].length ≤ 10001 by simp; omega) msgBo) (by decide)))]
theorem rngparse_is {b : Bs} (hb : b.length ≤ 1000000000) : g_ref12_Parse (b, ()) = some (trip (parseN b), ()) := by
  show h_ref12_Parse fuel _ = _
  rw [h_ref12_Parse_eq]
  unfold parseN
  have bad : ∀ x : Int × Int, headG b = x → x.2 ≠ 0 → (some (([], x.1, x.2, ()), ()) : Option ((List Msg × Int × Int × Unit) × Unit)) = some (trip (if (headG b).2 ≠ 0 then ([], headG b) else goN (bt b 0) b ((b.length - 4) / 20) 4 z16 []), ()) := fun x h h2 => by
    rw [h, if_pos h2]; try rfl
  refine dq_step (fun h => bad (65535, 10) (by unfold headG; rw [if_pos (by omega)]) (by decide)) (fun hl => ?_)
  refine dq_step (fun h => bad (b.length, 2) (by unfold headG; rw [if_neg (by omega), if_pos (by omega)]) (by dsimp only; decide)) (fun h4 => ?_)
  rw [get_bt (i := 0) (by omega), Option.bind_some, Option.bind_some, get_bt (i := 1) (by omega), Option.bind_some, get_bt (i := 2) (by omega), Option.bind_some, get_bt (i := 3) (by omega), Option.bind_some]
  have b0 : ¬ (bt b 0 = 1 ∨ bt b 0 = 2) → headG b = (0, 4) := fun h => by unfold headG; rw [if_neg (by omega), if_neg (by omega), if_pos h]
  have hr := bt_rng b 0
  refine dq_step (fun h => bad (0, 4) (b0 (by change bt b 0 < 1 at h; omega)) (by decide)) (fun h0 => ?_)
  refine dq_step (fun h => bad (0, 4) (b0 (by change 2 < bt b 0 at h; omega)) (by decide)) (fun h0' => ?_)
  have g0 : bt b 0 = 1 ∨ bt b 0 = 2 := by change ¬ bt b 0 < 1 at h0; change ¬ 2 < bt b 0 at h0'; omega
  refine ne_step (fun h => bad (1, 4) (by unfold headG; rw [if_neg (by omega), if_neg (by omega), if_neg (fun c => c g0), if_pos (show ¬ bt b 1 = 1 from h)]) (by decide)) (fun h1 => ?_)
  change bt b 1 = 1 at h1
  refine ne_step (fun h => bad (2, 5) (by unfold headG; rw [if_neg (by omega), if_neg (by omega), if_neg (fun c => c g0), if_neg (fun c => c h1), if_pos (fun c => h c.1)]) (by decide)) (fun h2 => ?_)
  change bt b 2 = 0 at h2
  refine ne_step (fun h => bad (2, 5) (by unfold headG; rw [if_neg (by omega), if_neg (by omega), if_neg (fun c => c g0), if_neg (fun c => c h1), if_pos (fun c => h c.2)]) (by decide)) (fun h3 => ?_)
  change bt b 3 = 0 at h3
  rw [w64 (by omega) (by omega), Int.tmod_eq_emod_of_nonneg (by omega)]
  have hd : headG b = (if ((b.length : Int) - 4) % 20 ≠ 0 then ((b.length : Int), 2) else (0, 0)) := by
    unfold headG; rw [if_neg (by omega), if_neg (by omega), if_neg (fun c => c g0), if_neg (fun c => c h1), if_neg (fun c => c ⟨h2, h3⟩)]
  refine ne_step (fun h => bad (b.length, 2) (by rw [hd, if_pos h]) (by dsimp only; decide)) (fun h5 => ?_)
  rw [hd, if_neg (show ¬ ((b.length : Int) - 4) % 20 ≠ 0 by omega), if_neg (by decide), none12_is, Option.bind_some]
  exact rngparse_loop (n := fuel) (by omega) (by omega) ((b.length - 4) / 20) fuel 4 z16 [] (by omega) (fuel_ge (by omega)) (by simp; omega)
end Go.VP
set_option linter.unusedVariables false
set_option linter.unusedSimpArgs false
set_option maxRecDepth 100000
namespace Go.VP
open Go Go.VI
def hopL (nx : Bs) (m : Msg) : Bs := if m.next = nx then [] else entG m.next 0 0 255
def lineN (nx : Bs) (m : Msg) : Bs := hopL nx m ++ entG m.prefix_ m.tag m.plen m.metric
theorem lineN_len {nx : Bs} {m : Msg} (h : NgR m) : (lineN nx m).length = if m.next = nx then 20 else 40 := by
  unfold lineN hopL
  split <;> simp [entG_len h.len, entG_len h.next16]
def encN (c : Int) : List Msg → Nat → Bs → Bs → Bs × Int × Int
  | [], _, acc, _ => (acc, 0, 0)
  | m :: r, i, acc, nx => if m.cmd ≠ c then ([], (i : Int), 7) else if 65535 < (acc ++ lineN nx m).length then ([], (i : Int), 10) else encN c r (i + 1) (acc ++ lineN nx m) m.next
def badP (f : Msg → Bool) : List Msg → Nat → Option Nat
  | [], _ => none
  | m :: r, i => if f m = true then badP f r (i + 1) else some i
theorem badP_ok {f : Msg → Bool} : ∀ {l : List Msg} {i : Nat}, (∀ m ∈ l, f m = true) → badP f l i = none
  | [], _, _ => rfl
  | x :: r, i, h => by
    unfold badP; rw [if_pos (h x (by simp))]; exact badP_ok (fun m hm => h m (by simp [hm]))
noncomputable def encNg (l : List Msg) : Bs × Int × Int := match badP ngB l 0 with
  | some i => ([], (i : Int), 1)
  | none => match l with
    | [] => ([], 0, 8)
    | f :: _ => encN f.cmd l 0 [u8of f.cmd, 1, 0, 0] z16
end Go.VP
set_option linter.unusedVariables false
set_option linter.unusedSimpArgs false
set_option maxRecDepth 100000
namespace Go.VP
open Go Go.VI
def entM2 (m : Msg) : EntN := ⟨m.plen, m.tag, m.prefix_, [], [], m.metric⟩
theorem NgR.is {m : Msg} (h : NgR m) : m = msgN m.cmd m.next (entM2 m) := by
  have hb := h.bare
  unfold bareB bareOf at hb
  rw [if_neg (by have := h.kind; omega), if_pos h.kind] at hb
  have := (eqB_true.1 hb).symm
  rw [h.kind] at this
  exact this
theorem msgN_ok {c : Int} {nx : Bs} {e : EntN} (hc : c = 1 ∨ c = 2) (hn : nx = z16 ∨ linkB nx = true) (he : EntKN e) (h0 : errN e = 0) (hm : e.metric ≠ 255) : NgR (msgN c nx e) := by
  unfold errN at h0
  rw [if_neg hm] at h0
  by_cases hp : preB e.addr e.family = true
  · rw [if_neg (fun c => c hp)] at h0
    by_cases hq : e.metric < 1 ∨ 16 < e.metric
    · rw [if_pos hq] at h0; omega
    · refine ⟨rfl, ?_, hc, he.tag, ?_, he.addr, hp, hn⟩
      · unfold bareB bareOf
        rw [if_neg (show ¬ ((msgN c nx e).kind = 1) from fun q => absurd (show (2 : Int) = 1 from q) (by decide)), if_pos (show (msgN c nx e).kind = 2 from rfl)]
        exact eqB_refl _
      · show 1 ≤ e.metric ∧ e.metric ≤ 16
        omega
  · rw [if_pos hp] at h0; omega
def linesN : Bs → List Msg → Bs
  | _, [] => []
  | nx, m :: r => lineN nx m ++ linesN m.next r
theorem encN_fine {c : Int} : ∀ {l : List Msg} {i : Nat} {acc nx : Bs}, (∀ m ∈ l, m.cmd = c) → (acc ++ linesN nx l).length ≤ 65535 → encN c l i acc nx = (acc ++ linesN nx l, 0, 0)
  | [], i, acc, nx, _, _ => by simp [encN, linesN]
  | m :: r, i, acc, nx, h, hl => by
    unfold linesN at hl ⊢
    rw [← List.append_assoc] at hl ⊢
    unfold encN
    rw [if_neg (fun q => q (h m (List.mem_cons_self ..))), if_neg (by rw [List.length_append] at hl; omega)]
    exact encN_fine (fun x hx => h x (List.mem_cons_of_mem _ hx)) hl
theorem ng_is {f : Msg} {r : List Msg} (h : ∀ m ∈ f :: r, NgR m) : encNg (f :: r) = encN f.cmd (f :: r) 0 [u8of f.cmd, 1, 0, 0] z16 := by
  unfold encNg
  rw [badP_ok fun m hm => ngR_iff.2 (h m hm)]
theorem goN_err {c : Int} {b : Bs} : ∀ {k p : Nat} {nx : Bs} {acc : List Msg}, p + 20 * k = b.length → (goN c b k p nx acc).2.2 ≠ 0 → (goN c b k p nx acc).1 = [] ∧ 0 ≤ (goN c b k p nx acc).2.1 ∧ (goN c b k p nx acc).2.1 ≤ b.length
  | 0, p, nx, acc, hk, h => by
    unfold goN at h ⊢
    by_cases q : acc = []
    · rw [if_pos q]; simp
    · rw [if_neg q] at h; exact absurd rfl h
  | k + 1, p, nx, acc, hk, h => by
    unfold goN at h ⊢
    by_cases q : errN (entN (cut_ b p 20)) ≠ 0
    · rw [if_pos q]; simp; omega
    · rw [if_neg q] at h ⊢
      exact goN_err (by omega) h
theorem ng_parseerr {b : Bs} (h : (parseN b).2.2 ≠ 0) : (parseN b).1 = [] ∧ 0 ≤ (parseN b).2.1 ∧ (parseN b).2.1 ≤ b.length := by
  unfold parseN at h ⊢
  by_cases q : (headG b).2 ≠ 0
  · rw [if_pos q]; exact ⟨rfl, headG_place⟩
  · rw [if_neg q] at h ⊢
    obtain ⟨h1, h2, _, _, _, _, h7⟩ := headG_ok (Classical.byContradiction q)
    exact goN_err (by omega) h
theorem goN_ok {c : Int} {b : Bs} (hc : c = 1 ∨ c = 2) : ∀ {k p : Nat} {nx : Bs} {acc : List Msg}, p + 20 * k = b.length → (nx = z16 ∨ linkB nx = true) → (goN c b k p nx acc).2.2 = 0 → (goN c b k p nx acc).2.1 = 0 ∧ ∃ l, (goN c b k p nx acc).1 = acc ++ l ∧ acc ++ l ≠ [] ∧ (∀ m ∈ l, NgR m ∧ m.cmd = c) ∧ l.length ≤ k ∧
    ∀ nx', (linesN nx' l).length ≤ 20 * k + if nx' = nx then 0 else 20
  | 0, p, nx, acc, hk, hn, h => by
    unfold goN at h ⊢
    by_cases q : acc = []
    · rw [if_pos q] at h; cases h
    · rw [if_neg q]; exact ⟨rfl, [], by simp, by simpa using q, (fun m hm => by cases hm), Nat.le_refl _, fun nx' => by simp [linesN]⟩
  | k + 1, p, nx, acc, hk, hn, h => by
    unfold goN at h ⊢
    by_cases q : errN (entN (cut_ b p 20)) ≠ 0
    · rw [if_pos q] at h; exact absurd h q
    · rw [if_neg q] at h ⊢
      have q0 : errN (entN (cut_ b p 20)) = 0 := Classical.byContradiction q
      have hl : (cut_ b p 20).length = 20 := cut_len (n := 20) (by omega)
      have he := entN_ok hl
      generalize entN (cut_ b p 20) = e at *
      by_cases hm : e.metric = 255
      · have ho : outN c nx e = [] := by unfold outN; rw [if_pos hm]
        have hn' : nextN nx e = z16 ∨ linkB (nextN nx e) = true := by
          unfold nextN
          rw [if_pos hm]
          split
          · exact .inr (by assumption)
          · exact .inl rfl
        rw [ho, List.append_nil] at h ⊢
        obtain ⟨k0, l, k1, k2, k3, k4, k5⟩ := goN_ok hc (by omega) hn' h
        refine ⟨k0, l, k1, k2, k3, by omega, fun nx' => ?_⟩
        have := k5 nx'
        split at this <;> split <;> omega
      · have ho : outN c nx e = [msgN c nx e] := by unfold outN; rw [if_neg hm]
        have hnn : nextN nx e = nx := by unfold nextN; rw [if_neg hm]
        rw [ho, hnn] at h ⊢
        obtain ⟨k0, l, k1, k2, k3, k4, k5⟩ := goN_ok hc (by omega) hn h
        have hr := msgN_ok hc hn he q0 hm
        refine ⟨k0, msgN c nx e :: l, by rw [k1]; simp, by simp, fun m hmm => ?_, by simp; omega, fun nx' => ?_⟩
        · rcases List.mem_cons.1 hmm with rfl | hmm
          · exact ⟨hr, rfl⟩
          · exact k3 m hmm
        · have h1 := k5 nx
          rw [if_pos rfl] at h1
          have h2 := lineN_len (nx := nx') hr
          have e1 : (msgN c nx e).next = nx := rfl
          unfold linesN
          rw [List.length_append, h2, e1]
          by_cases q3 : nx' = nx
          · rw [if_pos q3.symm, if_pos q3]; omega
          · rw [if_neg (fun q => q3 q.symm), if_neg q3]; omega
theorem ng_again {b : Bs} (h : (parseN b).2.2 = 0) : (parseN b).2.1 = 0 ∧ (∀ m ∈ (parseN b).1, NgR m) ∧ (parseN b).1 ≠ [] ∧ (parseN b).1.length ≤ 3277 ∧ (encNg (parseN b).1).2.2 = 0 ∧ (encNg (parseN b).1).1.length ≤ b.length := by
  unfold parseN at h ⊢
  by_cases q : (headG b).2 ≠ 0
  · rw [if_pos q] at h; exact absurd h q
  · rw [if_neg q] at h ⊢
    obtain ⟨h1, h2, h3, _, _, _, h7⟩ := headG_ok (Classical.byContradiction q)
    obtain ⟨k0, l, k1, k2, k3, k4, k5⟩ := goN_ok h3 (by omega) (.inl rfl) h
    rw [List.nil_append] at k1 k2
    rw [k1]
    have hr : ∀ m ∈ l, NgR m := fun m hm => (k3 m hm).1
    have := k5 z16
    rw [if_pos rfl] at this
    refine ⟨k0, hr, k2, by omega, ?_⟩
    cases l with
    | nil => exact absurd rfl k2
    | cons f r =>
      have hf := (k3 f (by simp)).2
      rw [ng_is hr, encN_fine (fun m hm => by rw [(k3 m hm).2, hf]) (by rw [List.length_append]; simp; omega)]
      exact ⟨rfl, by rw [List.length_append]; simp; omega⟩
end Go.VP
set_option linter.unusedVariables false
set_option linter.unusedSimpArgs false
set_option maxRecDepth 100000
namespace Go.VP
open Go Go.VI
def W32 (n : Int) : Prop := 0 ≤ n ∧ n < 4294967296
def W8 (n : Int) : Prop := 0 ≤ n ∧ n < 256
theorem fitsB4 {n : Int} : fitsB n 4 = true ↔ W32 n := by simp [fitsB, W32]
structure RqR (m : Msg) : Prop where
  kind : m.kind = 3
  bare : bareB m = true
  flags : 0 ≤ m.flags ∧ m.flags ≤ 31
  addr : m.addr.length = 4
  orig : m.orig.length = 4
  nonce : W32 m.nonce
  seq : W32 m.seq
  seq2 : W32 m.seq2
  hops : W8 m.hops
  subs : extB m.subs = true
structure RpR (m : Msg) : Prop where
  kind : m.kind = 4
  bare : bareB m = true
  flags : 0 ≤ m.flags ∧ m.flags ≤ 3
  plen : 0 ≤ m.plen ∧ m.plen ≤ 31
  addr : m.addr.length = 4
  orig : m.orig.length = 4
  seq : W32 m.seq
  life : W32 m.interval
  hops : W8 m.hops
  subs : extB m.subs = true
structure AkR (m : Msg) : Prop where
  kind : m.kind = 6
  bare : bareB m = true
  subs : extB m.subs = true
def destB (d : Dest) : Bool := decide (d.addr.length = 4) && fitsB d.seq 4
structure ReR (m : Msg) : Prop where
  kind : m.kind = 5
  bare : bareB m = true
  flags : m.flags = 0 ∨ m.flags = 1
  len : 1 ≤ m.list.length ∧ m.list.length ≤ 255
  list : m.list.all destB = true
  subs : extB m.subs = true
open Classical in
noncomputable def rqB (m : Msg) : Bool := decide (RqR m)
open Classical in
noncomputable def rpB (m : Msg) : Bool := decide (RpR m ∨ AkR m)
open Classical in
noncomputable def reB (m : Msg) : Bool := decide (ReR m)
theorem rqB_iff {m : Msg} : rqB m = true ↔ RqR m := by simp [rqB]
theorem rpB_iff {m : Msg} : rpB m = true ↔ (RpR m ∨ AkR m) := by simp [rpB]
theorem reB_iff {m : Msg} : reB m = true ↔ ReR m := by simp [reB]
structure GoodV (m : Msg) : Prop where
  nonce : IntKind.has .i64 m.nonce
  seq : IntKind.has .i64 m.seq
  seq2 : IntKind.has .i64 m.seq2
  hops : IntKind.has .i64 m.hops
  life : IntKind.has .i64 m.interval
  list : m.list.length ≤ 1000000
  ds : ∀ d ∈ m.list, IntKind.has .i64 d.seq
  subs : FewS m.subs
  subs1 : m.subs.length ≤ 1000000
end Go.VP
set_option linter.unusedVariables false
set_option linter.unusedSimpArgs false
set_option maxRecDepth 100000
namespace Go.VP
open Go Go.VI
def rqBytes (m : Msg) : Bs := [1, u8of (8 * m.flags), 0, u8of m.hops] ++ (be 4 m.nonce ++ (m.addr ++ (be 4 m.seq ++ (m.orig ++ (be 4 m.seq2 ++ encS m.subs)))))
def rpBytes (m : Msg) : Bs := [2, u8of (64 * m.flags), u8of m.plen, u8of m.hops] ++ (m.addr ++ (be 4 m.seq ++ (m.orig ++ (be 4 m.interval ++ encS m.subs))))
def akBytes (m : Msg) : Bs := [4, 0] ++ encS m.subs
def dests : List Dest → Bs
  | [] => []
  | d :: l => (d.addr ++ be 4 d.seq) ++ dests l
def reBytes (m : Msg) : Bs := [3, u8of (128 * m.flags), 0, u8of m.list.length] ++ (dests m.list ++ encS m.subs)
theorem W32.has {n : Int} (h : W32 n) : IntKind.has .i64 n := has64.2 ⟨by have := h.1; omega, by have := h.2; omega⟩
theorem destB_ok {d : Dest} (h : destB d = true) : d.addr.length = 4 ∧ W32 d.seq := by
  unfold destB at h
  simp only [Bool.and_eq_true, decide_eq_true_eq, fitsB4] at h
  exact h
end Go.VP
set_option linter.unusedVariables false
set_option linter.unusedSimpArgs false
set_option maxRecDepth 100000
namespace Go.VP
open Go Go.VI
def zM : Msg := S_api_Msg.mk 0 0 0 [] 0 0 [] 0 0 [] 0 [] 0 0 0 0 0 0 0 [] [] [] 0 [] []
theorem ib8_or {a b : Nat} (ha : a < 256) (hb : b < 256) : ibits .or .u8 (a : Int) (b : Int) = ((a ||| b : Nat) : Int) := by
  unfold ibits
  show IntKind.wrap .u8 (((BitVec.ofInt 8 (a : Int) ||| BitVec.ofInt 8 (b : Int)).toNat : Nat) : Int) = _
  have h : a ||| b < 256 := Nat.or_lt_two_pow (n := 8) ha hb
  rw [BitVec.toNat_or, BitVec.ofInt_natCast, BitVec.ofInt_natCast, BitVec.toNat_ofNat, BitVec.toNat_ofNat, Nat.mod_eq_of_lt ha, Nat.mod_eq_of_lt hb, wu8]
  omega
theorem andor {x y : Int} {k : Nat} (hk : k ≤ 8) (hx : 0 ≤ x ∧ x < 256) (hy : 0 ≤ y ∧ y < 256) : ibits .or .u8 (ibits .and .u8 x ((2 ^ k - 1 : Nat) : Int)) y = 0 ↔ (x % 2 ^ k = 0 ∧ y = 0) := by
  obtain ⟨a, rfl⟩ : ∃ a : Nat, x = a := ⟨x.toNat, by omega⟩
  obtain ⟨b, rfl⟩ : ∃ b : Nat, y = b := ⟨y.toNat, by omega⟩
  have hp : 2 ^ k ≤ 2 ^ 8 := Nat.pow_le_pow_right (by decide) hk
  have hp0 : 0 < 2 ^ k := Nat.pow_pos (by decide)
  have h1 := Nat.mod_lt a hp0
  rw [ib8_and (by omega) (by omega), Nat.and_two_pow_sub_one_eq_mod, ib8_or (by omega) (by omega)]
  have e : ((a : Int) % 2 ^ k) = ((a % 2 ^ k : Nat) : Int) := by simp
  rw [e]
  constructor
  · intro h
    have h0 : a % 2 ^ k ||| b = 0 := by omega
    rw [Nat.or_eq_zero_iff] at h0
    omega
  · intro h
    have e1 : a % 2 ^ k = 0 := by omega
    have e2 : b = 0 := by omega
    rw [e1, e2]; rfl
theorem and224 : ∀ y : Fin 256, (y.val &&& 224 = 0) ↔ y.val < 32 := by decide +kernel
theorem andor2 {x y : Int} (hx : 0 ≤ x ∧ x < 256) (hy : 0 ≤ y ∧ y < 256) : ibits .or .u8 (ibits .and .u8 x 63) (ibits .and .u8 y 224) = 0 ↔ (x % 64 = 0 ∧ y < 32) := by
  obtain ⟨b, rfl⟩ : ∃ b : Nat, y = b := ⟨y.toNat, by omega⟩
  have h2 : ibits .and .u8 (b : Int) 224 = ((b &&& 224 : Nat) : Int) := ib8_and (b := 224) (by omega) (by omega)
  have h3 : b &&& 224 ≤ b := Nat.and_le_left
  have := andor (x := x) (y := ((b &&& 224 : Nat) : Int)) (k := 6) (by omega) hx (by omega)
  rw [h2]
  have h4 := and224 ⟨b, by omega⟩
  dsimp only at h4
  rw [show ((2 ^ 6 - 1 : Nat) : Int) = 63 from rfl, show (2 : Int) ^ 6 = 64 from rfl] at this
  rw [this]
  omega
theorem shr_u8 {x : Int} {k : Nat} (hk : k ≤ 8) : ishr .u8 x (k : Int) = x / 2 ^ k := by
  unfold ishr
  rw [show min (k : Int).toNat IntKind.u8.bits = k by simp only [IntKind.bits]; omega]
  exact Int.fdiv_eq_ediv_of_nonneg _ (Int.pow_nonneg (by decide))
def rqMsg (b : Bs) : Msg := S_api_Msg.mk 3 0 0 [] 0 0 [] 0 0 [] 0 [] (num (cut_ b 12 4)) (num (cut_ b 20 4)) 0 (bt b 1 / 8) (bt b 3) (num (cut_ b 4 4)) 0 (cut_ b 8 4) (cut_ b 16 4) [] 0 [] (getE (b.drop 24)).1
def tailE (b : Bs) (p : Nat) (m : Msg) : Msg × Int × Int := if (getE (b.drop p)).2.2 ≠ 0 then (zM, p + (getE (b.drop p)).2.1, (getE (b.drop p)).2.2) else (m, 0, 0)
def rqGet (b : Bs) : Msg × Int × Int :=
  if b.length < 24 then (zM, b.length, 2) else if ¬ (bt b 1 % 8 = 0 ∧ bt b 2 = 0) then (zM, 1, 5) else tailE b 24 (rqMsg b)
theorem rqget_is {b : Bs} (hb : b.length ≤ 1000000) : g_rreq_Get (b, ()) = some (trip (rqGet b), ()) := by
  rw [g_rreq_Get_eq]
  unfold rqGet
  refine dq_step (fun h => by rw [if_pos (by omega)]; rfl) (fun h => ?_)
  have w0 : WfC b 0 b.length := .whole (by omega)
  have w1 := w0.fwd (n := 4) (by omega) (by omega)
  have w2 := w1.fwd (n := 4) (by omega) (by omega)
  have w3 := w2.fwd (n := 4) (by omega) (by omega)
  have w4 := w3.fwd (n := 4) (by omega) (by omega)
  have w5 := w4.fwd (n := 4) (by omega) (by omega)
  rw [if_neg (show ¬ b.length < 24 by omega), get_bt (i := 1) (by omega), get_bt (i := 2) (by omega), get_bt (i := 3) (by omega)]
  simp only [Option.bind_some]
  have e1 : (((b[1]?.getD 0).toNat : Nat) : Int) = bt b 1 := rfl
  have e2 : (((b[2]?.getD 0).toNat : Nat) : Int) = bt b 2 := rfl
  have e3 : (((b[3]?.getD 0).toNat : Nat) : Int) = bt b 3 := rfl
  rw [e1, e2, e3]
  have hx := bt_rng b 1
  have hy := bt_rng b 2
  have hz := bt_rng b 3
  have ao := andor (k := 3) (by omega) hx hy
  rw [show ((2 ^ 3 - 1 : Nat) : Int) = 7 from rfl, show (2 : Int) ^ 3 = 8 from rfl] at ao
  refine ne_step (fun q => ?_) (fun q => ?_)
  · rw [if_pos (fun c => q (ao.2 c))]; rfl
  rw [if_neg (show ¬ ¬ (bt b 1 % 8 = 0 ∧ bt b 2 = 0) from fun c => c (ao.1 q)), if_pos (by omega), eget_is (by rw [List.length_drop]; omega), Option.bind_some]
  have hp := getE_place (b.drop 24)
  rw [List.length_drop] at hp
  unfold tailE
  refine ne_step (fun q2 => ?_) (fun q2 => ?_)
  · rw [if_pos q2]
    dsimp only at q2 ⊢
    rw [w64 (by omega) (by omega), Int.add_comm]; rfl
  rw [if_neg (show ¬ (getE (b.drop 24)).2.2 ≠ 0 from fun c => c q2), new_is, Option.bind_some]
  dsimp only
  rw [text_ok w0 (by omega) (by omega), Option.bind_some]
  dsimp only
  rw [num_ok w1 (by omega) (by omega) (by omega), Option.bind_some]
  dsimp only
  rw [text_ok w2 (by omega) (by omega), Option.bind_some]
  dsimp only
  rw [num_ok w3 (by omega) (by omega) (by omega), Option.bind_some]
  dsimp only
  rw [text_ok w4 (by omega) (by omega), Option.bind_some]
  dsimp only
  rw [num_ok w5 (by omega) (by omega) (by omega), Option.bind_some]
  have hs := shr_u8 (x := bt b 1) (k := 3) (by omega)
  rw [show ((3 : Nat) : Int) = 3 from rfl, show (2 : Int) ^ 3 = 8 from rfl] at hs
  rw [hs, w64 (by omega) (by omega), w64 (by omega) (by omega)]
  rfl
theorem rrqget_is {b : Bs} (hb : b.length ≤ 1000000) : g_ref14_Get (b, ()) = some (trip (rqGet b), ()) := by
  rw [g_ref14_Get_eq]
  unfold rqGet
  refine dq_step (fun h => by rw [if_pos (by omega)]; rfl) (fun h => ?_)
  have nl : ∀ p : Int, 0 ≤ p → p + 4 ≤ b.length → g_ref08_Number (cut_ b p 4, ()) = some ((num (cut_ b p 4), ()), ()) := fun p h0 h1 => number_is (by have := cut_length (s := b) (p := p) (n := 4) h0 (by omega) h1; omega)
  rw [if_neg (show ¬ b.length < 24 by omega), get_bt (i := 1) (by omega), get_bt (i := 2) (by omega), get_bt (i := 3) (by omega)]
  simp only [Option.bind_some]
  have e1 : (((b[1]?.getD 0).toNat : Nat) : Int) = bt b 1 := rfl
  have e2 : (((b[2]?.getD 0).toNat : Nat) : Int) = bt b 2 := rfl
  have e3 : (((b[3]?.getD 0).toNat : Nat) : Int) = bt b 3 := rfl
  rw [e1, e2, e3]
  have hx := bt_rng b 1
  have hy := bt_rng b 2
  have hz := bt_rng b 3
  rw [Int.tmod_eq_emod_of_nonneg hx.1]
  refine ne_step (fun q => ?_) (fun q => ?_)
  · rw [if_pos (fun c => q c.1)]; rfl
  refine ne_step (fun q1 => ?_) (fun q1 => ?_)
  · rw [if_pos (fun c => q1 c.2)]; rfl
  rw [if_neg (show ¬ ¬ (bt b 1 % 8 = 0 ∧ bt b 2 = 0) from fun c => c ⟨q, q1⟩), if_pos (by omega), reget_is (by rw [List.length_drop]; omega), Option.bind_some]
  have hp := getE_place (b.drop 24)
  rw [List.length_drop] at hp
  unfold tailE
  refine ne_step (fun q2 => ?_) (fun q2 => ?_)
  · rw [if_pos q2]
    dsimp only at q2 ⊢
    rw [w64 (by omega) (by omega)]; rfl
  rw [if_neg (show ¬ (getE (b.drop 24)).2.2 ≠ 0 from fun c => c q2), if_pos (by omega), show (b.take 8).drop 4 = cut_ b 4 4 from rfl, nl 4 (by omega) (by omega), Option.bind_some, if_pos (by omega), if_pos (by omega), show (b.take 16).drop 12 = cut_ b 12 4 from rfl, nl 12 (by omega) (by omega), Option.bind_some, if_pos (by omega), if_pos (by omega), show (b.take 24).drop 20 = cut_ b 20 4 from rfl, nl 20 (by omega) (by omega), Option.bind_some, w64 (x := bt b 1) (by omega) (by omega), Int.tdiv_eq_ediv_of_nonneg hx.1, w64 (by omega) (by omega), w64 (by omega) (by omega)]
  rfl
def rpMsg (b : Bs) : Msg := S_api_Msg.mk 4 0 0 [] 0 0 [] (bt b 2) 0 [] 0 [] (num (cut_ b 8 4)) 0 (num (cut_ b 16 4)) (bt b 1 / 64) (bt b 3) 0 0 (cut_ b 4 4) (cut_ b 12 4) [] 0 [] (getE (b.drop 20)).1
def akMsg (b : Bs) : Msg := S_api_Msg.mk 6 0 0 [] 0 0 [] 0 0 [] 0 [] 0 0 0 0 0 0 0 [] [] [] 0 [] (getE (b.drop 2)).1
def rpGet (b : Bs) : Msg × Int × Int :=
  if bt b 0 = 4 then (if b.length < 2 then (zM, b.length, 2) else if ¬ bt b 1 = 0 then (zM, 1, 5) else tailE b 2 (akMsg b))
  else if b.length < 20 then (zM, b.length, 2) else if ¬ (bt b 1 % 64 = 0 ∧ bt b 2 < 32) then (zM, 1, 5) else tailE b 20 (rpMsg b)
theorem ack_is {b : Bs} (hb : b.length ≤ 1000000) : g_rrep_ack (b, ()) = some (trip (if b.length < 2 then (zM, (b.length : Int), (2 : Int)) else if ¬ bt b 1 = 0 then (zM, 1, 5) else tailE b 2 (akMsg b)), ()) := by
  rw [g_rrep_ack_eq]
  refine dq_step (fun h => by rw [if_pos (by omega)]; rfl) (fun h => ?_)
  rw [if_neg (show ¬ b.length < 2 by omega), get_bt (i := 1) (by omega), Option.bind_some]
  refine ne_step (fun q => ?_) (fun q => ?_)
  · rw [if_pos (show ¬ bt b 1 = 0 from q)]; rfl
  rw [if_neg (show ¬ ¬ bt b 1 = 0 from fun c => c q), if_pos (by omega), eget_is (by rw [List.length_drop]; omega), Option.bind_some]
  have hp := getE_place (b.drop 2)
  rw [List.length_drop] at hp
  unfold tailE
  refine ne_step (fun q2 => ?_) (fun q2 => ?_)
  · rw [if_pos q2]
    dsimp only at q2 ⊢
    rw [w64 (by omega) (by omega), Int.add_comm]; rfl
  · rw [if_neg (show ¬ (getE (b.drop 2)).2.2 ≠ 0 from fun c => c q2)]; rfl
theorem rpget_is {b : Bs} (h0 : 1 ≤ b.length) (hb : b.length ≤ 1000000) : g_rrep_Get (b, ()) = some (trip (rpGet b), ()) := by
  rw [g_rrep_Get_eq]
  unfold rpGet
  have hne : b ≠ [] := by intro q; rw [q] at h0; simp at h0
  rw [if_pos (by simp [hne]), get_bt (i := 0) (by omega), Option.bind_some]
  refine bq_step (fun q => ?_) (fun q => ?_)
  · rw [if_pos (show bt b 0 = 4 from q), ack_is hb]; rfl
  rw [if_neg (show ¬ bt b 0 = 4 from q)]
  refine dq_step (fun h => by rw [if_pos (by omega)]; rfl) (fun h => ?_)
  have w0 : WfC b 0 b.length := .whole (by omega)
  have w1 := w0.fwd (n := 4) (by omega) (by omega)
  have w2 := w1.fwd (n := 4) (by omega) (by omega)
  have w3 := w2.fwd (n := 4) (by omega) (by omega)
  have w4 := w3.fwd (n := 4) (by omega) (by omega)
  rw [if_neg (show ¬ b.length < 20 by omega), get_bt (i := 1) (by omega), get_bt (i := 2) (by omega), get_bt (i := 3) (by omega)]
  simp only [Option.bind_some]
  have e1 : (((b[1]?.getD 0).toNat : Nat) : Int) = bt b 1 := rfl
  have e2 : (((b[2]?.getD 0).toNat : Nat) : Int) = bt b 2 := rfl
  have e3 : (((b[3]?.getD 0).toNat : Nat) : Int) = bt b 3 := rfl
  rw [e1, e2, e3]
  have hx := bt_rng b 1
  have hy := bt_rng b 2
  have hz := bt_rng b 3
  have ao := andor2 hx hy
  refine ne_step (fun q => ?_) (fun q => ?_)
  · rw [if_pos (fun c => q (ao.2 c))]; rfl
  rw [if_neg (show ¬ ¬ (bt b 1 % 64 = 0 ∧ bt b 2 < 32) from fun c => c (ao.1 q)), if_pos (by omega), eget_is (by rw [List.length_drop]; omega), Option.bind_some]
  have hp := getE_place (b.drop 20)
  rw [List.length_drop] at hp
  unfold tailE
  refine ne_step (fun q2 => ?_) (fun q2 => ?_)
  · rw [if_pos q2]
    dsimp only at q2 ⊢
    rw [w64 (by omega) (by omega), Int.add_comm]; rfl
  rw [if_neg (show ¬ (getE (b.drop 20)).2.2 ≠ 0 from fun c => c q2), new_is, Option.bind_some]
  dsimp only
  rw [text_ok w0 (by omega) (by omega), Option.bind_some]
  dsimp only
  rw [text_ok w1 (by omega) (by omega), Option.bind_some]
  dsimp only
  rw [num_ok w2 (by omega) (by omega) (by omega), Option.bind_some]
  dsimp only
  rw [text_ok w3 (by omega) (by omega), Option.bind_some]
  dsimp only
  rw [num_ok w4 (by omega) (by omega) (by omega), Option.bind_some]
  have hs := shr_u8 (x := bt b 1) (k := 6) (by omega)
  rw [show ((6 : Nat) : Int) = 6 from rfl, show (2 : Int) ^ 6 = 64 from rfl] at hs
  rw [hs, w64 (by omega) (by omega), w64 (by omega) (by omega), w64 (by omega) (by omega)]
  rfl
theorem rrpget_is {b : Bs} (h0 : 1 ≤ b.length) (hb : b.length ≤ 1000000) : g_ref15_Get (b, ()) = some (trip (rpGet b), ()) := by
  rw [g_ref15_Get_eq]
  unfold rpGet
  have nl : ∀ p : Int, 0 ≤ p → p + 4 ≤ b.length → g_ref08_Number (cut_ b p 4, ()) = some ((num (cut_ b p 4), ()), ()) := fun p h0 h1 => number_is (by have := cut_length (s := b) (p := p) (n := 4) h0 (by omega) h1; omega)
  rw [ifd (by omega), get_bt (i := 0) (by omega), Option.bind_some]
  refine bq_step (fun q => ?_) (fun q => ?_)
  · rw [if_pos (show bt b 0 = 4 from q)]
    refine dq_step (fun h => by rw [if_pos (by omega)]; rfl) (fun h => ?_)
    rw [if_neg (show ¬ b.length < 2 by omega), get_bt (i := 1) (by omega), Option.bind_some]
    refine ne_step (fun q => ?_) (fun q => ?_)
    · rw [if_pos (show ¬ bt b 1 = 0 from q)]; rfl
    rw [if_neg (show ¬ ¬ bt b 1 = 0 from fun c => c q), if_pos (by omega), reget_is (by rw [List.length_drop]; omega), Option.bind_some]
    have hp := getE_place (b.drop 2)
    rw [List.length_drop] at hp
    unfold tailE
    refine ne_step (fun q2 => ?_) (fun q2 => ?_)
    · rw [if_pos q2]
      dsimp only at q2 ⊢
      rw [w64 (by omega) (by omega)]; rfl
    · rw [if_neg (show ¬ (getE (b.drop 2)).2.2 ≠ 0 from fun c => c q2)]; rfl
  rw [if_neg (show ¬ bt b 0 = 4 from q)]
  refine dq_step (fun h => by rw [if_pos (by omega)]; rfl) (fun h => ?_)
  rw [if_neg (show ¬ b.length < 20 by omega), get_bt (i := 1) (by omega), get_bt (i := 2) (by omega), get_bt (i := 3) (by omega)]
  simp only [Option.bind_some]
  have e1 : (((b[1]?.getD 0).toNat : Nat) : Int) = bt b 1 := rfl
  have e2 : (((b[2]?.getD 0).toNat : Nat) : Int) = bt b 2 := rfl
  have e3 : (((b[3]?.getD 0).toNat : Nat) : Int) = bt b 3 := rfl
  rw [e1, e2, e3]
  have hx := bt_rng b 1
  have hy := bt_rng b 2
  have hz := bt_rng b 3
  rw [Int.tmod_eq_emod_of_nonneg hx.1]
  refine ne_step (fun q => ?_) (fun q => ?_)
  · rw [if_pos (fun c => q c.1)]; rfl
  refine dq_step (fun q1 => ?_) (fun q1 => ?_)
  · rw [if_pos (fun c => by have := c.2; omega)]; rfl
  rw [if_neg (show ¬ ¬ (bt b 1 % 64 = 0 ∧ bt b 2 < 32) from fun c => c ⟨q, by omega⟩), if_pos (by omega), reget_is (by rw [List.length_drop]; omega), Option.bind_some]
  have hp := getE_place (b.drop 20)
  rw [List.length_drop] at hp
  unfold tailE
  refine ne_step (fun q2 => ?_) (fun q2 => ?_)
  · rw [if_pos q2]
    dsimp only at q2 ⊢
    rw [w64 (by omega) (by omega)]; rfl
  rw [if_neg (show ¬ (getE (b.drop 20)).2.2 ≠ 0 from fun c => c q2), if_pos (by omega), if_pos (by omega), show (b.take 12).drop 8 = cut_ b 8 4 from rfl, nl 8 (by omega) (by omega), Option.bind_some, if_pos (by omega), if_pos (by omega), show (b.take 20).drop 16 = cut_ b 16 4 from rfl, nl 16 (by omega) (by omega), Option.bind_some, w64 (x := bt b 1) (by omega) (by omega), Int.tdiv_eq_ediv_of_nonneg hx.1, w64 (by omega) (by omega), w64 (by omega) (by omega), w64 (by omega) (by omega)]
  rfl
end Go.VP
set_option linter.unusedVariables false
set_option linter.unusedSimpArgs false
set_option maxRecDepth 100000
namespace Go.VP
open Go Go.VI
def destG (b : Bs) : Nat → Nat → List Dest
  | 0, _ => []
  | k + 1, p => ⟨cut_ b p 4, num (cut_ b ((p : Int) + 4) 4)⟩ :: destG b k (p + 8)
def reMsg (b : Bs) : Msg := S_api_Msg.mk 5 0 0 [] 0 0 [] 0 0 [] 0 [] 0 0 0 (bt b 1 / 128) 0 0 0 [] [] (destG b (bt b 3).toNat 4) 0 [] (getE (b.drop (4 + 8 * (bt b 3).toNat))).1
def reGet (b : Bs) : Msg × Int × Int :=
  if b.length < 4 then (zM, b.length, 2) else if ¬ (bt b 1 % 128 = 0 ∧ bt b 2 = 0) then (zM, 1, 5) else if bt b 3 = 0 then (zM, 3, 8)
  else if b.length < 4 + 8 * (bt b 3).toNat then (zM, b.length, 2) else tailE b (4 + 8 * (bt b 3).toNat) (reMsg b)
theorem destBo : bo_api_Dest ≤ 100 := Nat.le_of_ble_eq_true (by kernel_rfl)
theorem reget_bad {n : Nat} {b : Bs} {fl c : Int} (hb : b.length ≤ 1000000) (hc : c ≤ 255) : ∀ (d m i : Nat) (p : Int) (bad : Bool) (acc : List Dest), (i : Int) + d = c → d < m → WfC b p b.length → (bad = true ∨ (b.length : Int) < p + 8 * d) → acc.length ≤ i →
    L_rerr_Get_0 n m b fl acc b p b.length bad c i = some (trip (zM, (b.length : Int), (2 : Int)), ()) := by
  intro d
  induction d with
  | zero =>
    intro m i p bad acc hd hm w hbad ha
    obtain ⟨m, rfl⟩ : ∃ j, m = j + 1 := ⟨m - 1, by omega⟩
    have hw := w.hi
    have : bad = true := hbad.resolve_right (by omega)
    rw [L_rerr_Get_0_eq, ifn (by omega), this]; try rfl
  | succ d ih =>
    intro m i p bad acc hd hm w hbad ha
    obtain ⟨m, rfl⟩ : ∃ j, m = j + 1 := ⟨m - 1, by omega⟩
    rw [L_rerr_Get_0_eq, ifd (by omega), w64 (by omega) (by omega)]
    have go : ∀ (q : Int) (bd : Bool) (x : Dest), WfC b q b.length → (bd = true ∨ (b.length : Int) < q + 8 * d) → (if roomB ((acc.length + [x].length) * bo_api_Dest) = true then L_rerr_Get_0 n m b fl (acc ++ [x]) b q b.length bd c ((i : Int) + 1) else none) = some (trip (zM, (b.length : Int), (2 : Int)), ()) := by
      intro q bd x wq hq
      rw [if_pos (room_mul (by simp; omega) destBo)]
      have := ih m (i + 1) q bd (acc ++ [x]) (by omega) (by omega) wq hq (by simp; omega)
      rw [show ((i + 1 : Nat) : Int) = (i : Int) + 1 by omega] at this
      exact this
    by_cases h1 : bad = true ∨ (b.length : Int) < p + 4
    · rw [text_bad w (h1.imp id .inr), Option.bind_some]
      dsimp only
      rw [num_bad w (by omega) (by omega) (.inl rfl), Option.bind_some]
      exact go p true _ w (.inl rfl)
    · have hbf : bad = false := by cases bad <;> simp_all
      subst hbf
      have w1 := w.fwd (n := 4) (by omega) (by omega)
      rw [text_ok w (by omega) (by omega), Option.bind_some]
      dsimp only
      by_cases h2 : (b.length : Int) < p + 4 + 4
      · rw [num_bad w1 (by omega) (by omega) (.inr (by omega)), Option.bind_some]
        exact go (p + 4) true _ w1 (.inl rfl)
      · rw [num_ok w1 (by omega) (by omega) (by omega), Option.bind_some]
        exact go (p + 4 + 4) false _ (w1.fwd (n := 4) (by omega) (by omega)) (.inr (by have := hbad.resolve_left (by simp); omega))
theorem tail_rng (b : Bs) (p : Nat) (h : p ≤ b.length) : 0 ≤ (getE (b.drop p)).2.1 ∧ (getE (b.drop p)).2.1 ≤ b.length := by
  have := getE_place (b.drop p)
  rw [List.length_drop] at this
  omega
def reTail (b : Bs) (fl : Int) (l : List Dest) (p : Nat) : Msg × Int × Int := tailE b p (S_api_Msg.mk 5 0 0 [] 0 0 [] 0 0 [] 0 [] 0 0 0 fl 0 0 0 [] [] l 0 [] (getE (b.drop p)).1)
theorem reget_good {n : Nat} {b : Bs} {fl c : Int} (hb : b.length ≤ 1000000) (hc : c ≤ 255) : ∀ (d m i p : Nat) (acc : List Dest), (i : Int) + d = c → d < m → p + 8 * d ≤ b.length → acc.length ≤ i →
    L_rerr_Get_0 n m b fl acc b p b.length false c i = some (trip (reTail b fl (acc ++ destG b d p) (p + 8 * d)), ()) := by
  intro d
  induction d with
  | zero =>
    intro m i p acc hd hm hp ha
    obtain ⟨m, rfl⟩ : ∃ j, m = j + 1 := ⟨m - 1, by omega⟩
    have ht := tail_rng b p (by omega)
    rw [L_rerr_Get_0_eq, ifn (by omega), iff_, if_pos (by omega), Int.toNat_natCast, eget_is (by rw [List.length_drop]; omega), Option.bind_some, destG, List.append_nil]
    unfold reTail tailE
    rw [Nat.mul_zero, Nat.add_zero]
    refine ne_step (fun q2 => ?_) (fun q2 => ?_)
    · rw [if_pos q2]
      dsimp only at q2 ⊢
      rw [w64 (by omega) (by omega)]; try rfl
    · rw [if_neg (fun c => c q2)]; try rfl
  | succ d ih =>
    intro m i p acc hd hm hp ha
    obtain ⟨m, rfl⟩ : ∃ j, m = j + 1 := ⟨m - 1, by omega⟩
    have w : WfC b p b.length := ⟨by omega, by omega, by omega, by omega⟩
    have w1 := w.fwd (n := 4) (by omega) (by omega)
    have := ih m (i + 1) (p + 8) (acc ++ [⟨cut_ b p 4, num (cut_ b ((p : Int) + 4) 4)⟩]) (by omega) (by omega) (by omega) (by simp; omega)
    rw [show ((i + 1 : Nat) : Int) = (i : Int) + 1 by omega, show ((p + 8 : Nat) : Int) = (p : Int) + 4 + 4 by omega, show p + 8 + 8 * d = p + 8 * (d + 1) by omega] at this
    rw [L_rerr_Get_0_eq, ifd (by omega), w64 (by omega) (by omega), text_ok w (by omega) (by omega), Option.bind_some]
    dsimp only
    rw [num_ok w1 (by omega) (by omega) (by omega), Option.bind_some]
    dsimp only
    rw [if_pos (room_mul (by simp; omega) destBo), this, destG]
    simp only [List.append_assoc, List.singleton_append]
theorem reget2_is {b : Bs} (hb : b.length ≤ 1000000) : g_rerr_Get (b, ()) = some (trip (reGet b), ()) := by
  show h_rerr_Get fuel _ = _
  rw [h_rerr_Get_eq]
  unfold reGet
  refine dq_step (fun h => by rw [if_pos (by omega)]; try rfl) (fun h => ?_)
  rw [if_neg (show ¬ b.length < 4 by omega), get_bt (i := 1) (by omega), Option.bind_some, get_bt (i := 2) (by omega), Option.bind_some, get_bt (i := 3) (by omega)]
  have e1 : (((b[1]?.getD 0).toNat : Nat) : Int) = bt b 1 := rfl
  have e2 : (((b[2]?.getD 0).toNat : Nat) : Int) = bt b 2 := rfl
  have e3 : (((b[3]?.getD 0).toNat : Nat) : Int) = bt b 3 := rfl
  rw [e1, e2]
  have hx := bt_rng b 1
  have hy := bt_rng b 2
  have hz := bt_rng b 3
  have ao := andor (k := 7) (by omega) hx hy
  rw [show ((2 ^ 7 - 1 : Nat) : Int) = 127 from rfl, show (2 : Int) ^ 7 = 128 from rfl] at ao
  refine ne_step (fun q => ?_) (fun q => ?_)
  · rw [if_pos (fun c => q (ao.2 c))]; try rfl
  rw [if_neg (show ¬ ¬ (bt b 1 % 128 = 0 ∧ bt b 2 = 0) from fun c => c (ao.1 q)), Option.bind_some]
  refine bq_step (fun q => by rw [if_pos (show bt b 3 = 0 from q)]; try rfl) (fun q => ?_)
  have w0 : WfC b 0 b.length := .whole (by omega)
  have w1 := w0.fwd (n := 4) (by omega) (by omega)
  have hs := shr_u8 (x := bt b 1) (k := 7) (by omega)
  rw [show ((7 : Nat) : Int) = 7 from rfl, show (2 : Int) ^ 7 = 128 from rfl] at hs
  rw [if_neg (show ¬ bt b 3 = 0 from q), Option.bind_some, new_is, Option.bind_some]
  dsimp only
  rw [text_ok w0 (by omega) (by omega), Option.bind_some, Option.bind_some, e3, e1, hs, w64 (x := bt b 1 / 128) (by omega) (by omega), w64 (x := bt b 3) (by omega) (by omega)]
  dsimp only
  by_cases hl : b.length < 4 + 8 * (bt b 3).toNat
  · rw [if_pos hl]
    have key := reget_bad (n := fuel) (fl := bt b 1 / 128) (c := bt b 3) hb (by omega) (bt b 3).toNat fuel 0 (0 + 4) false [] (by omega) (fuel_ge (by omega)) w1 (.inr (by omega)) (by simp)
    rw [show ((0 : Nat) : Int) = 0 from rfl] at key
    rw [key]
  · rw [if_neg hl]
    have key := reget_good (n := fuel) (fl := bt b 1 / 128) (c := bt b 3) hb (by omega) (bt b 3).toNat fuel 0 4 [] (by omega) (fuel_ge (by omega)) (by omega) (by simp)
    rw [show ((4 : Nat) : Int) = 0 + 4 from rfl, show ((0 : Nat) : Int) = 0 from rfl, List.nil_append] at key
    rw [key]
    unfold reTail reMsg
    rfl
theorem rreget_loop2 {n : Nat} {b : Bs} {fl c : Int} (hb : b.length ≤ 1000000) (hc : c ≤ 255) : ∀ (d m i : Nat) (acc : List Dest), (i : Int) + d = c → d < m → 4 + 8 * i + 8 * d ≤ b.length → acc.length ≤ i →
    L_ref16_Get_0 n m b c fl acc i = some (trip (reTail b fl (acc ++ destG b d (4 + 8 * i)) (4 + 8 * i + 8 * d)), ()) := by
  intro d
  induction d with
  | zero =>
    intro m i acc hd hm hp ha
    obtain ⟨m, rfl⟩ : ∃ j, m = j + 1 := ⟨m - 1, by omega⟩
    have ht := tail_rng b (4 + 8 * i) (by omega)
    rw [L_ref16_Get_0_eq, ifn (by omega), w64 (x := 8 * c) (by omega) (by omega), w64 (x := 4 + 8 * c) (by omega) (by omega), if_pos (by omega), show (4 + 8 * c).toNat = 4 + 8 * i by omega, reget_is (by rw [List.length_drop]; omega), Option.bind_some, destG, List.append_nil]
    unfold reTail tailE
    rw [Nat.mul_zero, Nat.add_zero]
    refine ne_step (fun q2 => ?_) (fun q2 => ?_)
    · rw [if_pos q2]
      dsimp only at q2 ⊢
      rw [w64 (by omega) (by omega), show (4 + 8 * c) = ((4 + 8 * i : Nat) : Int) by omega]; try rfl
    · rw [if_neg (fun c => c q2)]; try rfl
  | succ d ih =>
    intro m i acc hd hm hp ha
    obtain ⟨m, rfl⟩ : ∃ j, m = j + 1 := ⟨m - 1, by omega⟩
    have e1 : (4 + 8 * (i : Int)) = ((4 + 8 * i : Nat) : Int) := by omega
    have e2 : (8 + 8 * (i : Int)) = ((4 + 8 * i : Nat) : Int) + 4 := by omega
    have e3 : (12 + 8 * (i : Int)) = ((4 + 8 * i : Nat) : Int) + 4 + 4 := by omega
    have hn : g_ref08_Number (cut_ b (((4 + 8 * i : Nat) : Int) + 4) 4, ()) = some ((num (cut_ b (((4 + 8 * i : Nat) : Int) + 4) 4), ()), ()) := number_is (by have := cut_length (s := b) (p := ((4 + 8 * i : Nat) : Int) + 4) (n := 4) (by omega) (by omega) (by omega); omega)
    have := ih m (i + 1) (acc ++ [⟨cut_ b ((4 + 8 * i : Nat) : Int) 4, num (cut_ b (((4 + 8 * i : Nat) : Int) + 4) 4)⟩]) (by omega) (by omega) (by omega) (by simp; omega)
    rw [show ((i + 1 : Nat) : Int) = (i : Int) + 1 by omega, show 4 + 8 * (i + 1) + 8 * d = 4 + 8 * i + 8 * (d + 1) by omega, show 4 + 8 * (i + 1) = 4 + 8 * i + 8 by omega] at this
    rw [L_ref16_Get_0_eq, ifd (by omega), w64 (x := 8 * (i : Int)) (by omega) (by omega), w64 (x := 4 + 8 * (i : Int)) (by omega) (by omega), w64 (x := 8 + 8 * (i : Int)) (by omega) (by omega), w64 (x := 12 + 8 * (i : Int)) (by omega) (by omega), w64 (by omega) (by omega), e1, e2, e3, if_pos (by omega), if_pos (by omega)]
    rw [show (b.take (((4 + 8 * i : Nat) : Int) + 4 + 4).toNat).drop (((4 + 8 * i : Nat) : Int) + 4).toNat = cut_ b (((4 + 8 * i : Nat) : Int) + 4) 4 from rfl, show (b.take (((4 + 8 * i : Nat) : Int) + 4).toNat).drop ((4 + 8 * i : Nat) : Int).toNat = cut_ b ((4 + 8 * i : Nat) : Int) 4 from rfl, hn, Option.bind_some]
    dsimp only
    rw [if_pos (room_mul (by simp; omega) destBo), this, destG]
    simp only [List.append_assoc, List.singleton_append]
theorem rreget2_is {b : Bs} (hb : b.length ≤ 1000000) : g_ref16_Get (b, ()) = some (trip (reGet b), ()) := by
  show h_ref16_Get fuel _ = _
  rw [h_ref16_Get_eq]
  unfold reGet
  refine dq_step (fun h => by rw [if_pos (by omega)]; try rfl) (fun h => ?_)
  rw [if_neg (show ¬ b.length < 4 by omega), get_bt (i := 1) (by omega), Option.bind_some, get_bt (i := 2) (by omega), get_bt (i := 3) (by omega)]
  have e1 : (((b[1]?.getD 0).toNat : Nat) : Int) = bt b 1 := rfl
  have e2 : (((b[2]?.getD 0).toNat : Nat) : Int) = bt b 2 := rfl
  have e3 : (((b[3]?.getD 0).toNat : Nat) : Int) = bt b 3 := rfl
  rw [e1]
  have hx := bt_rng b 1
  have hy := bt_rng b 2
  have hz := bt_rng b 3
  rw [Int.tmod_eq_emod_of_nonneg hx.1]
  refine ne_step (fun q => ?_) (fun q => ?_)
  · rw [if_pos (fun c => q c.1)]; try rfl
  rw [Option.bind_some, e2]
  refine ne_step (fun q1 => ?_) (fun q1 => ?_)
  · rw [if_pos (fun c => q1 c.2)]; try rfl
  rw [if_neg (show ¬ ¬ (bt b 1 % 128 = 0 ∧ bt b 2 = 0) from fun c => c ⟨q, q1⟩), Option.bind_some, e3, w64 (x := bt b 3) (by omega) (by omega)]
  refine bq_step (fun q => by rw [if_pos q]; try rfl) (fun q => ?_)
  rw [if_neg q, w64 (x := 8 * bt b 3) (by omega) (by omega), w64 (x := 4 + 8 * bt b 3) (by omega) (by omega)]
  refine dq_step (fun h => by rw [if_pos (by omega)]; try rfl) (fun h => ?_)
  rw [if_neg (show ¬ b.length < 4 + 8 * (bt b 3).toNat by omega), Option.bind_some, e1, w64 (x := bt b 1) (by omega) (by omega), Int.tdiv_eq_ediv_of_nonneg hx.1, w64 (by omega) (by omega)]
  have key := rreget_loop2 (n := fuel) (fl := bt b 1 / 128) (c := bt b 3) hb (by omega) (bt b 3).toNat fuel 0 [] (by omega) (fuel_ge (by omega)) (by omega) (by simp)
  rw [show ((0 : Nat) : Int) = 0 from rfl, Nat.mul_zero, Nat.add_zero, List.nil_append] at key
  rw [key]
  unfold reTail reMsg
  rfl
end Go.VP
set_option linter.unusedVariables false
set_option linter.unusedSimpArgs false
set_option maxRecDepth 100000
namespace Go.VP
open Go Go.VI
noncomputable def avB (m : Msg) : Bool := rqB m || (rpB m || reB m)
noncomputable def avPut (m : Msg) : Bs := if rqB m = true then rqBytes m else if rpB m = true then (if m.kind = 6 then akBytes m else rpBytes m) else if reB m = true then reBytes m else []
noncomputable def encAv (l : List Msg) : Bs × Int × Int := match badP avB l 0 with
  | some i => ([], (i : Int), 1)
  | none => match l with
    | [] => ([], 0, 8)
    | [m] => if 65535 < (avPut m).length then ([], 0, 10) else (avPut m, 0, 0)
    | _ => ([], 1, 8)
def avGet (b : Bs) : Msg × Int × Int := if bt b 0 = 1 then rqGet b else if bt b 0 = 3 then reGet b else rpGet b
def parseAv (b : Bs) : List Msg × Int × Int :=
  if 65535 < b.length then ([], 65535, 10) else if b.length = 0 then ([], 0, 2) else if bt b 0 < 1 ∨ 4 < bt b 0 then ([], 0, 4)
  else if (avGet b).2.2 ≠ 0 then ([], (avGet b).2.1, (avGet b).2.2) else ([(avGet b).1], 0, 0)
theorem avget_is {b : Bs} (h0 : 1 ≤ b.length) (hb : b.length ≤ 1000000) : g_aodv_get (b, ()) = some (trip (avGet b), ()) := by
  rw [g_aodv_get_eq, get_bt (i := 0) (by omega), Option.bind_some]
  unfold avGet
  refine bq_step (fun q => ?_) (fun q => ?_)
  · rw [if_pos (show bt b 0 = 1 from q), rqget_is hb]; try rfl
  rw [if_neg (show ¬ bt b 0 = 1 from q)]
  refine bq_step (fun q => ?_) (fun q => ?_)
  · rw [if_pos (show bt b 0 = 3 from q), reget2_is hb]; try rfl
  rw [if_neg (show ¬ bt b 0 = 3 from q), rpget_is h0 hb]; try rfl
theorem avparse_is {b : Bs} (hb : b.length ≤ 1000000000) : g_aodv_Parse (b, ()) = some (trip (parseAv b), ()) := by
  rw [g_aodv_Parse_eq]
  unfold parseAv
  refine dq_step (fun h => by rw [if_pos (by omega)]; try rfl) (fun h => ?_)
  rw [if_neg (show ¬ 65535 < b.length by omega)]
  refine bq_step (fun h => by rw [if_pos (by omega)]; try rfl) (fun h1 => ?_)
  rw [if_neg (show ¬ b.length = 0 by omega), get_bt (i := 0) (by omega), Option.bind_some, Option.bind_some]
  refine dq_step (fun h => by rw [if_pos (show bt b 0 < 1 ∨ 4 < bt b 0 from .inl h)]; try rfl) (fun h2 => ?_)
  refine dq_step (fun h => by rw [if_pos (show bt b 0 < 1 ∨ 4 < bt b 0 from .inr h)]; try rfl) (fun h3 => ?_)
  rw [if_neg (show ¬ (bt b 0 < 1 ∨ 4 < bt b 0) from fun c => c.elim h2 h3), avget_is (by omega) (by omega), Option.bind_some]
  refine ne_step (fun q => ?_) (fun q => ?_)
  · rw [if_pos q]; try rfl
  · rw [if_neg (fun c => c q)]; try rfl
theorem ravget_is {b : Bs} (h0 : 1 ≤ b.length) (hb : b.length ≤ 1000000) : g_ref17_get (b, ()) = some (trip (avGet b), ()) := by
  rw [g_ref17_get_eq, get_bt (i := 0) (by omega), Option.bind_some]
  unfold avGet
  refine bq_step (fun q => ?_) (fun q => ?_)
  · rw [if_pos (show bt b 0 = 1 from q), rrqget_is hb]; try rfl
  rw [if_neg (show ¬ bt b 0 = 1 from q)]
  refine bq_step (fun q => ?_) (fun q => ?_)
  · rw [if_pos (show bt b 0 = 3 from q), rreget2_is hb]; try rfl
  rw [if_neg (show ¬ bt b 0 = 3 from q), rrpget_is h0 hb]; try rfl
theorem ravparse_is {b : Bs} (hb : b.length ≤ 1000000000) : g_ref17_Parse (b, ()) = some (trip (parseAv b), ()) := by
  rw [g_ref17_Parse_eq]
  unfold parseAv
  refine dq_step (fun h => by rw [if_pos (by omega)]; try rfl) (fun h => ?_)
  rw [if_neg (show ¬ 65535 < b.length by omega)]
  refine bq_step (fun h => by rw [if_pos (by omega)]; try rfl) (fun h1 => ?_)
  rw [if_neg (show ¬ b.length = 0 by omega), get_bt (i := 0) (by omega), Option.bind_some, Option.bind_some]
  refine dq_step (fun h => by rw [if_pos (show bt b 0 < 1 ∨ 4 < bt b 0 from .inl h)]; try rfl) (fun h2 => ?_)
  refine dq_step (fun h => by rw [if_pos (show bt b 0 < 1 ∨ 4 < bt b 0 from .inr h)]; try rfl) (fun h3 => ?_)
  rw [if_neg (show ¬ (bt b 0 < 1 ∨ 4 < bt b 0) from fun c => c.elim h2 h3), ravget_is (by omega) (by omega), Option.bind_some]
  refine ne_step (fun q => ?_) (fun q => ?_)
  · rw [if_pos q]; try rfl
  · rw [if_neg (fun c => c q)]; try rfl
end Go.VP
set_option linter.unusedVariables false
set_option linter.unusedSimpArgs false
set_option maxRecDepth 100000
namespace Go.VP
open Go Go.VI
theorem glue4 (b : Bs) (p : Nat) : cut_ b p 4 ++ b.drop (p + 4) = b.drop p := by
  have := cut_dropN b p 4
  rw [show ((4 : Nat) : Int) = 4 from rfl] at this
  rw [this, ← List.drop_drop, List.take_append_drop]
theorem cut4_len {b : Bs} {p : Nat} (h : p + 4 ≤ b.length) : (cut_ b p 4).length = 4 := by
  have := cut_length (s := b) (p := p) (n := 4) (by omega) (by omega) (by omega)
  omega
theorem num4 {b : Bs} {p : Nat} (h : p + 4 ≤ b.length) : W32 (num (cut_ b p 4)) := by
  have := num_rng (cut_ b p 4)
  rw [cut4_len h] at this
  exact ⟨this.1, by have := this.2; omega⟩
theorem be_num4 {b : Bs} {p : Nat} (h : p + 4 ≤ b.length) : be 4 (num (cut_ b p 4)) = cut_ b p 4 := be_num 4 _ (cut4_len h)
theorem bare_eq {m x : Msg} (h : bareB m = true) (hx : bareOf m = some x) : m = x := by
  unfold bareB at h
  rw [hx] at h
  exact (eqB_true.1 h).symm
theorem bare_of {m : Msg} (h : bareOf m = some m) : bareB m = true := by
  unfold bareB; rw [h]; exact eqB_refl m
theorem RqR.is {m : Msg} (h : RqR m) : m = S_api_Msg.mk 3 0 0 [] 0 0 [] 0 0 [] 0 [] m.seq m.seq2 0 m.flags m.hops m.nonce 0 m.addr m.orig [] 0 [] m.subs := by
  have hk := h.kind
  have := bare_eq h.bare (by unfold bareOf; rw [if_neg (by omega), if_neg (by omega), if_pos hk])
  rw [hk] at this
  exact this
theorem head4 {b : Bs} (h : ¬ b.length < 4) : [u8of (bt b 0), u8of (bt b 1), u8of (bt b 2), u8of (bt b 3)] ++ b.drop 4 = b := by
  obtain ⟨w, x, y, z, r, rfl⟩ := four_of h
  show [u8of (w.toNat : Int), u8of (x.toNat : Int), u8of (y.toNat : Int), u8of (z.toNat : Int)] ++ r = _
  rw [u8of_nat, u8of_nat, u8of_nat, u8of_nat]; rfl
theorem tailE_ok {b : Bs} {p : Nat} {m : Msg} (h : (tailE b p m).2.2 = 0) : tailE b p m = (m, 0, 0) ∧ AllE (getE (b.drop p)).1 ∧ encS (getE (b.drop p)).1 = b.drop p ∧ 2 * (getE (b.drop p)).1.length ≤ b.length := by
  unfold tailE at h ⊢
  by_cases q : (getE (b.drop p)).2.2 ≠ 0
  · rw [if_pos q] at h; exact absurd h q
  · rw [if_neg q]
    obtain ⟨_, k1, k2, k3⟩ := getE_ok (Classical.byContradiction q)
    rw [List.length_drop] at k3
    exact ⟨rfl, k1, k2, by omega⟩
theorem rq_again {b : Bs} (h0 : bt b 0 = 1) (h : (rqGet b).2.2 = 0) : rqGet b = (rqMsg b, 0, 0) ∧ RqR (rqMsg b) ∧ rqBytes (rqMsg b) = b ∧ (rqMsg b).subs.length ≤ b.length := by
  unfold rqGet at h ⊢
  by_cases h1 : b.length < 24
  · rw [if_pos h1] at h; cases h
  by_cases h2 : ¬ (bt b 1 % 8 = 0 ∧ bt b 2 = 0)
  · rw [if_neg h1, if_pos h2] at h; cases h
  rw [if_neg h1, if_neg h2] at h ⊢
  obtain ⟨k1, k2, k3, k4⟩ := tailE_ok h
  have h2 := Classical.byContradiction h2
  have hx := bt_rng b 1
  have hz := bt_rng b 3
  refine ⟨k1, ⟨rfl, bare_of rfl, by show 0 ≤ bt b 1 / 8 ∧ bt b 1 / 8 ≤ 31; omega, cut4_len (p := 8) (by omega), cut4_len (p := 16) (by omega), num4 (p := 4) (by omega), num4 (p := 12) (by omega), num4 (p := 20) (by omega), hz, allE_iff.2 k2⟩, ?_, by show (getE (b.drop 24)).1.length ≤ _; omega⟩
  show [1, u8of (8 * (bt b 1 / 8)), 0, u8of (bt b 3)] ++ (be 4 (num (cut_ b (4 : Nat) 4)) ++ (cut_ b (8 : Nat) 4 ++ (be 4 (num (cut_ b (12 : Nat) 4)) ++ (cut_ b (16 : Nat) 4 ++ (be 4 (num (cut_ b (20 : Nat) 4)) ++ encS (getE (b.drop 24)).1))))) = b
  rw [k3, be_num4 (by omega), be_num4 (by omega), be_num4 (by omega), glue4 b 20, glue4 b 16, glue4 b 12, glue4 b 8, glue4 b 4, show 8 * (bt b 1 / 8) = bt b 1 by omega]
  have := head4 (b := b) (by omega)
  rw [h0, h2.2] at this
  exact this
theorem RpR.is {m : Msg} (h : RpR m) : m = S_api_Msg.mk 4 0 0 [] 0 0 [] m.plen 0 [] 0 [] m.seq 0 m.interval m.flags m.hops 0 0 m.addr m.orig [] 0 [] m.subs := by
  have hk := h.kind
  have := bare_eq h.bare (by unfold bareOf; rw [if_neg (by omega), if_neg (by omega), if_neg (by omega), if_pos hk])
  rw [hk] at this
  exact this
theorem AkR.is {m : Msg} (h : AkR m) : m = S_api_Msg.mk 6 0 0 [] 0 0 [] 0 0 [] 0 [] 0 0 0 0 0 0 0 [] [] [] 0 [] m.subs := by
  have hk := h.kind
  have := bare_eq h.bare (by unfold bareOf; rw [if_neg (by omega), if_neg (by omega), if_neg (by omega), if_neg (by omega), if_neg (by omega), if_pos hk])
  rw [hk] at this
  exact this
theorem rp_again {b : Bs} (h4 : ¬ bt b 0 = 4) (h0 : bt b 0 = 2) (h : (rpGet b).2.2 = 0) : rpGet b = (rpMsg b, 0, 0) ∧ RpR (rpMsg b) ∧ rpBytes (rpMsg b) = b ∧ (rpMsg b).subs.length ≤ b.length := by
  unfold rpGet at h ⊢
  rw [if_neg h4] at h ⊢
  by_cases h1 : b.length < 20
  · rw [if_pos h1] at h; cases h
  by_cases h2 : ¬ (bt b 1 % 64 = 0 ∧ bt b 2 < 32)
  · rw [if_neg h1, if_pos h2] at h; cases h
  rw [if_neg h1, if_neg h2] at h ⊢
  obtain ⟨k1, k2, k3, k4⟩ := tailE_ok h
  have h2 := Classical.byContradiction h2
  have hx := bt_rng b 1
  have hy := bt_rng b 2
  have hz := bt_rng b 3
  refine ⟨k1, ⟨rfl, bare_of rfl, by show 0 ≤ bt b 1 / 64 ∧ bt b 1 / 64 ≤ 3; omega, by show 0 ≤ bt b 2 ∧ bt b 2 ≤ 31; omega, cut4_len (p := 4) (by omega), cut4_len (p := 12) (by omega), num4 (p := 8) (by omega), num4 (p := 16) (by omega), hz, allE_iff.2 k2⟩, ?_, by show (getE (b.drop 20)).1.length ≤ _; omega⟩
  show [2, u8of (64 * (bt b 1 / 64)), u8of (bt b 2), u8of (bt b 3)] ++ (cut_ b (4 : Nat) 4 ++ (be 4 (num (cut_ b (8 : Nat) 4)) ++ (cut_ b (12 : Nat) 4 ++ (be 4 (num (cut_ b (16 : Nat) 4)) ++ encS (getE (b.drop 20)).1)))) = b
  rw [k3, be_num4 (by omega), be_num4 (by omega), glue4 b 16, glue4 b 12, glue4 b 8, glue4 b 4, show 64 * (bt b 1 / 64) = bt b 1 by omega]
  have := head4 (b := b) (by omega)
  rw [h0] at this
  exact this
theorem ak_again {b : Bs} (hb : 1 ≤ b.length) (h0 : bt b 0 = 4) (h : (rpGet b).2.2 = 0) : rpGet b = (akMsg b, 0, 0) ∧ AkR (akMsg b) ∧ akBytes (akMsg b) = b ∧ (akMsg b).subs.length ≤ b.length := by
  unfold rpGet at h ⊢
  rw [if_pos h0] at h ⊢
  by_cases h1 : b.length < 2
  · rw [if_pos h1] at h; cases h
  by_cases h2 : ¬ bt b 1 = 0
  · rw [if_neg h1, if_pos h2] at h; cases h
  rw [if_neg h1, if_neg h2] at h ⊢
  obtain ⟨k1, k2, k3, k4⟩ := tailE_ok h
  have h2 := Classical.byContradiction h2
  refine ⟨k1, ⟨rfl, bare_of rfl, allE_iff.2 k2⟩, ?_, by show (getE (b.drop 2)).1.length ≤ _; omega⟩
  show [4, 0] ++ encS (getE (b.drop 2)).1 = b
  rw [k3]
  match b, h1, h0, h2 with
  | w :: x :: r, _, h0, h2 =>
    have e0 : w = 4 := u8_eq (a := w) (b := 4) h0
    have e1 : x = 0 := u8_eq (a := x) (b := 0) h2
    rw [e0, e1]; rfl
  | [], h1, _, _ => simp at h1
  | [_], h1, _, _ => simp at h1
theorem ReR.is {m : Msg} (h : ReR m) : m = S_api_Msg.mk 5 0 0 [] 0 0 [] 0 0 [] 0 [] 0 0 0 m.flags 0 0 0 [] [] m.list 0 [] m.subs := by
  have hk := h.kind
  have := bare_eq h.bare (by unfold bareOf; rw [if_neg (by omega), if_neg (by omega), if_neg (by omega), if_neg (by omega), if_pos hk])
  rw [hk] at this
  exact this
theorem destG_len (b : Bs) : ∀ (k p : Nat), (destG b k p).length = k
  | 0, _ => rfl
  | k + 1, p => by rw [destG, List.length_cons, destG_len b k]
theorem destG_again {b : Bs} : ∀ (k p : Nat), p + 8 * k ≤ b.length → (∀ d ∈ destG b k p, destB d = true) ∧ dests (destG b k p) ++ b.drop (p + 8 * k) = b.drop p
  | 0, p, _ => ⟨(fun d hd => by cases hd), rfl⟩
  | k + 1, p, h => by
    obtain ⟨h1, h2⟩ := destG_again (b := b) k (p + 8) (by omega)
    have e : ((p : Int) + 4) = ((p + 4 : Nat) : Int) := by omega
    refine ⟨fun d hd => ?_, ?_⟩
    · rw [destG] at hd
      rcases List.mem_cons.1 hd with rfl | hd
      · unfold destB
        rw [Bool.and_eq_true, decide_eq_true_eq, fitsB4, e]
        exact ⟨cut4_len (by omega), num4 (by omega)⟩
      · exact h1 d hd
    · rw [destG, dests, e, be_num4 (by omega), List.append_assoc, List.append_assoc, show p + 8 * (k + 1) = p + 8 + 8 * k by omega, h2]
      show cut_ b p 4 ++ (cut_ b ((p + 4 : Nat) : Int) 4 ++ b.drop (p + 4 + 4)) = _
      rw [glue4, glue4]
theorem re_again {b : Bs} (h0 : bt b 0 = 3) (h : (reGet b).2.2 = 0) : reGet b = (reMsg b, 0, 0) ∧ ReR (reMsg b) ∧ reBytes (reMsg b) = b ∧ (reMsg b).subs.length ≤ b.length := by
  unfold reGet at h ⊢
  by_cases h1 : b.length < 4
  · rw [if_pos h1] at h; cases h
  by_cases h2 : ¬ (bt b 1 % 128 = 0 ∧ bt b 2 = 0)
  · rw [if_neg h1, if_pos h2] at h; cases h
  by_cases h3 : bt b 3 = 0
  · rw [if_neg h1, if_neg h2, if_pos h3] at h; cases h
  by_cases h4 : b.length < 4 + 8 * (bt b 3).toNat
  · rw [if_neg h1, if_neg h2, if_neg h3, if_pos h4] at h; cases h
  rw [if_neg h1, if_neg h2, if_neg h3, if_neg h4] at h ⊢
  obtain ⟨k1, k2, k3, k4⟩ := tailE_ok h
  have h2 := Classical.byContradiction h2
  have hx := bt_rng b 1
  have hz := bt_rng b 3
  obtain ⟨g1, g2⟩ := destG_again (b := b) (bt b 3).toNat 4 (by omega)
  have hlen := destG_len b (bt b 3).toNat 4
  refine ⟨k1, ⟨rfl, bare_of rfl, by show bt b 1 / 128 = 0 ∨ bt b 1 / 128 = 1; omega, by show 1 ≤ (destG b (bt b 3).toNat 4).length ∧ (destG b (bt b 3).toNat 4).length ≤ 255; omega, List.all_eq_true.2 g1, allE_iff.2 k2⟩, ?_, by show (getE (b.drop (4 + 8 * (bt b 3).toNat))).1.length ≤ _; omega⟩
  show [3, u8of (128 * (bt b 1 / 128)), 0, u8of ((destG b (bt b 3).toNat 4).length : Int)] ++ (dests (destG b (bt b 3).toNat 4) ++ encS (getE (b.drop (4 + 8 * (bt b 3).toNat))).1) = b
  rw [k3, g2, hlen, show 128 * (bt b 1 / 128) = bt b 1 by omega, show (((bt b 3).toNat : Nat) : Int) = bt b 3 by omega]
  have := head4 (b := b) (by omega)
  rw [h0, h2.2] at this
  exact this
end Go.VP
set_option linter.unusedVariables false
set_option linter.unusedSimpArgs false
set_option maxRecDepth 100000
namespace Go.VP
open Go Go.VI
theorem avB_cases {m : Msg} (h : avB m = true) : RqR m ∨ RpR m ∨ AkR m ∨ ReR m := by
  unfold avB at h
  simp only [Bool.or_eq_true, rqB_iff, rpB_iff, reB_iff] at h
  rcases h with h | (h | h) | h
  · exact .inl h
  · exact .inr (.inl h)
  · exact .inr (.inr (.inl h))
  · exact .inr (.inr (.inr h))
theorem avB_of {m : Msg} (h : RqR m ∨ RpR m ∨ AkR m ∨ ReR m) : avB m = true := by
  unfold avB
  simp only [Bool.or_eq_true, rqB_iff, rpB_iff, reB_iff]
  rcases h with h | h | h | h
  · exact .inl h
  · exact .inr (.inl (.inl h))
  · exact .inr (.inl (.inr h))
  · exact .inr (.inr h)
theorem put_rq {m : Msg} (h : RqR m) : avPut m = rqBytes m := by unfold avPut; rw [if_pos (rqB_iff.2 h)]
theorem put_rp {m : Msg} (h : RpR m) : avPut m = rpBytes m := by
  have := h.kind
  unfold avPut; rw [if_neg (fun q => by have := (rqB_iff.1 q).kind; omega), if_pos (rpB_iff.2 (.inl h)), if_neg (by omega)]
theorem put_ak {m : Msg} (h : AkR m) : avPut m = akBytes m := by
  have := h.kind
  unfold avPut; rw [if_neg (fun q => by have := (rqB_iff.1 q).kind; omega), if_pos (rpB_iff.2 (.inr h)), if_pos (by omega)]
theorem put_re {m : Msg} (h : ReR m) : avPut m = reBytes m := by
  have := h.kind
  unfold avPut; rw [if_neg (fun q => by have := (rqB_iff.1 q).kind; omega), if_neg (fun q => by rcases rpB_iff.1 q with q | q <;> (have := q.kind; omega)), if_pos (reB_iff.2 h)]
theorem encAv_one {m : Msg} (h : avB m = true) : encAv [m] = if 65535 < (avPut m).length then ([], 0, 10) else (avPut m, 0, 0) := by
  unfold encAv
  rw [badP_ok (fun x hx => by rw [List.mem_singleton.1 hx]; exact h)]
theorem tailE_place {b : Bs} {p : Nat} {m : Msg} (hp : p ≤ b.length) : 0 ≤ (tailE b p m).2.1 ∧ (tailE b p m).2.1 ≤ b.length := by
  have := getE_place (b.drop p)
  rw [List.length_drop] at this
  unfold tailE
  split
  · dsimp only; omega
  · dsimp only; omega
theorem avGet_place {b : Bs} (h : 1 ≤ b.length) : 0 ≤ (avGet b).2.1 ∧ (avGet b).2.1 ≤ b.length := by
  unfold avGet
  split
  · unfold rqGet
    split
    · dsimp only; omega
    split
    · dsimp only; omega
    · exact tailE_place (by omega)
  split
  · unfold reGet
    split
    · dsimp only; omega
    split
    · dsimp only; omega
    split
    · dsimp only; omega
    split
    · dsimp only; omega
    · exact tailE_place (by omega)
  · unfold rpGet
    split
    · split
      · dsimp only; omega
      split
      · dsimp only; omega
      · exact tailE_place (by omega)
    · split
      · dsimp only; omega
      split
      · dsimp only; omega
      · exact tailE_place (by omega)
theorem av_parseerr {b : Bs} (h : (parseAv b).2.2 ≠ 0) : (parseAv b).1 = [] ∧ 0 ≤ (parseAv b).2.1 ∧ (parseAv b).2.1 ≤ b.length := by
  unfold parseAv at h ⊢
  split
  · exact ⟨rfl, by dsimp only; omega, by dsimp only; omega⟩
  · rename_i h1
    rw [if_neg h1] at h
    split
    · exact ⟨rfl, by dsimp only; omega, by dsimp only; omega⟩
    · rename_i h2
      rw [if_neg h2] at h
      split
      · exact ⟨rfl, by dsimp only; omega, by dsimp only; omega⟩
      · rename_i h3
        rw [if_neg h3] at h
        split
        · exact ⟨rfl, avGet_place (by omega)⟩
        · rename_i h4
          rw [if_neg h4] at h; exact absurd rfl h
theorem av_again {b : Bs} (h : (parseAv b).2.2 = 0) : ∃ m, parseAv b = ([m], 0, 0) ∧ avB m = true ∧ avPut m = b ∧ encAv [m] = (b, 0, 0) ∧ b.length ≤ 65535 ∧ m.subs.length ≤ b.length := by
  unfold parseAv at h ⊢
  by_cases h1 : 65535 < b.length
  · rw [if_pos h1] at h; cases h
  by_cases h2 : b.length = 0
  · rw [if_neg h1, if_pos h2] at h; cases h
  by_cases h3 : bt b 0 < 1 ∨ 4 < bt b 0
  · rw [if_neg h1, if_neg h2, if_pos h3] at h; cases h
  by_cases h4 : (avGet b).2.2 ≠ 0
  · rw [if_neg h1, if_neg h2, if_neg h3, if_pos h4] at h; exact absurd h h4
  rw [if_neg h1, if_neg h2, if_neg h3, if_neg h4]
  have h4 := Classical.byContradiction h4
  have fin : ∀ m, avGet b = (m, 0, 0) → avB m = true → avPut m = b → m.subs.length ≤ b.length → ∃ m', ([(avGet b).1], (0 : Int), (0 : Int)) = ([m'], 0, 0) ∧ avB m' = true ∧ avPut m' = b ∧ encAv [m'] = (b, 0, 0) ∧ b.length ≤ 65535 ∧ m'.subs.length ≤ b.length := fun m e hm hp hs => by
    refine ⟨m, by rw [e], hm, hp, ?_, by omega, hs⟩
    rw [encAv_one hm, hp, if_neg h1]
  by_cases c1 : bt b 0 = 1
  · have e : avGet b = rqGet b := by unfold avGet; rw [if_pos c1]
    rw [e] at h4 fin ⊢
    obtain ⟨k1, k2, k3, k4⟩ := rq_again c1 h4
    exact fin _ k1 (avB_of (.inl k2)) (by rw [put_rq k2, k3]) k4
  by_cases c3 : bt b 0 = 3
  · have e : avGet b = reGet b := by unfold avGet; rw [if_neg c1, if_pos c3]
    rw [e] at h4 fin ⊢
    obtain ⟨k1, k2, k3, k4⟩ := re_again c3 h4
    exact fin _ k1 (avB_of (.inr (.inr (.inr k2)))) (by rw [put_re k2, k3]) k4
  have e : avGet b = rpGet b := by unfold avGet; rw [if_neg c1, if_neg c3]
  rw [e] at h4 fin ⊢
  by_cases c4 : bt b 0 = 4
  · obtain ⟨k1, k2, k3, k4⟩ := ak_again (by omega) c4 h4
    exact fin _ k1 (avB_of (.inr (.inr (.inl k2)))) (by rw [put_ak k2, k3]) k4
  · obtain ⟨k1, k2, k3, k4⟩ := rp_again c4 (by have := bt_rng b 0; omega) h4
    exact fin _ k1 (avB_of (.inr (.inl k2))) (by rw [put_rp k2, k3]) k4
theorem AllE.fewS {l : List Sub} (h : AllE l) (hl : l.length ≤ 1000000) : FewS l := ⟨by omega, fun y hy => by have := (h y hy).2.2; omega⟩
theorem avB_good {m : Msg} (h : avB m = true) (hs : m.subs.length ≤ 1000000) : GoodV m := by
  have z : IntKind.has .i64 0 := has64.2 (by omega)
  have w8 : ∀ {n : Int}, W8 n → IntKind.has .i64 n := fun h => has64.2 (by have := h.1; have := h.2; omega)
  rcases avB_cases h with h | h | h | h
  · have hl : m.list = [] := congrArg S_api_Msg.list h.is
    have hi : m.interval = 0 := congrArg S_api_Msg.interval h.is
    exact ⟨h.nonce.has, h.seq.has, h.seq2.has, w8 h.hops, by rw [hi]; exact z, by rw [hl]; simp, by rw [hl]; intro d hd; (cases hd), (allE_iff.1 h.subs).fewS hs, hs⟩
  · have hl : m.list = [] := congrArg S_api_Msg.list h.is
    have h1 : m.nonce = 0 := congrArg S_api_Msg.nonce h.is
    have h2 : m.seq2 = 0 := congrArg S_api_Msg.seq2 h.is
    exact ⟨by rw [h1]; exact z, h.seq.has, by rw [h2]; exact z, w8 h.hops, h.life.has, by rw [hl]; simp, by rw [hl]; intro d hd; (cases hd), (allE_iff.1 h.subs).fewS hs, hs⟩
  · have hl : m.list = [] := congrArg S_api_Msg.list h.is
    have h1 : m.nonce = 0 := congrArg S_api_Msg.nonce h.is
    have h2 : m.seq2 = 0 := congrArg S_api_Msg.seq2 h.is
    have h3 : m.seq = 0 := congrArg S_api_Msg.seq h.is
    have h4 : m.hops = 0 := congrArg S_api_Msg.hops h.is
    have h5 : m.interval = 0 := congrArg S_api_Msg.interval h.is
    exact ⟨by rw [h1]; exact z, by rw [h3]; exact z, by rw [h2]; exact z, by rw [h4]; exact z, by rw [h5]; exact z, by rw [hl]; simp, by rw [hl]; intro d hd; (cases hd), (allE_iff.1 h.subs).fewS hs, hs⟩
  · have h1 : m.nonce = 0 := congrArg S_api_Msg.nonce h.is
    have h2 : m.seq2 = 0 := congrArg S_api_Msg.seq2 h.is
    have h3 : m.seq = 0 := congrArg S_api_Msg.seq h.is
    have h4 : m.hops = 0 := congrArg S_api_Msg.hops h.is
    have h5 : m.interval = 0 := congrArg S_api_Msg.interval h.is
    exact ⟨by rw [h1]; exact z, by rw [h3]; exact z, by rw [h2]; exact z, by rw [h4]; exact z, by rw [h5]; exact z, by have := h.len; omega, fun d hd => (destB_ok (List.all_eq_true.1 h.list d hd)).2.has, (allE_iff.1 h.subs).fewS hs, hs⟩
end Go.VP
set_option linter.unusedVariables false
set_option linter.unusedSimpArgs false
set_option maxRecDepth 100000
namespace Go.VP
open Go Go.VI
structure GoodQ (m : Msg) : Prop where
  rip : RM m
  ng : GoodG m
  av : GoodV m
  lean : GoodL m
open Classical in
noncomputable def rightP (p : Int) (m : Msg) : Bool := if p = 1 then rightR m else if p = 2 then ngB m else if p = 3 then avB m else if p = 4 then leanB m else false
end Go.VP
set_option linter.unusedVariables false
set_option linter.unusedSimpArgs false
set_option maxRecDepth 100000
namespace Go.VP
open Go Go.VI
theorem spl_place (s : Bs) : ∀ (p : Int), (∀ q, spl p s = .error q → p ≤ q ∧ q ≤ p + s.length) ∧ (∀ l, spl p s = .ok l → ∀ t ∈ l, p ≤ t.at_ ∧ t.at_ ≤ p + s.length) := by
  induction h : s.length using Nat.strongRecOn generalizing s with
  | ind n ih =>
    intro p
    subst h
    match s with
    | [] =>
      rw [spl_nil]
      exact ⟨(fun q h => by cases h), (fun l h => by cases h; intro t ht; cases ht)⟩
    | t :: r =>
      by_cases ht : t = 0
      · subst ht
        rw [spl_zero]
        obtain ⟨i1, i2⟩ := ih r.length (by simp) r rfl (p + 1)
        cases hr : spl (p + 1) r with
        | error q =>
          refine ⟨fun q' h => ?_, (fun l h => by cases h)⟩
          cases h
          have := i1 q hr
          simp only [List.length_cons]; omega
        | ok l =>
          refine ⟨(fun q' h => by cases h), fun l' h x hx => ?_⟩
          cases h
          rcases List.mem_cons.1 hx with rfl | hx
          · dsimp only; omega
          · have := i2 l hr x hx
            simp only [List.length_cons]; omega
      · match r with
        | [] =>
          rw [spl_one ht]
          exact ⟨(fun q h => by cases h; simp; omega), (fun l h => by cases h)⟩
        | n :: d =>
          by_cases hn : d.length < n.toNat
          · rw [spl_bad ht hn]
            exact ⟨(fun q h => by cases h; simp only [List.length_cons]; omega), (fun l h => by cases h)⟩
          · rw [spl_all ht (by omega)]
            have hdl : (d.drop n.toNat).length = d.length - n.toNat := List.length_drop
            obtain ⟨i1, i2⟩ := ih (d.drop n.toNat).length (by rw [hdl]; simp; omega) (d.drop n.toNat) rfl (p + 2 + n.toNat)
            rw [hdl] at i1 i2
            cases hr : spl (p + 2 + n.toNat) (d.drop n.toNat) with
            | error q =>
              refine ⟨fun q' h => ?_, (fun l h => by cases h)⟩
              cases h
              have := i1 q hr
              simp only [List.length_cons]; omega
            | ok l =>
              refine ⟨(fun q' h => by cases h), fun l' h x hx => ?_⟩
              cases h
              rcases List.mem_cons.1 hx with rfl | hx
              · simp only [List.length_cons]; omega
              · have := i2 l hr x hx
                simp only [List.length_cons]; omega
theorem foldR_place : ∀ (l : List Tlv) (c : Ctx) (acc : List Msg), (foldR c l acc).2.2.2 ≠ 0 → ∃ t ∈ l, (foldR c l acc).2.2.1 = t.at_
  | [], c, acc, h => absurd rfl h
  | t :: r, c, acc, h => by
    rw [foldR] at h ⊢
    by_cases he : (oneR c t.type_ t.data).2.2 ≠ 0
    · rw [if_pos he]; exact ⟨t, List.mem_cons_self .., rfl⟩
    · rw [if_neg he] at h ⊢
      obtain ⟨x, hx, e⟩ := foldR_place r _ _ h
      exact ⟨x, List.mem_cons_of_mem _ hx, e⟩
theorem parseI_place {b : Bs} (h : (parseI b).2.2 ≠ 0) : (parseI b).1 = [] ∧ 0 ≤ (parseI b).2.1 ∧ (parseI b).2.1 ≤ b.length := by
  refine ⟨(parseI_cases b).elim (fun q => q.2) (fun ⟨l, _, _, _, _, q⟩ => absurd (by rw [q]) h), ?_⟩
  unfold parseI at h ⊢
  by_cases h0 : (bodyF b).2.2 ≠ 0
  · rw [if_pos h0]; exact (bodyF_bad h0).2
  rw [if_neg h0] at h ⊢
  obtain ⟨l1, l2, _, _, l5, _, l7⟩ := bodyF_ok (Classical.byContradiction h0)
  have hr := sizeB_rng b
  have hbl : ((behF b).length : Int) = b.length - (4 + (bodyF b).1.length) := by unfold behF; rw [List.length_drop]; omega
  have p1 := spl_place (bodyF b).1 4
  have p2 := spl_place (behF b) (4 + ((bodyF b).1.length : Int))
  cases h1 : spl 4 (bodyF b).1 with
  | error q =>
    have := p1.1 q h1
    dsimp only; omega
  | ok l =>
    rw [h1] at h
    cases h2 : spl (4 + ((bodyF b).1.length : Int)) (behF b) with
    | error q =>
      have := p2.1 q h2
      dsimp only; omega
    | ok k =>
      rw [h2] at h
      dsimp only at h ⊢
      obtain ⟨t, ht, e⟩ := foldR_place l c0 [] h
      have := p1.2 l h1 t ht
      omega
noncomputable def parseP (p : Int) (b : Bs) : List Msg × Int × Int := if p = 1 then parseR b else if p = 2 then parseN b else if p = 3 then parseAv b else if p = 4 then parseI b else ([], 0, 1)
def GoodP (p : Int) (m : Msg) : Prop := (p = 1 → RM m) ∧ (p = 2 → GoodG m) ∧ (p = 3 → GoodV m) ∧ (p = 4 → GoodL m)
theorem GoodQ.p {m : Msg} (g : GoodQ m) (p : Int) : GoodP p m := ⟨fun _ => g.rip, fun _ => g.ng, fun _ => g.av, fun _ => g.lean⟩
theorem sparse_is {p : Int} {b : Bs} (hb : b.length ≤ 100000) : g_suite_Parse (p, b, ()) = some (trip (parseP p b), ()) := by
  rw [g_suite_Parse_eq]
  unfold parseP
  refine bq_step (fun h => by rw [if_pos h, parse_is hb]; rfl) (fun h1 => ?_)
  rw [if_neg h1]
  refine bq_step (fun h => by rw [if_pos h, ngparse_is (by omega)]; rfl) (fun h2 => ?_)
  rw [if_neg h2]
  refine bq_step (fun h => by rw [if_pos h, avparse_is (by omega)]; rfl) (fun h3 => ?_)
  rw [if_neg h3]
  refine bq_step (fun h => by rw [if_pos h, iparse_is]; rfl) (fun h4 => ?_)
  rw [if_neg h4]
theorem rsparse_is {p : Int} {b : Bs} (hb : b.length ≤ 100000) : g_ref26_Parse (p, b, ()) = some (trip (parseP p b), ()) := by
  rw [g_ref26_Parse_eq]
  unfold parseP
  refine bq_step (fun h => by rw [if_pos h, rparse_is hb]; rfl) (fun h1 => ?_)
  rw [if_neg h1]
  refine bq_step (fun h => by rw [if_pos h, rngparse_is (by omega)]; rfl) (fun h2 => ?_)
  rw [if_neg h2]
  refine bq_step (fun h => by rw [if_pos h, ravparse_is (by omega)]; rfl) (fun h3 => ?_)
  rw [if_neg h3]
  refine bq_step (fun h => by rw [if_pos h, riparse_is]; rfl) (fun h4 => ?_)
  rw [if_neg h4]
theorem p_parseerr {p : Int} {b : Bs} (h : (parseP p b).2.2 ≠ 0) : (parseP p b).1 = [] ∧ 0 ≤ (parseP p b).2.1 ∧ (parseP p b).2.1 ≤ b.length := by
  unfold parseP at h ⊢
  by_cases h1 : p = 1
  · simp only [if_pos h1] at h ⊢; exact parseR_err h
  simp only [if_neg h1] at h ⊢
  by_cases h2 : p = 2
  · simp only [if_pos h2] at h ⊢; exact ng_parseerr h
  simp only [if_neg h2] at h ⊢
  by_cases h3 : p = 3
  · simp only [if_pos h3] at h ⊢; exact av_parseerr h
  simp only [if_neg h3] at h ⊢
  by_cases h4 : p = 4
  · simp only [if_pos h4] at h ⊢; exact parseI_place h
  · simp only [if_neg h4] at h ⊢
    exact ⟨trivial, by simp, by simp⟩
theorem ngR_good {m : Msg} (h : NgR m) : GoodG m ∧ Small m := by
  have hl : m.list = [] := congrArg S_api_Msg.list h.is
  have hs : m.subs = [] := congrArg S_api_Msg.subs h.is
  have := h.tag
  have := h.plen
  have := h.cmd
  exact ⟨⟨has64.2 (by omega), has64.2 (by omega), has64.2 (by omega), by rw [hl]; simp, by rw [hs]; simp⟩, by rw [hl]; simp, by rw [hs]; simp⟩
theorem rm_parse2 {b : Bs} : ∀ m ∈ (parseR b).1, okR m → RM m := fun m hm ho => by
  have hs := parseR_all (b := b) (P := fun m => m.list.length ≤ 1000000000 ∧ m.subs.length ≤ 1000000000) (fun c v s e => by simp [routeM]) m hm
  obtain ⟨_, _, _, _, _, _, _, h⟩ := ho
  exact ⟨has64.2 (by omega), has64.2 (by omega), hs.1, hs.2⟩
theorem p_parsed {p : Int} {b : Bs} (hb : b.length ≤ 100000) (h : (parseP p b).2.2 = 0) : (parseP p b).2.1 = 0 ∧ (∀ m ∈ (parseP p b).1, rightP p m = true ∧ GoodP p m ∧ Small m) ∧ (parseP p b).1.length ≤ 65535 ∧ (p = 1 → (parseP p b).1.length ≤ 1000) := by
  unfold parseP at h ⊢
  unfold rightP GoodP
  by_cases h1 : p = 1
  · simp only [if_pos h1] at h ⊢
    obtain ⟨r, r1, r2, r3, r4, r5⟩ := parse_good h
    have hrm := rm_parse2 (b := b)
    rw [r1] at hrm ⊢
    exact ⟨rfl, fun m hm => ⟨rightR_true.2 (r4 m hm), ⟨fun _ => hrm m hm (r4 m hm), fun q => by omega, fun q => by omega, fun q => by omega⟩, (hrm m hm (r4 m hm)).list, (hrm m hm (r4 m hm)).subs⟩, by dsimp only; omega, fun _ => by dsimp only; omega⟩
  simp only [if_neg h1] at h ⊢
  by_cases h2 : p = 2
  · simp only [if_pos h2] at h ⊢
    obtain ⟨k0, k1, k2, k3, _, _⟩ := ng_again h
    exact ⟨k0, fun m hm => ⟨ngR_iff.2 (k1 m hm), ⟨fun q => by omega, fun _ => (ngR_good (k1 m hm)).1, fun q => by omega, fun q => by omega⟩, (ngR_good (k1 m hm)).2⟩, by omega, fun q => absurd q h1⟩
  simp only [if_neg h2] at h ⊢
  by_cases h3 : p = 3
  · simp only [if_pos h3] at h ⊢
    obtain ⟨m, k1, k2, k3, k4, k5, k6⟩ := av_again h
    rw [k1]
    have hg := avB_good k2 (by omega)
    exact ⟨rfl, fun x hx => by rw [List.mem_singleton.1 hx]; exact ⟨k2, ⟨fun q => by omega, fun q => by omega, fun _ => hg, fun q => by omega⟩, by have := hg.list; omega, by have := hg.subs1; omega⟩, by simp, fun q => absurd q h1⟩
  simp only [if_neg h3] at h ⊢
  by_cases h4 : p = 4
  · simp only [if_pos h4] at h ⊢
    obtain ⟨k1, k2⟩ := parseI_right b
    refine ⟨?_, fun m hm => ⟨leanR_iff.2 (k1 m hm).1, ⟨fun q => by omega, fun q => by omega, fun q => by omega, fun _ => (k1 m hm).2⟩, (k1 m hm).2.small⟩, k2, fun q => absurd q h1⟩
    rcases parseI_cases b with ⟨q, _⟩ | ⟨l, _, _, _, _, q⟩
    · exact absurd h q
    · rw [q]
  · simp only [if_neg h4] at h; cases h
end Go.VP
set_option linter.unusedVariables false
set_option linter.unusedSimpArgs false
set_option maxRecDepth 100000
namespace Go.VP
open Go Go.VI
abbrev quad {α β γ δ : Type} (x : α × β × γ × δ) : α × β × γ × δ × Unit := (x.1, x.2.1, x.2.2.1, x.2.2.2, ())
noncomputable def joinGo (p : Int) : List Bs → Nat → List Msg → List Msg × Int × Int × Int
  | [], _, acc => (acc, 0, 0, 0)
  | b :: r, i, acc => if (parseP p b).2.2 ≠ 0 then ([], (i : Int), (parseP p b).2.1, (parseP p b).2.2) else joinGo p r (i + 1) (acc ++ (parseP p b).1)
noncomputable def joinP (p : Int) (d : List Bs) : List Msg × Int × Int × Int := if p < 1 ∨ 4 < p then ([], 0, 0, 1) else joinGo p d 0 []
theorem parse_len {p : Int} {b : Bs} (hb : b.length ≤ 100000) : (parseP p b).1.length ≤ 65535 := by
  by_cases h : (parseP p b).2.2 = 0
  · exact (p_parsed hb h).2.2.1
  · rw [(p_parseerr h).1]; simp
theorem room_msgs {a b : Nat} (h : a + b ≤ 300000000) : roomB ((a + b) * bo_api_Msg) = true :=
  roomB_of (Nat.le_trans (Nat.mul_le_mul h msgBo) (by decide))
theorem join_loop {n : Nat} {p : Int} {d : List Bs} (hd : d.length ≤ 1000) (hb : ∀ b ∈ d, b.length ≤ 100000) : ∀ (k m i : Nat) (acc : List Msg), i + k = d.length → k < m → acc.length ≤ 65535 * i →
    L_join_Join_0 n m p d acc i = some (quad (joinGo p (d.drop i) i acc), ()) := by
  intro k
  induction k with
  | zero =>
    intro m i acc h hm ha
    obtain ⟨m, rfl⟩ : ∃ j, m = j + 1 := ⟨m - 1, by omega⟩
    rw [L_join_Join_0_eq, ifn (by omega), List.drop_eq_nil_of_le (by omega)]; rfl
  | succ k ih =>
    intro m i acc h hm ha
    obtain ⟨m, rfl⟩ : ∃ j, m = j + 1 := ⟨m - 1, by omega⟩
    have hi : i < d.length := by omega
    have hl := hb _ (List.getElem_mem hi)
    have hpl := parse_len (p := p) hl
    rw [L_join_Join_0_eq, ifd (by omega), if_pos (by omega), Int.toNat_natCast, bind_at hi, sparse_is hl, Option.bind_some, List.drop_eq_getElem_cons hi, joinGo]
    refine ne_step (fun q => ?_) (fun q => ?_)
    · rw [if_pos q]
    · have := ih m (i + 1) (acc ++ (parseP p d[i]).1) (by omega) (by omega) (by rw [List.length_append]; omega)
      rw [show ((i + 1 : Nat) : Int) = (i : Int) + 1 by omega] at this
      rw [if_neg (show ¬ (parseP p d[i]).2.2 ≠ 0 from fun c => c q), w64 (by omega) (by omega), ← this]
      exact if_pos (room_msgs (a := acc.length) (b := (parseP p d[i]).1.length) (by omega))
theorem rjoin_loop {n : Nat} {p : Int} {d : List Bs} (hd : d.length ≤ 1000) (hb : ∀ b ∈ d, b.length ≤ 100000) : ∀ (k m i : Nat) (acc : List Msg), i + k = d.length → k < m → acc.length ≤ 65535 * i →
    L_ref28_Join_0 n m p d acc i = some (quad (joinGo p (d.drop i) i acc), ()) := by
  intro k
  induction k with
  | zero =>
    intro m i acc h hm ha
    obtain ⟨m, rfl⟩ : ∃ j, m = j + 1 := ⟨m - 1, by omega⟩
    rw [L_ref28_Join_0_eq, ifn (by omega), List.drop_eq_nil_of_le (by omega)]; rfl
  | succ k ih =>
    intro m i acc h hm ha
    obtain ⟨m, rfl⟩ : ∃ j, m = j + 1 := ⟨m - 1, by omega⟩
    have hi : i < d.length := by omega
    have hl := hb _ (List.getElem_mem hi)
    have hpl := parse_len (p := p) hl
    rw [L_ref28_Join_0_eq, ifd (by omega), if_pos (by omega), Int.toNat_natCast, bind_at hi, rsparse_is hl, Option.bind_some, List.drop_eq_getElem_cons hi, joinGo]
    refine ne_step (fun q => ?_) (fun q => ?_)
    · rw [if_pos q]
    · have := ih m (i + 1) (acc ++ (parseP p d[i]).1) (by omega) (by omega) (by rw [List.length_append]; omega)
      rw [show ((i + 1 : Nat) : Int) = (i : Int) + 1 by omega] at this
      rw [if_neg (show ¬ (parseP p d[i]).2.2 ≠ 0 from fun c => c q), w64 (by omega) (by omega), ← this]
      exact if_pos (room_msgs (a := acc.length) (b := (parseP p d[i]).1.length) (by omega))
theorem join_is {p : Int} {d : List Bs} (hd : d.length ≤ 1000) (hb : ∀ b ∈ d, b.length ≤ 100000) : g_join_Join (p, d, ()) = some (quad (joinP p d), ()) := by
  show h_join_Join fuel _ = _
  rw [h_join_Join_eq]
  unfold joinP
  refine dq_step (fun h => by rw [if_pos (Or.inl h)]) (fun h1 => ?_)
  refine dq_step (fun h => by rw [if_pos (Or.inr h)]) (fun h2 => ?_)
  rw [if_neg (show ¬ (p < 1 ∨ 4 < p) by omega)]
  exact join_loop (n := fuel) hd hb d.length fuel 0 [] (by omega) (fuel_ge (by omega)) (by simp)
theorem rjoin_is {p : Int} {d : List Bs} (hd : d.length ≤ 1000) (hb : ∀ b ∈ d, b.length ≤ 100000) : g_ref28_Join (p, d, ()) = some (quad (joinP p d), ()) := by
  show h_ref28_Join fuel _ = _
  rw [h_ref28_Join_eq]
  unfold joinP
  refine dq_step (fun h => by rw [if_pos (Or.inl h)]) (fun h1 => ?_)
  refine dq_step (fun h => by rw [if_pos (Or.inr h)]) (fun h2 => ?_)
  rw [if_neg (show ¬ (p < 1 ∨ 4 < p) by omega)]
  exact rjoin_loop (n := fuel) hd hb d.length fuel 0 [] (by omega) (fuel_ge (by omega)) (by simp)
theorem joinGo_ok {p : Int} : ∀ (d : List Bs) (i : Nat) (acc : List Msg), (∀ b ∈ d, b.length ≤ 100000) → (∀ m ∈ acc, Small m) → (∀ m ∈ (joinGo p d i acc).1, Small m) ∧ (joinGo p d i acc).1.length ≤ acc.length + 65535 * d.length
  | [], i, acc, _, h => ⟨h, by simp [joinGo]⟩
  | b :: r, i, acc, hb, h => by
    rw [joinGo]
    by_cases q : (parseP p b).2.2 ≠ 0
    · rw [if_pos q]; exact ⟨fun m hm => (by cases hm), by simp⟩
    · rw [if_neg q]
      have hl := hb b (List.mem_cons_self ..)
      have hp := parse_len (p := p) hl
      obtain ⟨k1, k2⟩ := joinGo_ok (p := p) r (i + 1) (acc ++ (parseP p b).1) (fun x hx => hb x (List.mem_cons_of_mem _ hx)) (fun m hm => (List.mem_append.1 hm).elim (h m) (fun hm => ((p_parsed hl (Classical.byContradiction q)).2.1 m hm).2.2))
      exact ⟨k1, by rw [List.length_append] at k2; rw [List.length_cons]; omega⟩
end Go.VP
set_option linter.unusedVariables false
set_option linter.unusedSimpArgs false
set_option maxRecDepth 100000
namespace Go.VP
open Go Go.VI
theorem awake28 : g_law28_awake () = some ((true, ()), ()) := by kernel_rfl
theorem awb28 {α : Type} (f : (Bool × Unit) × Unit → Option α) : (g_law28_awake ()).bind f = f ((true, ()), ()) := by rw [awake28]; rfl
theorem few28_loop {n : Nat} {d : List Bs} (hl : d.length ≤ 1000) : ∀ (k m i : Nat), i + k = d.length → k < m → ∃ b, L_law28_few_0 n m d i = some ((b, ()), ()) ∧ (b = true → ∀ x ∈ d.drop i, x.length ≤ 1000) := by
  intro k
  induction k with
  | zero =>
    intro m i h hm
    obtain ⟨m, rfl⟩ : ∃ j, m = j + 1 := ⟨m - 1, by omega⟩
    rw [L_law28_few_0_eq, ifn (by omega), List.drop_eq_nil_of_le (by omega)]
    exact ⟨true, rfl, fun _ x hx => by cases hx⟩
  | succ k ih =>
    intro m i h hm
    obtain ⟨m, rfl⟩ : ∃ j, m = j + 1 := ⟨m - 1, by omega⟩
    have hi : i < d.length := by omega
    obtain ⟨b, h1, h2⟩ := ih m (i + 1) (by omega) (by omega)
    rw [show ((i + 1 : Nat) : Int) = (i : Int) + 1 by omega] at h1
    rw [L_law28_few_0_eq, ifd (by omega), if_pos (by omega), Int.toNat_natCast, bind_at hi, w64 (by omega) (by omega), h1]
    by_cases c : (1000 : Int) < (d[i].length : Int)
    · rw [ifd c]; exact ⟨false, rfl, fun h => by cases h⟩
    · rw [ifn c]
      refine ⟨b, rfl, fun hb x hx => ?_⟩
      rw [List.drop_eq_getElem_cons hi] at hx
      rcases List.mem_cons.1 hx with rfl | hx
      · omega
      · exact h2 hb x hx
theorem few28_is (d : List Bs) : ∃ b, g_law28_few (d, ()) = some ((b, ()), ()) ∧ (b = true → d.length ≤ 12 ∧ ∀ x ∈ d, x.length ≤ 1000) := by
  show ∃ b, h_law28_few fuel (d, ()) = _ ∧ _
  rw [h_law28_few_eq]
  by_cases c : (12 : Int) < (d.length : Int)
  · rw [ifd c]; exact ⟨false, rfl, fun h => by cases h⟩
  · rw [ifn c]
    obtain ⟨b, h1, h2⟩ := few28_loop (n := fuel) (d := d) (by omega) d.length fuel 0 (by omega) (fuel_ge (by omega))
    exact ⟨b, h1, fun hb => ⟨by omega, fun x hx => h2 hb x (by simpa using hx)⟩⟩
end Go.VP
